/- Words for memory that every walk of this seat uses: slices that read as lists, blocks known whole, worlds that came by making memory alone, regions that draw their order. -/
import Derived.Test.YtacinobmcgcccaaGreatDoorRows
import Derived.WalkKit
import Derived.WalkSpells
import Derived.WalkLawsBesides
import Derived.Below
import Derived.Laws.OwnMore
import Derived.Deep.AppendLies
import Derived.Deep.Draws
import Derived.Laws.Rows
import Derived.Lib.Hide
import Derived.Deep.QuietTactic
import Derived.BigQuiet
import Derived.RegionTactic
import Derived.LoopTactic
import Derived.Maps.AppendAt
import Derived.OwnWalk
import Derived.ArgAppend
set_option linter.unusedSimpArgs false
set_option linter.unusedVariables false
namespace Go.Proofs.YtacinobmcgcccaaGreatDoor
open Go.RowKit
theorem bR {n:Nat} {w:World}:Below n w w:=Below.refl _ _
theorem nLl {n m k:Nat} (h:n<m) (h2:m≤k):n<k:=Nat.lt_of_lt_of_le h h2
theorem hide {p:Prop} (h:p):Hid p:=h
theorem ret_bool {a b:Bool} (h:a=b):Ending.returned (.bool a)=Ending.returned (.bool b):=by rw [h]
theorem ret_int {k:IntKind} {a b:Int} (h:a=b):Ending.returned (.int k a)=.returned (.int k b):=by rw [h]
theorem block_of_add (a:Addr) (n:Nat):(a.add n).block=a.block:=by unfold Addr.add;split <;> rfl
theorem add_of_add (a:Addr) (i j:Nat):(a.add i).add j=a.add (i+j):=by
 unfold Addr.add;by_cases hi:i=0 <;> by_cases hj:j=0 <;> simp [hi,hj,Nat.add_assoc]

def Reads (w:World) (B size:Nat) (A:Option Addr) (n:Nat) (xs:List Value):Prop:=
 xs.length=n * size∧(0<n → ∃ ad,A=some ad∧ad.block<B ∧ ∀ j u,xs[j]? = some u→w.cell? (ad.add j)=some u)

section
variable {w w':World} {B B' size n:Nat} {A:Option Addr} {xs:List Value}
theorem Reads.at_ {k:Nat} (h:Reads w B 1 A n xs) (hk:k<n):∃ ad u,A=some ad∧ad.block<B∧xs[k]? = some u∧w.cell? (ad.add k)=some u:=by
 obtain ⟨ad,e,hb,hc⟩:=h.2 (by omega);have hl:k<xs.length:=by have:=h.1;omega
 exact ⟨ad,xs[k],e,hb,List.getElem?_eq_getElem hl,hc k _ (List.getElem?_eq_getElem hl)⟩
theorem Reads.keep (h:Reads w B size A n xs) (hk:∀ p:Addr,p.block<B→w'.cell? p=w.cell? p):Reads w' B size A n xs:=
 ⟨h.1,fun hn=>by
  obtain ⟨ad,e,hb,hc⟩:=h.2 hn;exact ⟨ad,e,hb,fun j u hu=>(hk _ (by rw [block_of_add];exact hb)).trans (hc j u hu)⟩⟩
theorem Reads.more (h:Reads w B size A n xs) (hB:B≤B'):Reads w B' size A n xs:=
 ⟨h.1,fun hn=>by
  obtain ⟨ad,e,hb,hc⟩:=h.2 hn;exact ⟨ad,e,by omega,hc⟩⟩
theorem Reads.below (h:Reads w B size A n xs) (hb:Below B w w'):Reads w' B size A n xs:=h.keep fun _ hp=>hb.cell hp
theorem Reads.drew (h:Reads w B size A n xs):Reads w.drew B size A n xs:=h
theorem Reads.drewN (h:Reads w B size A n xs) (k:Nat):Reads (w.drewN k) B size A n xs:=h
theorem Reads.alloc (h:Reads w B size A n xs) (hB:B≤w.heap.size) (o:Obj):Reads (w.alloc o) B size A n xs:=h.keep fun p hp=>World.cell?_alloc_lt w o p (by omega)
theorem Reads.setCell (h:Reads w B size A n xs) {p:Addr} (hB:B≤p.block) (u:Value):Reads (w.setCell p u) B size A n xs:=
 h.keep fun q hq=>World.cell?_setCell_other w p q u (fun e=>by subst e;omega)
theorem Reads.grown (h:Reads w B size A n xs) {row:Option Nat} (hg:w.grownBy w' row) (hB:B≤w.heap.size) (hr:∀ g,row=some g→B≤g):Reads w' B size A n xs:=
 h.keep fun p hp=>World.cell?_of_block (hg.block p.block (by omega) (fun e=>by have:=hr _ e.symm;omega))
theorem Reads.cut (h:Reads w B size A n xs) {k cap:Nat} (hk:k≤n) (hc:n≤cap) :
 Reads w B size (if cap=k then A else A.map (·.add (k * size))) (n - k) (xs.drop (k * size)):=by
 refine ⟨by rw [List.length_drop,h.1,Nat.sub_mul],fun hn=>?_⟩;obtain ⟨ad,rfl,hb,hcell⟩:=h.2 (by omega);rw [if_neg (by omega)];refine ⟨ad.add (k * size),rfl,by rw [block_of_add];exact hb,fun j u hu=>?_⟩;rw [add_of_add];exact hcell _ u (by rw [← hu,List.getElem?_drop])
theorem Reads.of_own {base:Nat} {e:TypeId} {c:Nat} (h:w.ownsRow base e size (.slice A n c) n xs):Reads w w.heap.size size A n xs:=by
 refine ⟨h.1,fun hn=>?_⟩;obtain ⟨g,cap,hv,_,hlt⟩:=h.form hn;have hA:A=some ⟨g,0,none⟩:=by injection hv
 subst hA;exact ⟨_,rfl,hlt,h.cells (g:=g) rfl⟩
end

def Blk (w:World) (g:Nat) (t:TypeId) (cs:Array Value):Prop:=w.heap[g]? = some (.cells cs t (0,0))

section
variable {w w':World} {g:Nat} {t:TypeId} {cs:Array Value}
theorem Blk.lt (h:Blk w g t cs):g<w.heap.size:=by
 rcases Nat.lt_or_ge g w.heap.size with hlt|hge
 ·exact hlt
 ·unfold Blk at h;rw [Array.getElem?_eq_none hge] at h;cases h
theorem Blk.cell (h:Blk w g t cs) (i:Nat):w.cell? ⟨g,i,none⟩=cs[i]?:=cell_of_row w g i cs t (0,0) h
theorem Blk.frozen (h:Blk w g t cs) (i:Nat):w.frozen? ⟨g,i,none⟩=false:=by
 unfold Blk at h;simp [World.frozen?,h]
theorem Blk.new (w:World) (t:TypeId) (cs:Array Value):Blk (w.alloc (.cells cs t)) w.heap.size t cs:=heap_alloc_new w _
theorem Blk.drew (h:Blk w g t cs):Blk w.drew g t cs:=h
theorem Blk.drewN (h:Blk w g t cs) (n:Nat):Blk (w.drewN n) g t cs:=h
theorem Blk.alloc (h:Blk w g t cs) (o:Obj):Blk (w.alloc o) g t cs:=(Below.heap_alloc w o g h.lt).trans h
theorem Blk.set_ (h:Blk w g t cs) (i:Nat) (u:Value):Blk (w.setCell ⟨g,i,none⟩ u) g t (cs.setIfInBounds i u):=by
 unfold Blk at h ⊢;simp [World.setCell,Array.getElem?_modify,h]
theorem Blk.far (h:Blk w g t cs) {p:Addr} (hp:g≠p.block) (u:Value):Blk (w.setCell p u) g t cs:=(Below.heap_setCell w p u g hp).trans h
theorem Blk.below {B:Nat} (h:Blk w g t cs) (hb:Below B w w') (hg:g<B):Blk w' g t cs:=(hb.block g hg).trans h
theorem Blk.grown {row:Option Nat} (h:Blk w g t cs) (hb:w.grownBy w' row) (hg:some g≠row):Blk w' g t cs:=(hb.block g h.lt hg).trans h
theorem Blk.ne_ {g':Nat} {t':TypeId} {cs':Array Value} (h:Blk w g t cs) (h':Blk w g' t' cs') (hne:t≠t'):g≠g':=by
 rintro rfl;unfold Blk at h h';rw [h] at h';injection h' with h';injection h' with _ ht;exact hne ht
theorem own_blk_ne {base:Nat} {e:TypeId} {size n:Nat} {v:Value} {xs:List Value} (h:w.ownsRow base e size v n xs) (hg:Blk w g t cs) (hne:e≠t):v.ownBlock≠some g:=by
 rcases h.2 with ⟨rfl,_⟩|⟨g',cap,cur,rfl,_,hh,_⟩
 ·simp [Value.ownBlock]
 ·intro he;have:g'=g:=by simpa [Value.ownBlock] using he
  subst this;exact Blk.ne_ (t:=e) hh hg hne rfl
end

section
variable {P:Program} (w:World)

theorem run_append_of_nil (base:Nat) (t ty e:TypeId) (i:TypeInfo) (size:Nat) (ht:P.underlying t=some (.slice e)) (hi:P.info? e=some i)
 (v:Value) (n:Nat) (xs:List Value) (hown:w.ownsRow base e size v n xs) (c:Nat):(Builtin.append_ #[t,t] ty #[v,.slice none 0 c]).run P w=.ok v w:=by
 rcases hown.2 with ⟨rfl,rfl⟩|⟨g,cap,cur,rfl,_,_,hnc,_⟩
 ·simp [Builtin.append_,run_underlying ht,sizeOf,typeInfo,hi,Builtin.lenOf,Builtin.firstCells]
 ·simp [Builtin.append_,run_underlying ht,sizeOf,typeInfo,hi,Builtin.lenOf,Builtin.firstCells,hnc,storeCells]

theorem run_append_any (base:Nat) (t ty e:TypeId) (i:TypeInfo) (z:Value) (size bytes:Nat) (ht:P.underlying t=some (.slice e)) (hi:P.info? e=some i) (hz:i.zero=some z)
 (hsize:i.size=size) (hby:i.bytes=bytes) (hzs:z.cells.size=size) (hsz:0<size)
 (v:Value) (n:Nat) (xs:List Value) (hown:w.ownsRow base e size v n xs)
 (B:Nat) (A:Option Addr) (m c:Nat) (news:List Value) (hr:Reads w B size A m news) (h1:∀ u∈news,u.oneCell'=true)
 (h63:n+m≤maxLen) (hbytes:(n+m) * bytes≤140737488355328) (hbase:base≤w.heap.size) :
 ∃ v' w',(Builtin.append_ #[t,t] ty #[v,.slice A m c]).run P w=.ok v' w'∧w'.ownsRow base e size v' (n+m) (xs++news)∧w.grownBy w' v.ownBlock ∧
  (v'.ownBlock=v.ownBlock∨v'.ownBlock=some w.heap.size):=by
 rcases A with _|ad
 ·have hm:m=0:=by
   rcases Nat.eq_zero_or_pos m with h0|h0
   ·exact h0
   ·obtain ⟨ad,h,_⟩:=hr.2 h0;cases h
  subst hm;have hn:news=[]:=List.eq_nil_of_length_eq_zero (by simpa using hr.1);subst hn;exact ⟨v,w,run_append_of_nil w base t ty e i size ht hi v n xs hown c,by simpa using hown,World.grownBy.refl w _,.inl rfl⟩
 ·have hcells:∀ j u,news[j]? = some u→w.cell? (ad.add j)=some u:=by
   intro j u hu;rcases Nat.eq_zero_or_pos m with h0|h0
   ·subst h0;have hn:news=[]:=List.eq_nil_of_length_eq_zero (by simpa using hr.1);subst hn;simp at hu
   ·obtain ⟨ad',h,_,hc⟩:=hr.2 h0;injection h with h;subst h;exact hc j u hu
  obtain ⟨v',w',hrun,h2,h3,_,h5⟩:=run_append_own_at (P:=P) w base t ty e i z size bytes ht hi hz hsize hby hzs hsz v n xs hown ad m c news hr.1 hcells h1 h63 hbytes hbase;exact ⟨v',w',hrun,h2,h3,h5⟩

theorem wp_append_any {o:Oper} {a:Act} {K:Act→World→Prop} {Q:Exit→Act→World→Prop} (s x:Operand) (t:TypeId)
 (ho:o.op=.call { callee:=.builtin .append,args:=#[s,x],argTypes:=#[t,t] })
 (base:Nat) (e:TypeId) (i:TypeInfo) (z:Value) (size bytes:Nat) (ht:P.underlying t=some (.slice e)) (hi:P.info? e=some i) (hz:i.zero=some z)
 (hsize:i.size=size) (hby:i.bytes=bytes) (hzs:z.cells.size=size) (hsz:0<size)
 (v:Value) (n:Nat) (xs:List Value) (hs:a.eval s=v) (hown:w.ownsRow base e size v n xs)
 (B:Nat) (A:Option Addr) (m c:Nat) (news:List Value) (hx:a.eval x=.slice A m c) (hr:Reads w B size A m news) (h1:∀ u∈news,u.oneCell'=true)
 (h63:n+m≤maxLen) (hbytes:(n+m) * bytes≤140737488355328) (hbase:base≤w.heap.size)
 (h:∀ v' w',w'.ownsRow base e size v' (n+m) (xs++news)→w.grownBy w' v.ownBlock→(v'.ownBlock=v.ownBlock∨v'.ownBlock=some w.heap.size)→K (a.put o.dst v') w'):o.wp P a w K Q:=by
 obtain ⟨v',w',hrun,h2,h3,h4⟩:=run_append_any (P:=P) w base t o.type e i z size bytes ht hi hz hsize hby hzs hsz v n xs hown B A m c news hr h1 h63 hbytes hbase;unfold Oper.wp execOp;simp only [ho,resolve,invoke,builtin,Sem.run_bind,Sem.run_pure,Result.andThen_ok,List.map_toArray,List.map_cons,List.map_nil,hs,hx,hrun];exact h v' w' h2 h3 h4

theorem wpList_append_any {ops:Array Oper} {rest:List Oper} {o:Oper} {a:Act} {Q:Exit→Act→World→Prop} (hgd:o.guard=none) (s x:Operand) (t:TypeId)
 (ho:o.op=.call { callee:=.builtin .append,args:=#[s,x],argTypes:=#[t,t] })
 (base:Nat) (e:TypeId) (i:TypeInfo) (z:Value) (size bytes:Nat) (ht:P.underlying t=some (.slice e)) (hi:P.info? e=some i) (hz:i.zero=some z)
 (hsize:i.size=size) (hby:i.bytes=bytes) (hzs:z.cells.size=size) (hsz:0<size)
 (v:Value) (n:Nat) (xs:List Value) (hs:a.eval s=v) (hown:w.ownsRow base e size v n xs)
 (B:Nat) (A:Option Addr) (m c:Nat) (news:List Value) (hx:a.eval x=.slice A m c) (hr:Reads w B size A m news) (h1:∀ u∈news,u.oneCell'=true)
 (h63:n+m≤maxLen) (hbytes:(n+m) * bytes≤140737488355328) (hbase:base≤w.heap.size)
 (h:∀ v' w',w'.ownsRow base e size v' (n+m) (xs++news)→w.grownBy w' v.ownBlock→(v'.ownBlock=v.ownBlock∨v'.ownBlock=some w.heap.size)→wpList P ops Q rest (a.put o.dst v') w'):wpList P ops Q (o :: rest) a w:=
 wpList_plain hgd fun _ hK=>wp_append_any w s x t ho base e i z size bytes ht hi hz hsize hby hzs hsz v n xs hs hown B A m c news hx hr h1 h63 hbytes hbase fun v' w' h2 h3 h4=>hK _ _ (h v' w' h2 h3 h4)

end

theorem bal {a w:World} (h:Below a.heap.size a w) (o:Obj):Below a.heap.size a (w.alloc o):=h.alloc h.size o
theorem btr {a b c:World} (h:Below a.heap.size a b) (k:Below b.heap.size b c):Below a.heap.size a c:=h.trans (k.mono h.size)
structure Later (w:World) where
 v:World
 h:Below w.heap.size w v
def Later.first (w:World):Later w:=⟨w,Below.refl _ _⟩
def Later.step {w:World} (L:Later w) {x:World} (h:Below L.v.heap.size L.v x):Later w:=⟨x,L.h.trans (h.mono L.h.size)⟩
instance Later.some_ (w:World):Nonempty (Later w):=⟨Later.first w⟩
theorem Later.cell {w:World} (L:Later w) (a:Addr) (h:a.block<w.heap.size):L.v.cell? a=w.cell? a:=L.h.cell h
theorem Later.frozen {w:World} (L:Later w) (a:Addr) (h:a.block<w.heap.size):L.v.frozen? a=w.frozen? a:=L.h.frozen h
attribute [go_sem] Later.cell Later.frozen
theorem wp_region_later {P:Program} {id:Nat} {Q:Exit→Act→World→Prop} {a:Act} {w:World} {l:List Oper} (hm:P.follows .mixedOrders=true) (hB:Region.lexB .any l.toArray=true)
 (h:wpQuiet P l.toArray (fun w'=>∃ L:Later w,w'=L.v) (fun a'=>∀ w',(∃ L:Later w,w'=L.v)→Q .normal a' w') l a):(Code.region id l.toArray true).wp P Q a w:=
 wp_region_quiet (C:=fun w'=>∃ L:Later w,w'=L.v) hm hB ⟨⟨_,(Below.refl _ w).drew⟩,rfl⟩ (by simpa using h)
theorem Calls.later {P:Program} {f:FuncId} {args:Array Value} {w:World} {L:Later w} {v:Value}
 (h:Calls P f args L.v fun e w'=>e=.returned v∧Below L.v.heap.size L.v w'):Calls P f args L.v fun e w'=>e=.returned v ∧ ∃ L':Later w,w'=L'.v:=
 h.mono fun _ _ ⟨he,hb⟩=>⟨he,L.step hb,rfl⟩

theorem own_later {w w':World} {base:Nat} {e:TypeId} {size:Nat} {v:Value} {n:Nat} {xs:List Value} (h:w.ownsRow base e size v n xs) (hb:Below w.heap.size w w'):w'.ownsRow base e size v n xs:=by
 refine ⟨h.1,?_⟩;rcases h.2 with hn|⟨g,cap,cur,rfl,hbs,hgg,rest⟩
 ·exact .inl hn
 ·exact .inr ⟨g,cap,cur,rfl,hbs,(hb.block g (Array.getElem?_eq_some_iff.1 hgg).1).trans hgg,rest⟩
theorem own_base {w:World} {base base':Nat} {e:TypeId} {size:Nat} {v:Value} {n:Nat} {xs:List Value} (h:w.ownsRow base e size v n xs) (hb:base'≤base):w.ownsRow base' e size v n xs:=by
 refine ⟨h.1,?_⟩;rcases h.2 with hn|⟨g,cap,cur,hv,hbs,r⟩
 ·exact .inl hn
 ·exact .inr ⟨g,cap,cur,hv,Nat.le_trans hb hbs,r⟩
theorem own_block {w:World} {base:Nat} {e:TypeId} {size:Nat} {v:Value} {n:Nat} {xs:List Value} (h:w.ownsRow base e size v n xs):∀ k,v.ownBlock=some k→base≤k:=fun k hk=>(h.lt k hk).1
def Sl {α:Type} (k:Nat) (enc:α→List Value) (w:World) (B:Nat) (A:Option Addr) (n:Nat) (l:List α):Prop:=l.length=n∧Reads w B k A n (l.flatMap enc)
section
variable {α:Type} {k:Nat} {enc:α→List Value} {w w':World} {B B' n:Nat} {A:Option Addr} {l:List α}
theorem flat_len (henc:∀ x,(enc x).length=k) (l:List α):(l.flatMap enc).length=l.length * k:=by
 induction l with
 | nil=>simp
 | cons x l ih=>rw [List.flatMap_cons,List.length_append,ih,henc,List.length_cons,Nat.succ_mul];omega
theorem flat_get (henc:∀ x,(enc x).length=k):∀ (l:List α) (i:Nat) (hi:i<l.length) (j:Nat),j<k→(l.flatMap enc)[i * k+j]? = (enc l[i])[j]?
 | x :: l,0,_,j,hj=>by
   rw [List.flatMap_cons,List.getElem?_append_left (by rw [henc];omega)];simp
 | x :: l,i+1,hi,j,hj=>by
   rw [List.flatMap_cons,List.getElem?_append_right (by rw [henc,Nat.succ_mul];omega),henc];rw [show (i+1) * k+j - k=i * k+j by rw [Nat.succ_mul];omega];exact flat_get henc l i (by simpa using hi) j hj
theorem Sl.nil (B:Nat):Sl k enc w B A 0 []:=⟨rfl,by simp [Reads]⟩
theorem Sl.len (h:Sl k enc w B A n l):l.length=n:=h.1
theorem Sl.below (h:Sl k enc w B A n l) (hb:Below B w w'):Sl k enc w' B A n l:=⟨h.1,h.2.below hb⟩
theorem Sl.more (h:Sl k enc w B A n l) (hB:B≤B'):Sl k enc w B' A n l:=⟨h.1,h.2.more hB⟩
theorem Sl.later (h:Sl k enc w w.heap.size A n l) (hb:Below w.heap.size w w'):Sl k enc w' w'.heap.size A n l:=(h.below hb).more hb.size
theorem Sl.at (h:Sl k enc w B A n l) (henc:∀ x,(enc x).length=k) (hk:0<k) (hn:0<n) :
 ∃ b o,A=some ⟨b,o,none⟩∧b<B ∧ ∀ i (hi:i<l.length) j u,(enc l[i])[j]? = some u→w.cell? ⟨b,o+i * k+j,none⟩=some u:=by
 obtain ⟨hl,hlen,hr⟩:=h;obtain ⟨ad,hA,hB,hc⟩:=hr hn;have hfl:=flat_len henc l;have h0:∃ u,(l.flatMap enc)[0]? = some u:=⟨(l.flatMap enc)[0]'(by rw [hfl,hl];exact Nat.mul_pos hn hk),List.getElem?_eq_getElem _⟩;obtain ⟨u0,h0⟩:=h0;have hs:ad.spot=none:=by
  have:=hc 0 u0 h0;unfold Addr.add at this;simp only [if_pos] at this;unfold World.cell? at this;split at this
  ·split at this
   ·cases this
   ·rename_i hs;simpa using hs
  ·cases this
 obtain ⟨b,o,sp⟩:=ad;simp only at hs;subst hs;refine ⟨b,o,hA,hB,fun i hi j u hu=>?_⟩;have hj:j<k:=by
  have:=(List.getElem?_eq_some_iff.1 hu).1;rw [henc] at this;exact this
 have:=hc (i * k+j) u ((flat_get henc l i hi j hj).trans hu);rw [← this];unfold Addr.add;by_cases hz:i * k+j=0
 ·rw [if_pos hz];congr 2;omega
 ·rw [if_neg hz];congr 2;simp only [];omega
theorem Sl.own {base:Nat} {e:TypeId} {c:Nat} {n1:Nat} {xs:List Value} (hl:l.length=n) (hn:n1=n) (hx:xs=l.flatMap enc) (h:w.ownsRow base e k (.slice A n c) n1 xs):Sl k enc w w.heap.size A n l:=by
 subst hn;subst hx;exact ⟨hl,.of_own h⟩
theorem Sl.of_owns {base n1:Nat} {e:TypeId} {v:Value} {xs:List Value} (h:w.ownsRow base e k v n1 xs) (hn1:n1=n) (hl:l.length=n) (hx:xs=l.flatMap enc) :
 ∃ A c,v=.slice A n c∧n≤c∧c≤maxLen∧Sl k enc w w.heap.size A n l:=by
 subst hn1;rcases h.2 with ⟨hv,hn⟩|⟨g,cap,cur,hv,_,_,hc,hm,_⟩
 ·subst hn;exact ⟨none,0,hv,Nat.le_refl _,Nat.zero_le _,by subst hv;exact Sl.own hl rfl hx h⟩
 ·exact ⟨_,cap,hv,hc,hm,by subst hv;exact Sl.own hl rfl hx h⟩
theorem Sl.of_blk {g:Nat} {t:TypeId} {cs:Array Value} (h:Blk w g t cs) (hl:l.length=n) (hx:l.flatMap enc=cs.toList) (hs:cs.size=n * k):Sl k enc w w.heap.size (some ⟨g,0,none⟩) n l:=by
 refine ⟨hl,by rw [hx];simpa using hs,fun _=>⟨_,rfl,h.lt,fun j u hu=>?_⟩⟩;rw [hx,Array.getElem?_toList] at hu;rw [show (⟨g,0,none⟩:Addr).add j=⟨g,j,none⟩ by unfold Addr.add;split <;> simp_all,h.cell];exact hu
theorem Sl.cut (h:Sl k enc w B A n l) (henc:∀ x,(enc x).length=k) {i cap:Nat} (hi:i≤n) (hc:n≤cap) :
 Sl k enc w B (if cap=i then A else A.map (·.add (i * k))) (n - i) (l.drop i):=by
 refine ⟨by rw [List.length_drop,h.1],?_⟩;have:=h.2.cut hi hc;have he:(l.drop i).flatMap enc=(l.flatMap enc).drop (i * k):=by
  have hl:=h.1;clear this h hc
  induction i generalizing l n with
  | zero=>simp
  | succ i ih=>
    cases l with
    | nil=>simp
    | cons x l=>
      have e1:(enc x).drop ((i+1) * k)=[]:=List.drop_of_length_le (by rw [henc,Nat.succ_mul];omega);rw [List.drop_succ_cons,List.flatMap_cons,List.drop_append,e1,henc,List.nil_append,
       show (i+1) * k - k=i * k by rw [Nat.succ_mul];omega]
      exact ih (n:=n - 1) (by omega) (by simp at hl;omega)
 rw [he];exact this
theorem Sl.take (h:Sl k enc w B A n l) (henc:∀ x,(enc x).length=k) {i:Nat} (hi:i≤n):Sl k enc w B A i (l.take i):=by
 refine ⟨by rw [List.length_take,h.1];omega,?_⟩;have hfl:=flat_len henc (l.take i);refine ⟨by rw [hfl,List.length_take,h.1];congr 1;omega,fun h0=>?_⟩;obtain ⟨ad,hA,hB,hc⟩:=h.2.2 (by omega);refine ⟨ad,hA,hB,fun j u hu=>hc j u ?_⟩;have he:l.flatMap enc=(l.take i).flatMap enc++(l.drop i).flatMap enc:=by rw [← List.flatMap_append,List.take_append_drop]
 rw [he,List.getElem?_append_left (List.getElem?_eq_some_iff.1 hu).1];exact hu
end

def cmpOf (a b:Int):Int:=if a<b then -1 else if b<a then 1 else 0
def orOf (x y:Int):Int:=if x=0 then y else x
set_option maxHeartbeats 400000 in
theorem or_any (x y:Int) (g:Nat) (w:World) (c0:w.cell? ⟨g,0,none⟩=some (.int .i64 x)) (c1:w.cell? ⟨g,1,none⟩=some (.int .i64 y)) :
 Calls Tryz.prog 118 #[.slice (some ⟨g,0,none⟩) 2 2] w fun e w'=>e=.returned (.int .i64 (orOf x y))∧w=w':=by
 go_enter Tryz.func118,Tryz.ntmps118
 go_wp2
 go_loop [8] (fun i=>i=.int .i64 0∨(i=.int .i64 1∧x=0)∨(i=.int .i64 2∧x=0∧y=0)) (fun i=>2 - (intOf i).toNat)
 case atStart=>exact .inl rfl
 case round=>
  rcases hrel with rfl|⟨rfl,hx⟩|⟨rfl,hx,hy⟩
  ·by_cases hx:x=0
   ·have hx1:(x != 0)=false:=by simp [hx]
    have HX:=hide hx;clear hx
    go_wp2
    go_round
    case rel=>exact .inr (.inl ⟨rfl,HX.out⟩)
    case measure=>simp [intOf]
   ·have hx1:(x != 0)=true:=by simp [hx]
    go_wp2
    go_ret;exact ⟨ret_int (by unfold orOf;rw [if_neg hx]),rfl⟩
  ·have HX:=hide hx;clear hx;by_cases hy:y=0
   ·have hy1:(y != 0)=false:=by simp [hy]
    have HY:=hide hy;clear hy
    go_wp2
    go_round
    case rel=>exact .inr (.inr ⟨rfl,HX.out,HY.out⟩)
    case measure=>simp [intOf]
   ·have hy1:(y != 0)=true:=by simp [hy]
    go_wp2
    go_ret;exact ⟨ret_int (by unfold orOf;rw [if_pos HX.out]),rfl⟩
  ·have HX:=hide hx;have HY:=hide hy;clear hx hy
   go_wp2
   go_ret;exact ⟨ret_int (by unfold orOf;rw [if_pos HX.out,HY.out]),rfl⟩
set_option maxHeartbeats 400000 in
theorem cmpc_any (a b:Int) (w:World) :
 Calls Tryz.prog 50 #[.int .i64 a,.int .i64 b] w fun e w'=>e=.returned (.int .i64 (cmpOf a b))∧w=w':=by
 go_enter Tryz.func50,Tryz.ntmps50
 go_wp2
 all_goals go_ret
 all_goals exact ⟨ret_int (by unfold cmpOf;(repeat' split) <;> omega),rfl⟩
section
variable {P:Program} {ops:Array Oper} {Q:Exit→Act→World→Prop} {md:Region.Mode}
def seen (D:Nat→Bool) (i:Nat):Nat→Bool:=fun j=>j == i||D j
theorem listed_of_none {listed:Array Bool} (hs:listed.size=ops.size) (hord:∀ i o,ops[i]? = some o → ∀ e∈o.after,Region.binds md e=true→e.on<i)
 (h:Region.ready md ops listed=[]):∀ i,i<ops.size→listed.getD i false=true:=by
 intro i
 induction i using Nat.strongRecOn with
 | _ i ih=>
   intro hi;by_cases hc:listed.getD i false=true
   ·exact hc
   ·exfalso;have hm:i∈Region.ready md ops listed:=by
     refine mem_ready.2 ⟨?_,ops[i],Array.getElem?_eq_getElem hi,fun e he hb=>?_⟩
     ·have:i<listed.size:=by omega
      simp [this] at hc ⊢;exact hc
     ·have hlt:=hord i _ (Array.getElem?_eq_getElem hi) e he hb;exact ih e.on hlt (by omega)
    rw [h] at hm;cases hm
theorem wpAny_inv (I:(Nat→Bool)→Act→World→Prop) (hord:∀ i o,ops[i]? = some o → ∀ e∈o.after,Region.binds md e=true→e.on<i)
 (hstep:∀ i o,ops[i]? = some o → ∀ D a w,I D a w→D i=false→(∀ e∈o.after,Region.binds md e=true→D e.on=true) → ∀ K:Act→World→Prop,(∀ a w,I (seen D i) a w→K a w) →
   if Region.wanted o (yielded ops a.tmps) then o.wp P a w K Q else K (a.put o.dst undef) w)
 (hend:∀ D a w,I D a w→(∀ i,i<ops.size→D i=true)→Q .normal a w) :
 ∀ (fuel:Nat) (listed:Array Bool) (a:Act) (w:World),listed.size=ops.size→listed.toList.count false=fuel→I (fun j=>listed.getD j false) a w→wpAny P md ops Q fuel listed a w
 | 0,listed,a,w,hs,hc,hI=>by
   have hall:∀ i,i<ops.size→listed.getD i false=true:=fun i hi=>by
    have h1:∀ b∈listed.toList,b=true:=fun b hb=>by
     cases b
     ·exact absurd hc (by have:=List.count_pos_iff.2 hb;omega)
     ·rfl
    have hi':i<listed.size:=by omega
    simp [hi'];exact h1 _ (by simp)
   refine ⟨?_,hend _ _ _ hI hall⟩;rw [List.eq_nil_iff_forall_not_mem];intro j hj;obtain ⟨h0,o,ho,_⟩:=mem_ready.1 hj;have hjs:=(Array.getElem?_eq_some_iff.1 ho).1;have h1:=hall j hjs;have hj':j<listed.size:=by omega
   simp [hj'] at h0 h1;rw [h0] at h1;cases h1
 | fuel+1,listed,a,w,hs,hc,hI=>by
   refine ⟨fun h0=>hend _ _ _ hI (listed_of_none hs hord h0),fun i hi=>?_⟩;obtain ⟨h0,o,ho,hall⟩:=mem_ready.1 hi;have his:=(Array.getElem?_eq_some_iff.1 ho).1;have hi':i<listed.size:=by omega
   have hf:listed[i]=false:=by simpa [hi'] using h0
   have hnext:∀ a w,I (seen (fun j=>listed.getD j false) i) a w→wpAny P md ops Q fuel (listed.setIfInBounds i true) a w:=fun a w h=>by
    refine wpAny_inv I hord hstep hend fuel _ a w (by simpa using hs) ?_ ?_
    ·rw [Array.toList_setIfInBounds,List.count_set (by simpa using hi')];have hc':Array.count false listed=fuel+1:=by simpa using hc
     simp [hf];omega
    ·have:(fun j=>(listed.setIfInBounds i true).getD j false)=seen (fun j=>listed.getD j false) i:=by
      funext j;unfold seen;by_cases hj:j=i
      ·subst hj;simp [hi']
      ·rw [getD_set_ne false (Ne.symm hj)];have:(j == i)=false:=by simpa using hj
       rw [this];rfl
     rw [this];exact h
   have hst:=hstep i o ho _ a w hI (by simp [hi',hf]) (fun e he hb=>hall e he hb) _ hnext;unfold wpOp;simp only [ho];split
   ·rename_i hw;rw [if_pos hw] at hst;exact .inl hst
   ·rename_i hw;rw [if_neg hw] at hst;exact hst

def Steps1 (P:Program) (ops:Array Oper) (Q:Exit→Act→World→Prop) (I:(Nat→Bool)→Act→World→Prop):List Oper→Nat→Prop
 | [],_=>True
 | o :: rest,i=>(∀ D a w,I D a w→D i=false→(∀ e∈o.after,Region.binds .any e=true→D e.on=true) → ∀ K:Act→World→Prop,(∀ a w,I (seen D i) a w→K a w) →
    if Region.wanted o (yielded ops a.tmps) then o.wp P a w K Q else K (a.put o.dst undef) w)∧Steps1 P ops Q I rest (i+1)
theorem Steps1.get {I:(Nat→Bool)→Act→World→Prop}:∀ (l:List Oper) (k:Nat),Steps1 P ops Q I l k → ∀ j o,l[j]? = some o →
 ∀ D a w,I D a w→D (k+j)=false→(∀ e∈o.after,Region.binds .any e=true→D e.on=true) → ∀ K:Act→World→Prop,(∀ a w,I (seen D (k+j)) a w→K a w) →
  if Region.wanted o (yielded ops a.tmps) then o.wp P a w K Q else K (a.put o.dst undef) w
 | [],_,_,j,o,ho=>by simp at ho
 | o' :: l,k,h,0,o,ho=>by simp at ho;subst ho;exact h.1
 | o' :: l,k,h,j+1,o,ho=>by
   have:=Steps1.get l (k+1) h.2 j o (by simpa using ho);rw [show k+1+j=k+(j+1) by omega] at this;exact this
def edgesBack (l:List Oper):Bool:=l.zipIdx.all fun (o,i)=>o.after.all fun e=>!Region.binds .any e||decide (e.on<i)
theorem edgesBack_spec {l:List Oper} (h:edgesBack l=true):∀ i o,l.toArray[i]? = some o → ∀ e∈o.after,Region.binds .any e=true→e.on<i:=by
 intro i o ho e he hb;unfold edgesBack at h;rw [List.all_eq_true] at h;have h1:=h (o,i) (by
  rw [List.mem_zipIdx_iff_getElem?];simpa using ho)
 simp only [Array.all_eq_true'] at h1;have:=h1 e he;simpa [hb] using this
theorem wp_region_inv {id:Nat} {a:Act} {w:World} {l:List Oper} (hm:P.follows .mixedOrders=true) (hB:edgesBack l=true) (I:(Nat→Bool)→Act→World→Prop)
 (h0:I (fun _=>false) a w.drew) (hs:Steps1 P l.toArray Q I l 0)
 (hend:∀ D a w,I D a w→(∀ i,i<l.length→D i=true)→Q .normal a w):(Code.region id l.toArray true).wp P Q a w:=by
 refine wp_region_any hm (wpAny_inv I (edgesBack_spec hB) (fun i o ho=>?_) (fun D a w h1 h2=>hend D a w h1 (by simpa using h2)) _ _ _ _ (by simp) (by simp) ?_)
 ·have:=Steps1.get l 0 hs i o (by simpa using ho);simpa using this
 ·have:(fun j=>(Array.replicate l.toArray.size false).getD j false)=fun _=>false:=by
   funext j;by_cases hj:j<l.length <;> simp [Array.getElem?_replicate,hj]
  rw [this];exact h0
end
/-! Single operations over a frame of which single slots are known -/
section
variable {P:Program} {Q:Exit→Act→World→Prop} {a:Act} {w:World} {K:Act→World→Prop} {o:Oper}
theorem act_same {d:Nat} {v:Value} (h:d<a.tmps.size):(a.put (some d) v).eval (.tmp d)=v:=by
 simp [Act.put,Act.eval,h]
theorem act_ne {d e:Nat} {v:Value} (h:e≠d):(a.put (some d) v).eval (.tmp e)=a.eval (.tmp e):=by
 have h':d≠e:=fun x=>h x.symm
 simp [Act.put,Act.eval,Array.getElem?_setIfInBounds,h']
theorem act_size {d:Option Tmp} {v:Value}:(a.put d v).tmps.size=a.tmps.size:=by cases d <;> simp [Act.put]
theorem act_defers {d:Option Tmp} {v:Value}:(a.put d v).defers=a.defers:=by cases d <;> simp [Act.put]
theorem op_move (x:Operand) (h:o.op=.move x) (hk:K (a.put o.dst (a.eval x)) w):o.wp P a w K Q:=by
 unfold Oper.wp;rw [BigFrame.run_move x h];exact hk
theorem op_assign (x:Operand) (h:o.op=.assign x) (hk:K (a.put o.dst (a.eval x)) w):o.wp P a w K Q:=by
 unfold Oper.wp;rw [BigFrame.run_assign x h];exact hk
end
/-! A region that draws its order, each operation with a fact on its own slot that every later world keeps -/
structure Fact where
 d:Nat
 R:Value→World→Prop
section
variable {P:Program} {Q:Exit→Act→World→Prop}
structure Ground (N:Nat) (a0:Act) (ds:List Nat) (w0:World) (a:Act) (w:World):Prop where
 sz:a.tmps.size=N
 df:a.defers=[]
 kp:∀ t,t ∉ ds→a.eval (.tmp t)=a0.eval (.tmp t)
 hb:Below w0.heap.size w0 w
structure FactsInv (N:Nat) (a0:Act) (ds:List Nat) (w0:World) (sp:List Fact) (D:Nat→Bool) (a:Act) (w:World):Prop where
 g:Ground N a0 ds w0 a w
 f:∀ (j:Nat) (e:Fact),sp[j]? = some e→D j=true→e.R (a.eval (.tmp e.d)) w
def StepsF (P:Program) (Q:Exit→Act→World→Prop) (N:Nat) (a0:Act) (ds:List Nat) (w0:World) (sp:List Fact):List Oper→List Fact→Prop
 | o :: ops,e :: es=>(∀ a w,Ground N a0 ds w0 a w→(∀ x∈o.after,Region.binds .any x=true → ∀ e':Fact,sp[x.on]? = some e'→e'.R (a.eval (.tmp e'.d)) w) →
    ∀ K:Act→World→Prop,(∀ v w',Below w.heap.size w w'→e.R v w'→K (a.put (some e.d) v) w')→o.wp P a w K Q)∧StepsF P Q N a0 ds w0 sp ops es
 | [],[]=>True
 | _,_=>False
theorem StepsF.get {N:Nat} {a0:Act} {ds:List Nat} {w0:World} {sp:List Fact}:∀ (ops:List Oper) (es:List Fact),StepsF P Q N a0 ds w0 sp ops es → ∀ (j:Nat) (o:Oper),ops[j]? = some o → ∃ e:Fact,es[j]? = some e ∧
 (∀ a w,Ground N a0 ds w0 a w→(∀ x∈o.after,Region.binds .any x=true → ∀ e':Fact,sp[x.on]? = some e'→e'.R (a.eval (.tmp e'.d)) w) →
   ∀ K:Act→World→Prop,(∀ v w',Below w.heap.size w w'→e.R v w'→K (a.put (some e.d) v) w')→o.wp P a w K Q)
 | o' :: ops,e' :: es,h,0,o,ho=>by simp at ho;subst ho;exact ⟨e',rfl,h.1⟩
 | o' :: ops,e' :: es,h,j+1,o,ho=>by
   obtain ⟨e,h1,h2⟩:=StepsF.get ops es h.2 j o (by simpa using ho);exact ⟨e,by simpa using h1,h2⟩
 | [],[],_,j,o,ho=>by simp at ho
 | _ :: _,[],h,_,_,_=>by simp [StepsF] at h
 | [],_ :: _,h,_,_,_=>by simp [StepsF] at h
def factsOk (N:Nat) (ds:List Nat) (l:List Oper):Bool:=
 ds.all (fun d=>decide (d<N))&&(List.range ds.length).all (fun i=>(List.range ds.length).all fun j=>i == j||ds[i]? != ds[j]?)&&l.all (fun o=>o.guard.isNone)&&decide (l.length=ds.length)
def fillF (a0:Act) (ds:List Nat) (f:Nat→Value):Act:=ds.foldl (fun a d=>a.put (some d) (f d)) a0
theorem fillF_size (f:Nat→Value):∀ (ds:List Nat) (a0:Act),(fillF a0 ds f).tmps.size=a0.tmps.size
 | [],a0=>rfl
 | d :: ds,a0=>by
   show (fillF (a0.put (some d) (f d)) ds f).tmps.size=_;rw [fillF_size f ds,act_size]
theorem fillF_defers (f:Nat→Value):∀ (ds:List Nat) (a0:Act),(fillF a0 ds f).defers=a0.defers
 | [],a0=>rfl
 | d :: ds,a0=>by
   show (fillF (a0.put (some d) (f d)) ds f).defers=_;rw [fillF_defers f ds,act_defers]
theorem fillF_eval (f:Nat→Value):∀ (ds:List Nat) (a0:Act) (t:Nat),t<a0.tmps.size→(fillF a0 ds f).eval (.tmp t)=if t∈ds then f t else a0.eval (.tmp t)
 | [],a0,t,_=>by simp [fillF]
 | d :: ds,a0,t,ht=>by
   show (fillF (a0.put (some d) (f d)) ds f).eval (.tmp t)=_;rw [fillF_eval f ds _ t (by rw [act_size];exact ht)];by_cases h1:t∈ds
   ·simp [h1]
   ·by_cases h2:t=d
    ·subst h2;simp [h1,act_same ht]
    ·simp [h1,h2,act_ne h2]
theorem act_ext {a b:Act} (hs:a.tmps.size=b.tmps.size) (hd:a.defers=b.defers) (he:∀ t,t<a.tmps.size→a.eval (.tmp t)=b.eval (.tmp t)):a=b:=by
 obtain ⟨at_,ad⟩:=a;obtain ⟨bt,bd⟩:=b;simp only at hs hd;subst hd;congr 1;refine Array.ext hs (fun i h1 h2=>?_);have:=he i h1;simpa [Act.eval,h1,h2] using this
theorem Ground.fill {N:Nat} {a0:Act} {ds:List Nat} {w0:World} {a:Act} {w:World} (hN:a0.tmps.size=N) (hdf:a0.defers=[]) (h:Ground N a0 ds w0 a w):a=fillF a0 ds (fun d=>a.eval (.tmp d)):=by
 refine act_ext (by rw [fillF_size,hN];exact h.sz) (by rw [fillF_defers,hdf];exact h.df) (fun t ht=>?_);rw [fillF_eval _ ds a0 t (by rw [hN,← h.sz];exact ht)];by_cases h1:t∈ds
 ·simp [h1]
 ·simp [h1,h.kp t h1]
theorem wp_region_facts {id:Nat} {a0:Act} {w0:World} {l:List Oper} (hm:P.follows .mixedOrders=true) (hB:edgesBack l=true) (N:Nat) (sp:List Fact)
 (hok:factsOk N (sp.map (·.d)) l=true) (hN:a0.tmps.size=N) (hdf:a0.defers=[])
 (hmono:∀ e∈sp,∀ v w w',Below w0.heap.size w0 w→Below w.heap.size w w'→e.R v w→e.R v w')
 (hs:StepsF P Q N a0 (sp.map (·.d)) w0 sp l sp)
 (hend:∀ (f:Nat→Value) w,Below w0.heap.size w0 w→(∀ e∈sp,e.R (f e.d) w)→Q .normal (fillF a0 (sp.map (·.d)) f) w):(Code.region id l.toArray true).wp P Q a0 w0:=by
 unfold factsOk at hok;simp only [Bool.and_eq_true,List.all_eq_true,decide_eq_true_eq,List.length_map,List.mem_map,forall_exists_index,and_imp,forall_apply_eq_imp_iff₂,List.mem_range] at hok;obtain ⟨⟨⟨h1,h2⟩,h3⟩,h4⟩:=hok;have hinj:∀ (i j:Nat) (ei ej:Fact),sp[i]? = some ei→sp[j]? = some ej→i≠j→ei.d≠ej.d:=fun i j ei ej hi hj hij=>by
  have hi':=(List.getElem?_eq_some_iff.1 hi).1;have hj':=(List.getElem?_eq_some_iff.1 hj).1;have:=h2 i hi' j hj';simp [hi,hj,hij] at this;exact this
 refine wp_region_inv hm hB (FactsInv N a0 (sp.map (·.d)) w0 sp) ⟨⟨hN,hdf,fun _ _=>rfl,bR.drew⟩,fun j e _ h=>by cases h⟩ ?_ (fun D a w hI hall=>?_)
 ·suffices ∀ (l':List Oper) (k:Nat),(∀ (j:Nat) (o:Oper),l'[j]? = some o→l[k+j]? = some o)→Steps1 P l.toArray Q (FactsInv N a0 (sp.map (·.d)) w0 sp) l' k from this l 0 (fun j o h=>by simpa using h)
  intro l'
  induction l' with
  | nil=>intro k _;trivial
  | cons o l' ih=>
    intro k hk;refine ⟨?_,ih (k+1) (fun j o' h=>by have:=hk (j+1) o' (by simpa using h);rw [show k+1+j=k+(j+1) by omega];exact this)⟩;intro D a w hI hD hdep K hK;have hko:l[k]? = some o:=by simpa using hk 0 o rfl
    obtain ⟨e,he,hst⟩:=StepsF.get l sp hs k o hko;have hmem:e∈sp:=List.mem_of_getElem? he;have hg:o.guard=none:=by have:=h3 o (List.mem_of_getElem? hko);simpa using this
    rw [if_pos (by simp [Region.wanted,hg])];refine hst a w hI.g (fun x hx hb e' he'=>hI.f _ _ he' (hdep x hx hb)) K (fun v w' hb hv=>hK _ _ ?_);have hsz:e.d<a.tmps.size:=by rw [hI.g.sz];exact h1 e hmem
    refine ⟨⟨by rw [act_size];exact hI.g.sz,by rw [act_defers];exact hI.g.df,fun t ht=>?_,hI.g.hb.trans (hb.mono hI.g.hb.size)⟩,fun j e' he' hs'=>?_⟩
    ·rw [act_ne (fun h=>ht (by rw [h];exact List.mem_map.2 ⟨e,hmem,rfl⟩))];exact hI.g.kp t ht
    ·by_cases hj:j=k
     ·subst hj;rw [he] at he';cases he';rw [act_same hsz];exact hv
     ·rw [act_ne (hinj j k e' e he' he hj)];have hDj:D j=true:=by simpa [seen,hj] using hs'
      exact hmono e' (List.mem_of_getElem? he') _ w w' hI.g.hb hb (hI.f j e' he' hDj)
 ·rw [hI.g.fill hN hdf];refine hend _ w hI.g.hb (fun e he=>?_);obtain ⟨j,hj⟩:=List.mem_iff_getElem?.1 he;exact hI.f j e hj (hall j (by have:=(List.getElem?_eq_some_iff.1 hj).1;omega))
end
end Go.Proofs.YtacinobmcgcccaaGreatDoor
