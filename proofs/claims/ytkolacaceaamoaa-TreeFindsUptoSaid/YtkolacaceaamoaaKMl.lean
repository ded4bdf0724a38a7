/- The tree: the maker's memory; what New leaves (plain). -/
import Derived.Test.YtkolacaceaamoaaKMk
/- The tree: the maker's memory; what New leaves (plain). -/
set_option linter.unusedSimpArgs false
set_option linter.unusedVariables false
namespace Go.Proofs.Ytkolacaceaamoaa
open Go.RowKit
abbrev TMk:TypeId:=87
abbrev TI64:TypeId:=3
/-- What a pager turns as it works. -/
structure Pst where
 F:Nat → Prop
 L:List (Int × Cn)
 N:Nat
 frm:Int
 st:Cn
/-- What it keeps. -/
structure Pct where
 pb:Nat
 sb:Nat
 db:Nat
 n:Nat
 S:Int → Cn
 seq:Int
 root:Int
def PgS (w:World) (c:Pct) (m:Pst):Prop:=Pg w m.F c.pb c.sb c.db c.n 0 c.S m.L m.N c.seq c.root m.frm m.st
def Pst.C (c:Pct) (m:Pst):Int → Cn:=nowC c.S m.L
/-- Pages taken: T. -/
structure Grew (c:Pct) (m m':Pst) (T:List Nat):Prop where
 nd:T.Nodup
 in_:∀ p ∈ T,2 ≤ p ∧ p < c.n ∧ isFree m.st p ∧ ¬ isFree m'.st p
 old:∀ q,¬ isFree m.st q → ¬ isFree m'.st q ∧ m'.C c q = m.C c q
 rest:∀ q,isFree m.st q → q ∉ T → isFree m'.st q
 one:∀ p ∈ T,m'.st.getD p 0 = 1
 same:∀ q,¬ isFree m.st q → m'.st.getD q 0 = m.st.getD q 0
theorem Grew.refl (c:Pct) (m:Pst):Grew c m m []:=⟨List.nodup_nil,fun p hp=>(by cases hp),fun q hq=>⟨hq,rfl⟩,fun q hq _=>hq,fun p hp=>(by cases hp),fun _ _=>rfl⟩
theorem Grew.trans {c:Pct} {m m' m'':Pst} {T T':List Nat} (h:Grew c m m' T) (h':Grew c m' m'' T'):Grew c m m'' (T ++ T') where
 nd:=by
  rw [List.nodup_append]
  refine ⟨h.nd,h'.nd,fun p hp q hq e=>?_⟩
  subst e
  exact (h.in_ p hp).2.2.2 (h'.in_ p hq).2.2.1
 in_:=fun p hp=>by
  rcases List.mem_append.1 hp with hp | hp
  ·have:=h.in_ p hp
   exact ⟨this.1,this.2.1,this.2.2.1,(h'.old p this.2.2.2).1⟩
  ·have:=h'.in_ p hp
   refine ⟨this.1,this.2.1,?_,this.2.2.2⟩
   exact Classical.byContradiction fun hn=>(h.old p hn).1 this.2.2.1
 old:=fun q hq=>by
  have h1:=h.old q hq
  have h2:=h'.old q h1.1
  exact ⟨h2.1,h2.2.trans h1.2⟩
 rest:=fun q hq hn=>h'.rest q (h.rest q hq (fun e=>hn (List.mem_append_left _ e))) (fun e=>hn (List.mem_append_right _ e))
 one:=fun p hp=>by
  rcases List.mem_append.1 hp with hp | hp
  ·rw [h'.same p (h.in_ p hp).2.2.2]; exact h.one p hp
  ·exact h'.one p hp
 same:=fun q hq=>(h'.same q (h.old q hq).1).trans (h.same q hq)
theorem free_set {st:Cn} {a q:Nat} (ha:isFree st a):isFree (st.set a 1) q ↔ isFree st q ∧ q ≠ a:=by
 unfold isFree
 constructor
 ·rintro ⟨h,e⟩
  rw [List.length_set] at h
  by_cases hq:a = q
  ·subst hq
   simp at e
  ·rw [List.getElem_set_ne hq] at e
   exact ⟨⟨h,e⟩,fun e=>hq e.symm⟩
 ·rintro ⟨⟨h,e⟩,hne⟩
  refine ⟨by rw [List.length_set]; exact h,?_⟩
  rw [List.getElem_set_ne (fun e=>hne e.symm)]
  exact e
theorem nowC_app (S:Int → Cn) (L:List (Int × Cn)) (a:Int) (c:Cn) (q:Int):nowC S (L ++ [(a,c)]) q = if a = q then c else nowC S L q:=by
 unfold nowC
 rw [List.reverse_append]
 simp only [List.reverse_cons,List.reverse_nil,List.nil_append,List.singleton_append,List.find?_cons]
 by_cases h:a = q
 ·simp [h]
 ·have:(a == q) = false:=by simpa using h
  rw [this]
  simp [h]
/-- New, and what it leaves. -/
def Pst.new (m:Pst) (F':Nat → Prop) (a:Nat) (d:Cn):Pst:=⟨F',m.L ++ [((a:Int),sealC 2 d)],m.N + 1,(a:Int) - 1,m.st.set a 1⟩
theorem Grew.new {c:Pct} {m:Pst} {F':Nat → Prop} {a:Nat} {d:Cn} (h2:2 ≤ a) (hn:a < c.n) (hf:isFree m.st a):Grew c m (m.new F' a d) [a] ∧ (m.new F' a d).C c a = sealC 2 d:=by
 have hC:∀ q:Nat,(m.new F' a d).C c q = if a = q then sealC 2 d else m.C c q:=fun q=>by
  show nowC c.S (m.L ++ [((a:Int),sealC 2 d)]) q = _
  rw [nowC_app]
  by_cases h:a = q
  ·simp [h]
  ·rw [if_neg h,if_neg (by omega)]; rfl
 refine ⟨⟨by simp,fun p hp=>?_,fun q hq=>⟨fun h=>hq ((free_set hf).1 h).1,?_⟩,fun q hq hn=>(free_set hf).2 ⟨hq,fun e=>hn (by simp [e])⟩,fun p hp=>?_,fun q hq=>?_⟩,?_⟩
 ·rw [List.mem_singleton.1 hp]
  exact ⟨h2,hn,hf,fun h=>((free_set hf).1 h).2 rfl⟩
 ·rw [hC,if_neg (by rintro rfl; exact hq hf)]
 ·rw [List.mem_singleton.1 hp]
  obtain ⟨hlt,_⟩:=hf
  show (m.st.set a 1).getD a 0 = 1
  simp [List.getD,hlt]
 ·have hne:a ≠ q:=by rintro rfl; exact hq hf
  show (m.st.set a 1).getD q 0 = m.st.getD q 0
  simp [List.getD,List.getElem?_set,hne]
 ·rw [hC,if_pos rfl]
theorem upd_getD (st:Cn) (p q:Nat):(updN freeU st (p:Int)).getD q 0 = if p = q ∧ q < st.length then freeU (st.getD q 0) else st.getD q 0:=by
 unfold updN
 rw [Int.toNat_natCast]
 by_cases h:p = q
 ·subst h
  by_cases hl:p < st.length
  ·simp [List.getD,hl]
  ·simp [List.getD,hl]
 ·simp [List.getD,List.getElem?_set,h]
theorem upds_len:∀ (T:List Nat) (st:Cn),((T.map Int.ofNat).foldl (updN freeU) st).length = st.length
 | [],_=>rfl
 | p :: T,st=>by rw [List.map_cons,List.foldl_cons,upds_len T,updN_len]
theorem upds_out:∀ (T:List Nat) (st:Cn) (q:Nat),q ∉ T → ((T.map Int.ofNat).foldl (updN freeU) st).getD q 0 = st.getD q 0
 | [],_,_,_=>rfl
 | p :: T,st,q,h=>by
  rw [List.map_cons,List.foldl_cons,upds_out T _ q (fun e=>h (List.mem_cons_of_mem _ e)),show Int.ofNat p = (p:Int) from rfl,upd_getD,if_neg (fun e=>h (by rw [e.1]; exact List.mem_cons_self))]
theorem upds_in:∀ (T:List Nat) (st:Cn),T.Nodup → (∀ p ∈ T,p < st.length ∧ st.getD p 0 = 1) → ∀ p ∈ T,((T.map Int.ofNat).foldl (updN freeU) st).getD p 0 = 0
 | [],_,_,_,_,hp=>by cases hp
 | a :: T,st,hd,h,p,hp=>by
  have hd':=List.nodup_cons.1 hd
  rw [List.map_cons,List.foldl_cons,show Int.ofNat a = (a:Int) from rfl]
  rcases List.mem_cons.1 hp with rfl | hp
  ·rw [upds_out T _ p hd'.1,upd_getD,if_pos ⟨rfl,(h p List.mem_cons_self).1⟩,(h p List.mem_cons_self).2]
   rfl
  ·refine upds_in T _ hd'.2 (fun q hq=>?_) p hp
   have h1:=h q (List.mem_cons_of_mem _ hq)
   rw [updN_len,upd_getD,if_neg (fun e=>hd'.1 (by rw [e.1]; exact hq))]
   exact h1
theorem free_iff {st:Cn} {q:Nat}:isFree st q ↔ q < st.length ∧ st.getD q 0 = 0:=by
 unfold isFree
 constructor
 ·rintro ⟨h,e⟩
  refine ⟨h,?_⟩
  simp [List.getD,h]
  exact UInt8.toNat_inj.1 (by simpa using e)
 ·rintro ⟨h,e⟩
  refine ⟨h,?_⟩
  simp [List.getD,h] at e
  rw [e]
  rfl
/-- All that was taken is freed. -/
theorem Grew.freed {c:Pct} {m m':Pst} {T:List Nat} (h:Grew c m m' T) (hl:m'.st.length = m.st.length):Grew c m { m' with st:=(T.map Int.ofNat).foldl (updN freeU) m'.st } []:=by
 have hout:∀ q,¬ isFree m.st q → q ∉ T:=fun q hq e=>hq (h.in_ q e).2.2.1
 refine ⟨List.nodup_nil,fun p hp=>(by cases hp),fun q hq=>⟨fun hf=>?_,(h.old q hq).2⟩,fun q hq _=>?_,fun p hp=>(by cases hp),fun q hq=>(upds_out T _ q (hout q hq)).trans (h.same q hq)⟩
 ·have:=free_iff.1 hf
  rw [upds_len,upds_out T _ q (hout q hq)] at this
  exact (h.old q hq).1 (free_iff.2 this)
 ·refine free_iff.2 ?_
  show q < ((T.map Int.ofNat).foldl (updN freeU) m'.st).length ∧ ((T.map Int.ofNat).foldl (updN freeU) m'.st).getD q 0 = 0
  rw [upds_len]
  by_cases hm:q ∈ T
  ·exact ⟨by rw [hl]; exact (free_iff.1 hq).1,upds_in T _ h.nd (fun p hp=>⟨by rw [hl]; exact (free_iff.1 (h.in_ p hp).2.2.1).1,h.one p hp⟩) q hm⟩
  ·rw [upds_out T _ q hm]
   exact free_iff.1 (h.rest q hq hm)
/-- What a maker's calls may turn. -/
def MT (c:Pct) (mb:Nat) (vt:Value) (m:Pst) (j:Nat):Prop:=PF m.F c.pb c.sb j ∨ j = mb ∨ vt.ownBlock = some j
def pI (p:Nat):Value:=.int .i64 (p:Int)
structure MkW (w:World) (c:Pct) (B mb tb:Nat) (took:List Nat) (vt:Value) (m:Pst):Prop where
 pg:PgS w c m
 tr:Blk w tb TTr #[.pointer (some ⟨c.pb,0,none⟩)]
 mkb:Blk w mb TMk #[.pointer (some ⟨tb,0,none⟩),vt]
 tk:w.ownsRow B TI64 1 vt took.length (took.map pI)
 nm:¬ PF m.F c.pb c.sb mb
 nt:¬ PF m.F c.pb c.sb tb
 nv:∀ g,vt.ownBlock = some g → ¬ PF m.F c.pb c.sb g
section
variable {w w' w'':World} {c:Pct} {B mb tb:Nat} {took took':List Nat} {vt vt' vt'':Value} {m m' m'':Pst}
theorem PF.lt (h:PgS w c m) {j:Nat} (hj:PF m.F c.pb c.sb j):j < w.heap.size:=by
 rcases hj with hj | rfl | rfl
 ·exact h.sec.lt j hj
 ·exact h.blk.lt
 ·exact h.sblk.lt
theorem MkW.lt (h:MkW w c B mb tb took vt m) {j:Nat} (hj:MT c mb vt m j):j < w.heap.size:=by
 rcases hj with hj | rfl | hj
 ·exact PF.lt h.pg hj
 ·exact h.mkb.lt
 ·exact (h.tk.lt j hj).2
theorem MkW.below (h:MkW w c B mb tb took vt m) (hb:Below w.heap.size w w'):MkW w' c B mb tb took vt m:=
 ⟨Pg.below h.pg hb,h.tr.below hb h.tr.lt,h.mkb.below hb h.mkb.lt,own_later h.tk hb,h.nm,h.nt,h.nv⟩
theorem MkW.ne (h:MkW w c B mb tb took vt m):tb ≠ mb ∧ vt.ownBlock ≠ some mb ∧ vt.ownBlock ≠ some tb:=
 ⟨Blk.ne_ h.tr h.mkb (by decide),own_blk_ne h.tk h.mkb (by decide),own_blk_ne h.tk h.tr (by decide)⟩
/-- What lies safe. -/
def Sf (w:World) (c:Pct) (mb:Nat) (vt:Value) (m:Pst) (j:Nat):Prop:=j < w.heap.size ∧ ¬ MT c mb vt m j
/-- A step of the maker's. -/
structure MkS (w:World) (c:Pct) (mb:Nat) (vt:Value) (m:Pst) (w':World) (vt':Value) (m':Pst):Prop where
 fr:Fr (MT c mb vt m) w w'
 new:∀ j,MT c mb vt' m' j → MT c mb vt m j ∨ w.heap.size ≤ j
theorem MkS.refl (w:World) (c:Pct) (mb:Nat) (vt:Value) (m:Pst):MkS w c mb vt m w vt m:=⟨Fr.refl _ _,fun _ h=>.inl h⟩
theorem MkS.trans (h:MkS w c mb vt m w' vt' m') (h':MkS w' c mb vt' m' w'' vt'' m''):MkS w c mb vt m w'' vt'' m'':=
 ⟨h.fr.trans h'.fr (fun j hj hm=>(h.new j hm).elim id (fun q=>absurd hj (by omega))),fun j hj=>(h'.new j hj).elim (h.new j) (fun q=>.inr (Nat.le_trans h.fr.size q))⟩
theorem MkS.low (hb:Below w.heap.size w w'):MkS w c mb vt m w' vt m:=⟨Fr.low hb,fun _ h=>.inl h⟩
theorem MkS.heap (h:MkS w c mb vt m w' vt' m') {j:Nat} (hj:Sf w c mb vt m j):w'.heap[j]? = w.heap[j]?:=h.fr.block j hj.1 hj.2
theorem MkS.sf (h:MkS w c mb vt m w' vt' m') {j:Nat} (hj:Sf w c mb vt m j):Sf w' c mb vt' m' j:=
 ⟨Nat.lt_of_lt_of_le hj.1 h.fr.size,fun hm=>(h.new j hm).elim hj.2 (fun q=>absurd hj.1 (by omega))⟩
theorem MkS.slk {α:Type} {k:Nat} {R:World → (Nat → Prop) → α → List Value → Prop} (hR:Kept R) (h0:0 < k) (h:MkS w c mb vt m w' vt' m') {v:Value} {l:List α} (hl:SLk k R w (Sf w c mb vt m) v l):SLk k R w' (Sf w' c mb vt' m') v l:=
 hl.keep h0 hR (fun j hj _=>h.heap hj) (fun j hj _=>h.sf hj)
theorem MkW.fresh (h:MkW w c B mb tb took vt m) {j:Nat} (h1:w.heap.size ≤ j) (h2:j < w'.heap.size):Sf w' c mb vt m j:=⟨h2,fun hm=>by have:=h.lt hm; omega⟩
/-- A row that was built beside it. -/
theorem Gro.slk {α:Type} {R:World → (Nat → Prop) → α → List Value → Prop} {T:TypeId} {k:Nat} (h0:0 < k) (hR:Kept R) {w0:World} {F F':Nat → Prop} {v:Value} {l:List α} (h:Gro R T k w0 F w v l) (hk:∀ j,F j → j < w0.heap.size → w.heap[j]? = w0.heap[j]?) (hF:∀ j,F j → j < w0.heap.size → F' j) (hv:∀ g,v.ownBlock = some g → F' g):SLk k R w F' v l:=by
 obtain ⟨xs,h1,h2⟩:=h
 have h3:=LR.mono (fun a cs=>hR (w':=w) (F':=F') hk hF a cs) _ _ h2
 rcases h1.2 with ⟨e,hz⟩ | ⟨b,cap,cur,e,hb,hh,hc,hm,_⟩
 ·have hl:l = []:=List.eq_nil_of_length_eq_zero hz
  subst hl
  rw [e]
  exact SLk.nil _ _
 ·refine ⟨some ⟨b,0,none⟩,cap,xs,e,⟨hc,hm⟩,⟨h1.1,fun hz=>?_⟩,h3⟩
  obtain ⟨ad,e2,_,hcell⟩:=(Reads.of_own (by rw [e] at h1; exact h1)).2 hz
  injection e2 with e2
  subst e2
  exact ⟨_,rfl,hv b (by rw [e]; rfl),hcell⟩
/-- A page is taken. -/
theorem MkW.newed {F':Nat → Prop} {a:Nat} {d:Cn} (h:MkW w c B mb tb took vt m) (hp:PgS w' c (m.new F' a d)) (hg:Grw m.F w F') (hf:Fr (PF m.F c.pb c.sb) w w'):MkW w' c B mb tb took vt (m.new F' a d) ∧ MkS w c mb vt m w' vt (m.new F' a d):=by
 have hn:∀ j,j < w.heap.size → ¬ PF m.F c.pb c.sb j → ¬ PF (m.new F' a d).F c.pb c.sb j:=fun j hj h1 h2=>by
  rcases h2 with h2 | h2
  ·rcases hg j h2 with h3 | h3
   ·exact h1 (.inl h3)
   ·omega
  ·exact h1 (.inr h2)
 refine ⟨⟨hp,hf.blk h.tr h.nt,hf.blk h.mkb h.nm,row_keep h.tk (fun j hj=>hf.block j (h.tk.lt j hj).2 (h.nv j hj)),hn _ h.mkb.lt h.nm,hn _ h.tr.lt h.nt,fun g hg=>hn g (h.tk.lt g hg).2 (h.nv g hg)⟩,hf.up (fun j hj=>.inl hj),fun j hj=>?_⟩
 rcases hj with hj | hj
 ·rcases hj with hj | hj
  ·rcases hg j hj with h3 | h3
   ·exact .inl (.inl (.inl h3))
   ·exact .inr h3
  ·exact .inl (.inl (.inr hj))
 ·exact .inl (.inr hj)
theorem Pg.keepF {F G:Nat → Prop} {pb sb db n:Nat} {left:Int} {S:Int → Cn} {L:List (Int × Cn)} {N:Nat} {seq root frm:Int} {st:Cn} (h:Pg w F pb sb db n left S L N seq root frm st) (hf:Fr G w w') (hn:∀ j,PF F pb sb j → ¬ G j):Pg w' F pb sb db n left S L N seq root frm st:=
 { h with sec:=h.sec.apart hf (fun j hj=>hn j (.inl hj)),blk:=hf.blk h.blk (hn _ (.inr (.inl rfl))),sblk:=hf.blk h.sblk (hn _ (.inr (.inr rfl))) }
/-- It is noted: took grows, and is stored. -/
theorem MkW.noted {a:Nat} {w1:World} (h:MkW w c B mb tb took vt m) (hb:Below w.heap.size w w1) (hB:B ≤ w.heap.size) (ho:w'.ownsRow B TI64 1 vt' (took.length + 1) (took.map pI ++ [pI a])) (hg:w1.grownBy w' vt.ownBlock) (hoo:vt'.ownBlock = vt.ownBlock ∨ vt'.ownBlock = some w1.heap.size) :
  MkW (w'.setCell ⟨mb,1,none⟩ vt') c B mb tb (took ++ [a]) vt' m ∧ MkS w c mb vt m (w'.setCell ⟨mb,1,none⟩ vt') vt' m:=by
 have h1:=h.below hb
 have hne:=h1.ne
 have hf1:Fr (fun j=>vt.ownBlock = some j ∨ j = mb) w1 (w'.setCell ⟨mb,1,none⟩ vt'):=
  ⟨hg.os,hg.tape,hg.output,by simpa using hg.size,fun j hj hn=>(Below.heap_setCell _ ⟨mb,1,none⟩ _ _ (fun e=>hn (.inr e))).trans (hg.block j hj (fun e=>hn (.inl e.symm)))⟩
 have hmk:Blk w' mb TMk #[.pointer (some ⟨tb,0,none⟩),vt]:=h1.mkb.grown hg (fun e=>hne.2.1 e.symm)
 have hvm:vt'.ownBlock ≠ some mb:=own_blk_ne ho hmk (by decide)
 have hpn:∀ j,PF m.F c.pb c.sb j → ¬ (vt.ownBlock = some j ∨ j = mb):=fun j hj e=>by
  rcases e with e | rfl
  ·exact h.nv j e hj
  ·exact h.nm hj
 refine ⟨⟨Pg.keepF h1.pg hf1 hpn,hf1.blk h1.tr (fun e=>by rcases e with e | e; exact hne.2.2 e; exact hne.1 e),hmk.set_ 1 vt',?_,h.nm,h.nt,fun g hg'=>?_⟩,?_,fun j hj=>?_⟩
 ·rw [List.length_append,List.length_singleton,List.map_append]
  exact row_keep ho (fun j hj=>Below.heap_setCell _ ⟨mb,1,none⟩ _ _ (fun e=>hvm (by rw [hj]; exact congrArg some e)))
 ·rcases hoo with e | e
  ·exact h.nv g (e ▸ hg')
  ·rw [e] at hg'
   injection hg' with hg'
   intro hp
   have:=PF.lt h1.pg hp
   omega
 ·exact (Fr.low hb).trans hf1 (fun j hj e=>by rcases e with e | e; exact .inr (.inr e); exact .inr (.inl e))
 ·rcases hj with hj | hj | hj
  ·exact .inl (.inl hj)
  ·exact .inl (.inr (.inl hj))
  ·rcases hoo with e | e
   ·exact .inl (.inr (.inr (e ▸ hj)))
   ·rw [e] at hj
    injection hj with hj
    have:=hb.size
    exact .inr (by omega)
end
/-- What stands in pages: each node in its own, and the kid that leads there. -/
abbrev Nd:=List It × List Kd
def hdK (nd:Nd):Cn:=if nd.2 = [] then (nd.1.headD ⟨[],[]⟩).k else (nd.2.headD ⟨[],0⟩).k
def ndOk (nd:Nd):Prop:=((nd.1 ≠ [] ∧ nd.2 = []) ∨ (nd.1 = [] ∧ nd.2 ≠ [])) ∧ (∀ i ∈ nd.1,itOk i) ∧ (∀ k ∈ nd.2,kdOk k) ∧ (ndB nd.1 nd.2).length ≤ 505
def SavedAs (C:Int → Cn):List Nd → List Kd → Prop
 | [],[]=>True
 | nd :: l,k :: ks=>k.k = hdK nd ∧ C k.p = sealC 2 (ndB nd.1 nd.2) ∧ SavedAs C l ks
 | _,_=>False
theorem SavedAs.len {C:Int → Cn}:∀ {l:List Nd} {ks:List Kd},SavedAs C l ks → ks.length = l.length
 | [],[],_=>rfl
 | _ :: l,_ :: ks,h=>by simp [SavedAs.len h.2.2]
 | [],_ :: _,h=>h.elim
 | _ :: _,[],h=>h.elim
theorem SavedAs.keep {C C':Int → Cn}:∀ {l:List Nd} {ks:List Kd},SavedAs C l ks → (∀ k ∈ ks,C' k.p = C k.p) → SavedAs C' l ks
 | [],[],_,_=>trivial
 | _ :: l,k :: ks,h,hk=>⟨h.1,(hk k List.mem_cons_self).trans h.2.1,SavedAs.keep h.2.2 (fun k hk'=>hk k (List.mem_cons_of_mem _ hk'))⟩
 | [],_ :: _,h,_=>h.elim
 | _ :: _,[],h,_=>h.elim
theorem SavedAs.snoc {C:Int → Cn} {nd:Nd} {k:Kd} (h1:k.k = hdK nd) (h2:C k.p = sealC 2 (ndB nd.1 nd.2)):∀ {l:List Nd} {ks:List Kd},SavedAs C l ks → SavedAs C (l ++ [nd]) (ks ++ [k])
 | [],[],_=>⟨h1,h2,trivial⟩
 | _ :: l,_ :: ks,h=>⟨h.1,h.2.1,SavedAs.snoc h1 h2 h.2.2⟩
 | [],_ :: _,h=>h.elim
 | _ :: _,[],h=>h.elim
end Go.Proofs.Ytkolacaceaamoaa
/- The tree: save. -/
namespace Go.Proofs.Ytkolacaceaamoaa
open Go.RowKit
theorem ti64_inf:∃ i,Try.prog.info? TI64 = some i ∧ i.zero = some (.int .i64 0) ∧ i.size = 1 ∧ i.bytes = 8:=by
 have h:(Try.prog.info? TI64).map (fun i=>(i.zero,i.size,i.bytes)) = some (some (.int .i64 0),1,8):=by kernel_rfl
 cases hi:Try.prog.info? TI64 with
 | none=>rw [hi] at h; cases h
 | some i=>rw [hi] at h; simp only [Option.map_some,Option.some.injEq,Prod.mk.injEq] at h; exact ⟨i,rfl,h.1,h.2.1,h.2.2⟩
/-- A node, by a pointer. -/
def NpR (w:World) (F:Nat → Prop) (nd:Nd) (cs:List Value):Prop:=∃ g,cs = [.pointer (some ⟨g,0,none⟩)] ∧ NdR w F g nd.1 nd.2
theorem NpR.keep {w w':World} {F F':Nat → Prop} (hk:∀ j,F j → j < w.heap.size → w'.heap[j]? = w.heap[j]?) (hF:∀ j,F j → j < w.heap.size → F' j) (x:Nd) (cs:List Value) (h:NpR w F x cs):NpR w' F' x cs:=by
 obtain ⟨g,e,h1⟩:=h
 exact ⟨g,e,h1.keep hk hF⟩
theorem SLk.at_np {w:World} {F:Nat → Prop} {A:Option Addr} {n c:Nat} {is:List Nd} (h:SLk 1 NpR w F (.slice A n c) is) {j:Nat} (hj:j < is.length) :
  ∃ b o g,A = some ⟨b,o,none⟩ ∧ F b ∧ b < w.heap.size ∧ w.cell? ⟨b,o + j,none⟩ = some (.pointer (some ⟨g,0,none⟩)) ∧ NdR w F g is[j].1 is[j].2:=by
 obtain ⟨A',c',xs,e,hc,hr,hl⟩:=h
 injection e with e1 e2 e3
 subst e1 e2 e3
 obtain ⟨ad,rfl,hb,hcell⟩:=hr.2 (by omega)
 have h1:∀ (a:Nd) cs,NpR w F a cs → cs.length = 1:=fun a cs ⟨v,e,_⟩=>by rw [e]; rfl
 obtain ⟨cs,hit,hcs⟩:=LR.at_ (k:=1) h1 is xs hl j hj
 obtain ⟨cs0,hit0,hcs0⟩:=LR.at_ (k:=1) h1 is xs hl 0 (by omega)
 obtain ⟨a0,rfl,hk⟩:=hit
 obtain ⟨b0,rfl,_⟩:=hit0
 have q0:=hcell (j * 1 + 0) _ (hcs 0 (by omega))
 have q3:=hcell (0 * 1 + 0) _ (hcs0 0 (by omega))
 have hz:ad.add 0 = ad:=by unfold Addr.add; rw [if_pos rfl]
 rw [show 0 * 1 + 0 = 0 from rfl,hz] at q3
 have hs:=spot_none q3
 have hlt:=cell_in q3
 obtain ⟨b,o,sp⟩:=ad
 cases hs
 refine ⟨b,o,a0,rfl,hb,hlt,?_,hk⟩
 rw [← add_plain ⟨b,o,none⟩ (j * 1 + 0) rfl] at q0
 simpa using q0
/-- What New answers: a page, or none. -/
def NP (c:Pct) (m:Pst) (wr:World) (d:Cn) (x y:Int) (w':World):Prop:=
 ((x = 0 ∧ y = 16 ∧ PgS w' c m ∧ ∀ a,2 ≤ a → ¬ isFree m.st a) ∨ (y = 0 ∧ ∃ (a:Nat) (F':Nat → Prop),x = (a:Int) ∧ 2 ≤ a ∧ a < c.n ∧ isFree m.st a ∧ PgS w' c (m.new F' a d) ∧ Grw m.F wr F')) ∧ Fr (PF m.F c.pb c.sb) wr w'
theorem NP.below {c:Pct} {m:Pst} {wr w' w'':World} {d:Cn} {x y:Int} (h:NP c m wr d x y w') (hb:Below w'.heap.size w' w''):NP c m wr d x y w'':=by
 obtain ⟨h1,h2⟩:=h
 refine ⟨?_,h2.trans (Fr.low (F:=PF m.F c.pb c.sb) hb) (fun _ _ h=>h)⟩
 rcases h1 with ⟨e1,e2,h3,h4⟩ | ⟨e1,a,F',e2,h3,h4,h5,h6,h7⟩
 ·exact .inl ⟨e1,e2,Pg.below h3 hb,h4⟩
 ·exact .inr ⟨e1,a,F',e2,h3,h4,h5,Pg.below h6 hb,h7⟩
theorem new_np {c:Pct} {m:Pst} {wr w:World} {A:Option Addr} {k cc:Nat} {d:Cn} (hp:PgS w c m) (hb:Below wr.heap.size wr w) (hr:RB w w.heap.size A k d) (hk:k ≤ 505) (hN:m.N < 1000000000) :
  Calls Try.prog 75 #[.pointer (some ⟨c.pb,0,none⟩),.slice A k cc] w fun e w'=>∃ x y:Int,e = .returned (.tuple #[.int .i64 x,.int .i64 y]) ∧ NP c m wr d x y w':=by
 refine (pnew_any hp A k cc d hr hk hN).mono ?_
 rintro e w' ⟨hR,hf⟩
 have hf2:Fr (PF m.F c.pb c.sb) wr w':=(Fr.low (F:=PF m.F c.pb c.sb) hb).trans hf (fun _ _ h=>h)
 rcases hR with ⟨rfl,hno,hp⟩ | ⟨a,h1,h2,h3,⟨hbn,_⟩ | ⟨hbn,rfl,F',hp,hg⟩⟩
 ·exact ⟨0,16,rfl,.inl ⟨rfl,rfl,hp,hno⟩,hf2⟩
 ·cases hbn
 ·exact ⟨a,0,rfl,.inr ⟨rfl,a,F',rfl,h1,h2,h3,hp,fun j hj=>(hg j hj).imp id (Nat.le_trans hb.size)⟩,hf2⟩
theorem MkW.full {w w':World} {c:Pct} {B mb tb:Nat} {took:List Nat} {vt:Value} {m:Pst} (h:MkW w c B mb tb took vt m) (hp:PgS w' c m) (hf:Fr (PF m.F c.pb c.sb) w w'):MkW w' c B mb tb took vt m ∧ MkS w c mb vt m w' vt m:=
 ⟨⟨hp,hf.blk h.tr h.nt,hf.blk h.mkb h.nm,row_keep h.tk (fun j hj=>hf.block j (h.tk.lt j hj).2 (h.nv j hj)),h.nm,h.nt,h.nv⟩,hf.up (fun j hj=>.inl hj),fun j hj=>.inl hj⟩
/-- There is no room: all that was free is among these. -/
def NoRoom (m:Pst) (k:Nat):Prop:=∃ T0:List Nat,T0.length ≤ k ∧ ∀ q,2 ≤ q → isFree m.st q → q ∈ T0
def SvQ (w:World) (c:Pct) (B mb tb:Nat) (took:List Nat) (vt:Value) (m:Pst) (nds:List Nd) (e:Ending) (w':World):Prop:=
 ∃ vt' m' T,MkW w' c B mb tb (took ++ T) vt' m' ∧ MkS w c mb vt m w' vt' m' ∧ Grew c m m' T ∧ m'.N ≤ m.N + nds.length ∧ m.N + T.length ≤ m'.N ∧
  ((∃ v kds,e = .returned (.tuple #[v,.int .i64 0]) ∧ SLk 2 KdR w' (Sf w' c mb vt' m') v kds ∧ SavedAs (m'.C c) nds kds ∧ kds.map Kd.p = T) ∨ (e = .returned (.tuple #[.slice none 0 0,.int .i64 16]) ∧ NoRoom m nds.length))
theorem MkS.grown {w w8 w10 w11:World} {c:Pct} {mb:Nat} {vt vt':Value} {m m':Pst} {row:Option Nat} (h:MkS w c mb vt m w8 vt' m') (hb:Below w8.heap.size w8 w10) (hg:w10.grownBy w11 row) (hr:∀ g,row = some g → w.heap.size ≤ g):MkS w c mb vt m w11 vt' m':=
 ⟨(h.fr.trans (Fr.low (F:=MT c mb vt m) hb) (fun _ _ h=>h)).trans (Fr.of_grown (F:=fun j=>w.heap.size ≤ j) hg hr) (fun j hj q=>absurd q (by omega)),h.new⟩
theorem MkW.grown {w8 w10 w11:World} {c:Pct} {B mb tb:Nat} {took:List Nat} {vt:Value} {m:Pst} {row:Option Nat} (h:MkW w8 c B mb tb took vt m) (hb:Below w8.heap.size w8 w10) (hg:w10.grownBy w11 row) (hr:∀ g,row = some g → ¬ MT c mb vt m g ∧ g ≠ tb):MkW w11 c B mb tb took vt m:=by
 have h1:=h.below hb
 have hf:Fr (fun j=>row = some j) w10 w11:=Fr.of_grown hg (fun k e=>e)
 exact ⟨Pg.keepF h1.pg hf (fun j hj e=>(hr j e).1 (.inl hj)),hf.blk h1.tr (fun e=>(hr _ e).2 rfl),hf.blk h1.mkb (fun e=>(hr _ e).1 (.inr (.inl rfl))),row_keep h1.tk (fun j hj=>hf.block j (h1.tk.lt j hj).2 (fun e=>(hr j e).1 (.inr (.inr hj)))),h1.nm,h1.nt,h1.nv⟩
/-- A node's first key. -/
theorem NdR.head {w:World} {F:Nat → Prop} {g:Nat} {nd:Nd} (h:NdR w F g nd.1 nd.2) (ho:(nd.1 ≠ [] ∧ nd.2 = []) ∨ (nd.1 = [] ∧ nd.2 ≠ [])) :
  ∃ vi vk b o n cc A0 l0 c0,Blk w g TNd #[vi,vk] ∧ F g ∧ (if nd.2 = [] then vi else vk) = .slice (some ⟨b,o,none⟩) n cc ∧ 0 < n ∧ n ≤ cc ∧ F b ∧ b < w.heap.size ∧ w.cell? ⟨b,o,none⟩ = some (.slice A0 l0 c0) ∧ BS w F (.slice A0 l0 c0) (hdK nd):=by
 obtain ⟨is,ks⟩:=nd
 obtain ⟨vi,vk,hb,hg,h1,h2⟩:=h
 rcases ho with ⟨q1,q2⟩ | ⟨q1,q2⟩
 ·dsimp only at q1 q2 h1 h2
  subst q2
  cases is with
  | nil=>exact absurd rfl q1
  | cons i r=>
   obtain ⟨A,cc,xs,rfl,hc,hr,hl⟩:=h1
   obtain ⟨b,o,cs,rfl,hn,hnc,_,hF,hlt,⟨a0,a1,rfl,hk,_⟩,hcell,_⟩:=(show SLk 2 ItR w F (.slice A (i :: r).length cc) (i :: r) from ⟨A,cc,xs,rfl,hc,hr,hl⟩).uncons (fun a cs h=>h.two) (by omega)
   obtain ⟨A0,c0,rfl,hck,hrk⟩:=hk
   exact ⟨_,vk,b,o,_,cc,A0,i.k.length,c0,hb,hg,rfl,by simp,hnc,hF,hlt,by simpa using hcell 0 _ rfl,A0,c0,rfl,hck,hrk⟩
 ·dsimp only at q1 q2 h1 h2
  subst q1
  cases ks with
  | nil=>exact absurd rfl q2
  | cons i r=>
   obtain ⟨A,cc,xs,rfl,hc,hr,hl⟩:=h2
   obtain ⟨b,o,cs,rfl,hn,hnc,_,hF,hlt,⟨a0,rfl,hk⟩,hcell,_⟩:=(show SLk 2 KdR w F (.slice A (i :: r).length cc) (i :: r) from ⟨A,cc,xs,rfl,hc,hr,hl⟩).uncons (fun a cs h=>h.two) (by omega)
   obtain ⟨A0,c0,rfl,hck,hrk⟩:=hk
   exact ⟨vi,_,b,o,_,cc,A0,i.k.length,c0,hb,hg,rfl,by simp,hnc,hF,hlt,by simpa using hcell 0 _ rfl,A0,c0,rfl,hck,hrk⟩
/-- save's loop. -/
structure SvI (w:World) (c:Pct) (B mb tb:Nat) (took:List Nat) (vt:Value) (m:Pst) (nds:List Nd) (wr:World) (j:Nat) (vo:Value) (vt':Value) (m':Pst) (kds:List Kd):Prop where
 mw:MkW wr c B mb tb (took ++ kds.map Kd.p) vt' m'
 ms:MkS w c mb vt m wr vt' m'
 gr:Grew c m m' (kds.map Kd.p)
 nn:m'.N = m.N + j
 sv:SavedAs (m'.C c) (nds.take j) kds
 out:Gro KdR TKd 2 w (Sf w c mb vt m) wr vo kds
 ov:∀ g,vo.ownBlock = some g → ¬ MT c mb vt' m' g
set_option maxRecDepth 100000 in
set_option maxHeartbeats 8000000 in
theorem save_any {w:World} {c:Pct} {B mb tb:Nat} {took:List Nat} {vt:Value} {m:Pst} {vl:Value} {nds:List Nd} (h:MkW w c B mb tb took vt m) (hB:B ≤ w.heap.size) (hl:SLk 1 NpR w (Sf w c mb vt m) vl nds) (hok:∀ nd ∈ nds,ndOk nd) (hN:m.N + nds.length < 1000000000) (htk:took.length + nds.length ≤ 1000000000) :
  Calls Try.prog 59 #[.pointer (some ⟨mb,0,none⟩),vl] w fun e w'=>SvQ w c B mb tb took vt m nds e w':=by
 obtain ⟨i0,hi0,hz0,hz1,hz2⟩:=tkd_inf
 obtain ⟨i1,hi1,hy0,hy1,hy2⟩:=ti64_inf
 have HI0:=hide hi0
 have HZ0:=hide hz0
 have HI1:=hide hi1
 have HZ1:=hide hy0
 have H1:=hide hl
 have HOK:=hide hok
 have HM0:=hide h
 obtain ⟨A1,c1,xs1,rfl,hc1,_⟩:=hl
 clear hi0 hz0 hi1 hy0 hok
 obtain ⟨q,hq⟩:∃ q,nds.length = q:=⟨_,rfl⟩
 have HQ:=hide hq
 have HN:=hide hN
 rw [hq] at H1 hc1 htk HN ⊢
 clear hq hN
 obtain ⟨tl,htl⟩:∃ tl,took.length = tl:=⟨_,rfl⟩
 have HTL:=hide htl
 rw [htl] at htk
 clear htl
 have HSt:=hide (show SvI w c B mb tb took vt m nds w 0 (.slice none 0 0) vt m [] from ⟨by simpa using h,MkS.refl _ _ _ _ _,Grew.refl _ _,by omega,trivial,⟨[],World.ownsRow_nil _ _ _ _,rfl⟩,fun g hg=>by cases hg⟩)
 clear h
 go_enter Try.func59,Try.ntmps59
 go_wp2_with fail
 go_loopw [6,14] (fun vo vi wr=>∃ (j cc:Nat) (A:Option Addr) (vt':Value) (m':Pst) (kds:List Kd),vo = .slice A j cc ∧ vi = .int .i64 (j:Int) ∧ j ≤ q ∧ Hid (SvI w c B mb tb took vt m nds wr j (.slice A j cc) vt' m' kds)) (fun _ vi _=>q - (intOf vi).toNat)
 case atStart=>exact ⟨0,0,none,vt,m,[],rfl,rfl,by omega,HSt⟩
 case round=>
  clear HSt
  obtain ⟨j,cc,A,vt',m',kds,rfl,rfl,hj,HS⟩:=hrel
  by_cases hlt:j < q
  ·have hj':j < nds.length:=by rw [HQ.out]; exact hlt
   obtain ⟨b,o,g,rfl,hbF,hb,k0,hnd⟩:=H1.out.at_np hj'
   have k0:=(heap_cell (p:=⟨b,o + j,none⟩) (HS.out.ms.heap hbF)).trans k0
   have zz:=Nat.lt_of_lt_of_le hb HS.out.ms.fr.size
   have HND:=hide (hnd.keep (fun j hj _=>HS.out.ms.heap hj) (fun j hj _=>HS.out.ms.sf hj))
   have hko:=HOK.out nds[j] (List.getElem_mem hj')
   have hTK:=List.take_succ_eq_append_getElem hj'
   have HNDw:=hide hnd
   obtain ⟨y,hy⟩:∃ y,nds[j] = y:=⟨_,rfl⟩
   rw [hy] at HND hko hTK HNDw
   have HKO:=hide hko
   have HTK:=hide hTK
   clear hy hnd hko hTK
   have hjm:j + 1 ≤ 9223372036854775807:=by omega
   obtain ⟨d,hd⟩:∃ d,ndB y.1 y.2 = d:=⟨_,rfl⟩
   obtain ⟨dl,hdl⟩:∃ dl,d.length = dl:=⟨_,rfl⟩
   have HD:=hide hd
   have HDL:=hide hdl
   have hd5:dl ≤ 505:=by rw [← hdl,← hd]; exact HKO.out.2.2.2
   have HNB:=hide (fun (w3:World) (hb3:Below wr.heap.size wr w3)=>nbytes_any (HND.out.keep (F':=fun j=>j < w3.heap.size) (fun j hj hlt=>hb3.block j hlt) (fun j hj hlt=>Nat.lt_of_lt_of_le hlt hb3.size)) HKO.out.2.1 HKO.out.2.2.1 (by have:=HKO.out.2.2.2; omega))
   rw [hd,hdl] at HNB
   have hNm:m'.N < 1000000000:=by have:=HS.out.nn; have:=HN.out; omega
   clear hd hdl
   go_upto_region 5 with fail
   clear k0 zz
   refine wp_region_dag (by kernel_rfl) (by kernel_rfl) 70 1
    [⟨some 19,[0,1],[],[],[],[],fun _ _ v _=>v = .pointer (some ⟨mb,0,none⟩)⟩,
     ⟨some 20,[0,1],[],[],[0],[],fun _ _ v _=>v = .pointer (some ⟨mb,0,none⟩)⟩,
     ⟨some 21,[0,1],[],[],[1],[],fun _ _ v _=>v = .pointer (some ⟨mb,0,none⟩)⟩,
     ⟨some 22,[0],[],[],[2],[],fun _ _ v _=>v = .pointer (some ⟨tb,0,none⟩)⟩,
     ⟨some 23,[0,1],[],[],[3],[],fun _ _ v _=>v = .pointer (some ⟨tb,0,none⟩)⟩,
     ⟨some 24,[0,1],[],[],[4],[],fun _ _ v _=>v = .pointer (some ⟨tb,0,none⟩)⟩,
     ⟨some 25,[0],[],[],[5],[],fun _ _ v _=>v = .pointer (some ⟨c.pb,0,none⟩)⟩,
     ⟨some 26,[0,1],[],[],[],[],fun _ _ v _=>v = .pointer (some ⟨g,0,none⟩)⟩,
     ⟨some 27,[0],[],[],[7],[],fun st a v w'=>st = 0 → ∃ A c2,v = .slice A dl c2 ∧ RB w' w'.heap.size A dl d⟩,
     ⟨some 28,[0],[(0,1)],[1],[6,8],[],fun st a v w'=>1 ≤ st ∧ ∃ x y:Int,v = .tuple #[.int .i64 x,.int .i64 y] ∧ NP c m' wr d x y w'⟩,
     ⟨some 18,[1],[],[],[9],[28],fun st a v w'=>1 ≤ st ∧ v = a.eval (.tmp 28)⟩,
     ⟨some 29,[1],[],[],[9,10],[28],fun st a v w'=>1 ≤ st ∧ ∃ x y:Int,a.eval (.tmp 28) = .tuple #[.int .i64 x,.int .i64 y] ∧ v = .int .i64 x⟩,
     ⟨some 30,[1],[],[],[9,10],[28],fun st a v w'=>1 ≤ st ∧ ∃ x y:Int,a.eval (.tmp 28) = .tuple #[.int .i64 x,.int .i64 y] ∧ v = .int .i64 y⟩,
     ⟨some 9,[1],[],[],[9,11],[28],fun st a v w'=>1 ≤ st ∧ ∃ x y:Int,a.eval (.tmp 28) = .tuple #[.int .i64 x,.int .i64 y] ∧ v = .int .i64 x⟩,
     ⟨some 10,[1],[],[],[9,12],[28],fun st a v w'=>1 ≤ st ∧ ∃ x y:Int,a.eval (.tmp 28) = .tuple #[.int .i64 x,.int .i64 y] ∧ v = .int .i64 y⟩] (fun st w'=>st = 0 → Below wr.heap.size wr w') (fun s s' _ _ _=>s = 0 ∧ s' = 1) (fun _ w w'=>Below w.heap.size w w') ?gu ?ru ?put [19,20,21,22,23,24,25,26,27,28,18,29,30,9,10] rfl (by kernel_rfl) rfl ?g0 ?keep ?steps ?fin
   case ru=>
    intro e he s a v w w' hu hv
    simp only [List.mem_cons,List.not_mem_nil,or_false] at he
    rcases he with rfl | rfl | rfl | rfl | rfl | rfl | rfl | rfl | rfl | rfl | rfl | rfl | rfl | rfl | rfl
    all_goals first | exact hv | (intro h0; obtain ⟨A8,c8,e,hr⟩:=hv h0; exact ⟨A8,c8,e,(hr.below hu).more hu.size⟩) | (obtain ⟨h0,x,y,e,hnp⟩:=hv; exact ⟨h0,x,y,e,hnp.below hu⟩)
   case put=>
    intro e he s a d u v w hnd hv
    simp only [List.mem_cons,List.not_mem_nil,or_false] at he
    rcases he with rfl | rfl | rfl | rfl | rfl | rfl | rfl | rfl | rfl | rfl | rfl | rfl | rfl | rfl | rfl
    all_goals first | exact hv | (exact ⟨hv.1,hv.2.trans (act_ne (by simpa using fun e=>hnd (by simp [e]))).symm⟩) | (obtain ⟨h0,x,y,h1,h2⟩:=hv; exact ⟨h0,x,y,(act_ne (by simpa using fun e=>hnd (by simp [e]))).trans h1,h2⟩)
   case keep=>
    intro e he s s' a v w w' hsl hm ht hv
    simp only [List.mem_cons,List.not_mem_nil,or_false] at he
    rcases he with rfl | rfl | rfl | rfl | rfl | rfl | rfl | rfl | rfl | rfl | rfl | rfl | rfl | rfl | rfl
    all_goals first | exact hv | (intro h3; exfalso; have:=ht.2; omega) | (exfalso; have:=hv.1; have:=ht.1; omega)
   case steps=>
    refine ⟨?_,?_,?_,?_,?_,?_,?_,?_,?_,?_,?_,?_,?_,?_,?_,trivial⟩
    ·intro st hst ac w3 hg hG hd K hK
     dsimp only at hst hG hK
     exact op_move _ rfl (hK _ _ (Below.refl _ _) (hg.kp 0 (by simp)))
    ·intro st hst ac w3 hg hG hd K hK
     dsimp only at hst hG hK
     have f0:=hd 0 (by simp) _ rfl _ rfl
     (try simp [Act.eval] at f0)
     go_simp
     exact hK _ _ (Below.refl _ _) rfl
    ·intro st hst ac w3 hg hG hd K hK
     dsimp only at hst hG hK
     have f1:=hd 1 (by simp) _ rfl _ rfl
     (try simp [Act.eval] at f1)
     go_simp
     exact hK _ _ (Below.refl _ _) rfl
    ·intro st hst ac w3 hg hG hd K hK
     dsimp only at hst hG hK
     simp only [List.mem_cons,List.not_mem_nil,or_false] at hst
     subst hst
     have hX:=(HS.out.mw.below (hG rfl)).mkb
     have kk:=hX.cell 0
     have zz:=hX.lt
     simp at kk
     clear hG hX
     have f2:=hd 2 (by simp) _ rfl _ rfl
     (try simp [Act.eval] at f2)
     go_simp
     exact hK _ _ (Below.refl _ _) rfl
    ·intro st hst ac w3 hg hG hd K hK
     dsimp only at hst hG hK
     have f3:=hd 3 (by simp) _ rfl _ rfl
     (try simp [Act.eval] at f3)
     go_simp
     exact hK _ _ (Below.refl _ _) rfl
    ·intro st hst ac w3 hg hG hd K hK
     dsimp only at hst hG hK
     have f4:=hd 4 (by simp) _ rfl _ rfl
     (try simp [Act.eval] at f4)
     go_simp
     exact hK _ _ (Below.refl _ _) rfl
    ·intro st hst ac w3 hg hG hd K hK
     dsimp only at hst hG hK
     simp only [List.mem_cons,List.not_mem_nil,or_false] at hst
     subst hst
     have hX:=(HS.out.mw.below (hG rfl)).tr
     have kk:=hX.cell 0
     have zz:=hX.lt
     simp at kk
     clear hG hX
     have f5:=hd 5 (by simp) _ rfl _ rfl
     (try simp [Act.eval] at f5)
     go_simp
     exact hK _ _ (Below.refl _ _) rfl
    ·intro st hst ac w3 hg hG hd K hK
     dsimp only at hst hG hK
     exact op_move _ rfl (hK _ _ (Below.refl _ _) (hg.kp 8 (by simp)))
    ·intro st hst ac w3 hg hG hd K hK
     dsimp only at hst hG hK
     simp only [List.mem_cons,List.not_mem_nil,or_false] at hst
     subst hst
     have f7:=hd 7 (by simp) _ rfl _ rfl
     simp [Act.eval] at f7
     have HG9:=hide (hG rfl)
     clear hG
     go_simp
     (refine (HNB.out w3 HG9.out).mono ?_)
     rintro e w5 ⟨v',rfl,h3,h4⟩
     obtain ⟨A5,c5,rfl,_⟩:=own_slice h3
     exact hK _ _ h4 (fun _=>⟨A5,c5,rfl,Reads.of_own h3⟩)
    ·intro st st' hmv ac w3 hg hG hd K hK
     simp only [List.mem_cons,Prod.mk.injEq,List.not_mem_nil,or_false] at hmv
     obtain ⟨rfl,rfl⟩:=hmv
     dsimp only at hG hK
     have f6:=hd 6 (by simp) _ rfl _ rfl
     obtain ⟨A8,c8,f8,hrb⟩:=hd 8 (by simp) _ rfl _ rfl rfl
     have HG9:=hide (hG rfl)
     have HRB:=hide hrb
     clear hG hrb
     simp [Act.eval] at f6 f8
     go_simp
     (refine (new_np (c:=c) (wr:=wr) (HS.out.mw.below HG9.out).pg HG9.out HRB.out hd5 hNm).mono ?_)
     rintro e w5 ⟨x,y,rfl,hnp⟩
     exact hK _ _ ⟨rfl,rfl⟩ (fun e=>by omega) ⟨Nat.le_refl _,x,y,rfl,hnp⟩
    ·intro st hst ac w3 hg hG hd K hK
     dsimp only at hst hG hK
     have h9:=hd 9 (by simp) _ rfl _ rfl
     exact op_move _ rfl (hK _ _ (Below.refl _ _) ⟨h9.1,rfl⟩)
    ·intro st hst ac w3 hg hG hd K hK
     dsimp only at hst hG hK
     obtain ⟨h0,x,y,e28,_⟩:=hd 9 (by simp) _ rfl _ rfl
     have f10:=(hd 10 (by simp) _ rfl _ rfl).2.trans e28
     have E28:=hide e28
     clear e28
     simp [Act.eval] at f10
     go_simp
     exact hK _ _ (Below.refl _ _) ⟨h0,x,y,E28.out,rfl⟩
    ·intro st hst ac w3 hg hG hd K hK
     dsimp only at hst hG hK
     obtain ⟨h0,x,y,e28,_⟩:=hd 9 (by simp) _ rfl _ rfl
     have f10:=(hd 10 (by simp) _ rfl _ rfl).2.trans e28
     have E28:=hide e28
     clear e28
     simp [Act.eval] at f10
     go_simp
     exact hK _ _ (Below.refl _ _) ⟨h0,x,y,E28.out,rfl⟩
    ·intro st hst ac w3 hg hG hd K hK
     dsimp only at hst hG hK
     have h9:=hd 9 (by simp) _ rfl _ rfl
     exact op_assign _ rfl (hK _ _ (Below.refl _ _) (hd 11 (by simp) _ rfl _ rfl))
    ·intro st hst ac w3 hg hG hd K hK
     dsimp only at hst hG hK
     have h9:=hd 9 (by simp) _ rfl _ rfl
     exact op_assign _ rfl (hK _ _ (Below.refl _ _) (hd 12 (by simp) _ rfl _ rfl))
   case gu=>intro s w1 w2 hG hu e; exact (hG e).trans (hu.mono (hG e).size)
   case g0=>exact fun _=>(Below.refl _ _).drew
   case fin=>
    intro f9 w6 hG hall
    obtain ⟨_,x,y0,e28,hnp⟩:=hall _ (List.mem_of_getElem? (i:=9) rfl) 28 rfl
    obtain ⟨_,x1,y1,e29,e9⟩:=hall _ (List.mem_of_getElem? (i:=13) rfl) 9 rfl
    obtain ⟨_,x2,y2,e30,e10⟩:=hall _ (List.mem_of_getElem? (i:=14) rfl) 10 rfl
    have HNP:=hide hnp
    rw [fillF_eval _ _ _ 28 (by simp),if_pos (by simp),e28] at e29 e30
    obtain ⟨rfl,rfl⟩:x = x1 ∧ y0 = y1:=by simpa using e29
    obtain ⟨rfl,rfl⟩:x = x2 ∧ y0 = y2:=by simpa using e30
    clear hall hG hnp e29 e30
    simp only [fillF,List.map_cons,List.map_nil,List.foldl_cons,List.foldl_nil,Act.put,List.setIfInBounds_toArray,List.set_cons_zero,List.set_cons_succ]
    rw [e9,e10]
    clear e9 e10 e28
    obtain ⟨hcase,hfr⟩:=HNP.out
    have HFr:=hide hfr
    clear hfr
    rcases hcase with ⟨rfl,rfl,hp,hno⟩ | ⟨rfl,a,F',rfl,ha2,han,hfa,hp,hg⟩
    ·have HMF:=hide (HS.out.mw.full hp HFr.out)
     have HNo:=hide hno
     clear hp hno
     go_wp2_with fail
     refine bodyPost_ret (v:=.tuple #[.slice none 0 0,.int .i64 16]) (by simp (maxDischargeDepth:=9) [results,Try.results59,go_sem]; done) rfl ⟨vt',m',kds.map Kd.p,HMF.out.1,HS.out.ms.trans HMF.out.2,HS.out.gr,by have:=HS.out.nn; have:=HQ.out; omega,by rw [HS.out.nn,List.length_map,HS.out.sv.len,List.length_take]; omega,.inr ⟨rfl,kds.map Kd.p,by rw [List.length_map,HS.out.sv.len,List.length_take]; omega,fun z hz hfz=>Classical.byContradiction fun hnz=>HNo.out z hz (HS.out.gr.rest z hfz hnz)⟩⟩
    ·have HMN:=hide (HS.out.mw.newed hp hg HFr.out)
     have HGN:=hide (Grew.new (c:=c) (m:=m') (F':=F') (d:=d) ha2 han hfa)
     have HAF:=hide hfa
     clear hp hg hfa
     obtain ⟨m6,hm6⟩:∃ m6,m'.new F' a d = m6:=⟨_,rfl⟩
     have HN6:=hide (show m6.N = m'.N + 1 from by rw [← hm6]; rfl)
     rw [hm6] at HMN HGN
     clear hm6
     obtain ⟨tn,htn⟩:∃ tn,(took ++ kds.map Kd.p).length = tn:=⟨_,rfl⟩
     have htn2:tn ≤ 1000000000:=by
      have:=HS.out.sv.len
      rw [← htn,List.length_append,HTL.out,List.length_map,this,List.length_take,HQ.out]
      omega
     have htn3:tn + 1 ≤ 1000000000:=by
      have:=HS.out.sv.len
      rw [← htn,List.length_append,HTL.out,List.length_map,this,List.length_take,HQ.out]
      omega
     have HTK6:=hide (HMN.out.1.tk)
     rw [htn] at HTK6
     have HTN:=hide htn
     obtain ⟨Av,cv,rfl,hcv⟩:=own_slice HTK6.out
     have hB6:B ≤ w6.heap.size:=Nat.le_trans hB (HS.out.ms.trans HMN.out.2).fr.size
     clear htn
     have kg:=HMN.out.1.mkb.cell; have fg:=HMN.out.1.mkb.frozen; have zg:=HMN.out.1.mkb.lt
     go_upto_region 9 with (at_builtin; refine wpList_append_any _ rfl (.tmp 38) (.tmp 40) _ rfl B TI64 i1 _ 1 8 Try.underlying28 HI1.out HZ1.out hy1 hy2 rfl (by omega) (.slice Av tn cv) tn _ rfl (own_later HTK6.out (al_below w6 _)) _ (some ⟨w6.heap.size,0,none⟩) 1 1 [.int .i64 (a:Int)] rfl (reads_blk (Blk.new w6 TI64 _) rfl rfl) (by intro u hu; simp at hu; subst hu; rfl) (by unfold maxLen; omega) (by omega) (Nat.le_trans hB6 (al_below w6 _).size) ?_; intro v' w7 ho hgb hoo; (obtain ⟨A7,c7,rfl,hc7⟩:=own_slice ho); have HM7:=hide (HMN.out.1.noted (a:=a) (al_below w6 _) hB6 (by rw [HTN.out]; exact ho) hgb hoo); have HB7:=hide ((HMN.out.1.mkb.alloc _).grown hgb (fun e=>HMN.out.1.ne.2.1 e.symm)); clear ho hgb hoo kg fg zg; have kg:=HB7.out.cell; have fg:=HB7.out.frozen; have zg:=HB7.out.lt)
     clear kg fg zg HB7
     have HMS8:=hide ((HS.out.ms.trans HMN.out.2).trans HM7.out.2)
     have HWr8:=hide (HMN.out.2.trans HM7.out.2)
     have HM8:=hide HM7.out.1
     obtain ⟨w8,hw8⟩:∃ w8,w7.setCell ⟨mb,1,none⟩ (.slice A7 (tn + 1) c7) = w8:=⟨_,rfl⟩
     rw [hw8] at HMS8 HM8 HWr8 ⊢
     clear hw8 HM7
     obtain ⟨vi,vk,bh,oh,nh,ch,A0,l0,c0,hblk,hgF,hsel,hn0,hnc,hbF2,hblt,hcell,hbs⟩:=HNDw.out.head HKO.out.1
     obtain ⟨w9,hw9⟩:∃ w9,w8.alloc (.cells #[.slice none 0 0,.int .i64 (a:Int)] TKd) = w9:=⟨_,rfl⟩
     obtain ⟨kb,hkb⟩:∃ kb,w8.heap.size = kb:=⟨_,rfl⟩
     have HB9:=hide (show Below w8.heap.size w8 w9 from hw9 ▸ al_below w8 _)
     have HK9:=hide (show Blk w9 kb TKd #[.slice none 0 0,.int .i64 (a:Int)] from hkb ▸ hw9 ▸ Blk.new _ _ _)
     have HG9:=hide (show Blk w9 g TNd #[vi,vk] from Blk.below (show Blk w8 g TNd #[vi,vk] from (HMS8.out.heap hgF).trans hblk) HB9.out (HMS8.out.sf hgF).1)
     have HC9:=hide (show w9.cell? ⟨bh,oh,none⟩ = some (.slice A0 l0 c0) from (heap_cell (p:=⟨bh,oh,none⟩) ((HB9.out.block bh (HMS8.out.sf hbF2).1).trans (HMS8.out.heap hbF2))).trans hcell)
     have HZ9:=hide (show bh < w9.heap.size from Nat.lt_of_lt_of_le (HMS8.out.sf hbF2).1 HB9.out.size)
     have HKd:=hide (show KdR w (Sf w c mb vt m) ⟨hdK y,a⟩ [.slice A0 l0 c0,.int .i64 (a:Int)] from ⟨_,rfl,hbs⟩)
     have HND9:=hide (show NdR w9 (Sf w8 c mb (.slice A7 (tn + 1) c7) m6) g y.1 y.2 from (HNDw.out.keep (fun j hj _=>HMS8.out.heap hj) (fun j hj _=>HMS8.out.sf hj)).keep (fun j hj hlt=>HB9.out.block j hlt) (fun j hj _=>hj))
     have HKB:=hide hkb
     have hkbl:w.heap.size ≤ kb:=by rw [← hkb]; exact HMS8.out.fr.size
     clear hblk hcell hbs hblt hbF2 hgF
     go_upto_region 10 with fail
     (try rw [hw9])
     (try rw [hkb])
     clear hw9 hkb
     rcases HKO.out.1 with ⟨q1,q2⟩ | ⟨q1,q2⟩
     ·rw [q2] at HND9
      rw [if_pos q2] at hsel
      subst hsel
      clear q1 q2
      have kg:=HG9.out.cell 0; have fg:=HG9.out.frozen; have zg:=HG9.out.lt; have kc:=HC9.out; have zc:=HZ9.out; have kk:=HK9.out.cell; have fk:=HK9.out.frozen; have zk:=HK9.out.lt
      simp at kg
      go_upto_region 13 with (go_at_call 28; (refine (leaf_yes HND9.out).mono ?_); rintro e w10 ⟨rfl,e2⟩; rw [e2]; clear e2)
      obtain ⟨w10,hw10⟩:∃ w10,w9.setCell ⟨kb,0,none⟩ (.slice A0 l0 c0) = w10:=⟨_,rfl⟩
      have HK10:=hide (show Blk w10 kb TKd #[.slice A0 l0 c0,.int .i64 (a:Int)] from hw10 ▸ HK9.out.set_ 0 _)
      have HB10:=hide (show Below w8.heap.size w8 w10 from hw10 ▸ HB9.out.setCell (p:=⟨kb,0,none⟩) (by rw [HKB.out]; exact Nat.le_refl _) _)
      rw [hw10]
      clear hw10 kg fg zg kc zc kk fk zk
      obtain ⟨xs,hxo,hxl⟩:=HS.out.out
      have hkl:kds.length = j:=by have:=HS.out.sv.len; rw [List.length_take,HQ.out] at this; omega
      rw [hkl] at hxo
      have hov:∀ gg,(Value.slice A j cc).ownBlock = some gg → gg < wr.heap.size ∧ ¬ MT c mb (.slice Av tn cv) m' gg:=fun gg hgg=>⟨(hxo.lt gg hgg).2,HS.out.ov gg hgg⟩
      have HXO:=hide (show w10.ownsRow w.heap.size TKd 2 (.slice A j cc) j xs from row_keep hxo (fun gg hgg=>(HB10.out.block gg (HWr8.out.sf (hov gg hgg)).1).trans (HWr8.out.heap (hov gg hgg))))
      have HXL:=hide hxl
      have HOV:=hide hov
      have HKL:=hide hkl
      clear hxo hxl hov hkl
      have hw10:w.heap.size ≤ w10.heap.size:=Nat.le_trans HMS8.out.fr.size HB10.out.size
      have kk:=HK10.out.cell; have fk:=HK10.out.frozen; have zk:=HK10.out.lt
      go_upto_region 14 with (at_builtin; refine wpList_append_any _ rfl (.tmp 64) (.tmp 66) _ rfl w.heap.size TKd i0 _ 2 32 Try.underlying75 HI0.out HZ0.out hz1 hz2 rfl (by omega) (.slice A j cc) j xs rfl (own_later HXO.out (al_below w10 _)) _ (some ⟨w10.heap.size,0,none⟩) 1 1 [.slice A0 l0 c0,.int .i64 (a:Int)] rfl (reads_blk (Blk.new w10 TKd _) rfl rfl) (by intro u hu; simp at hu; rcases hu with rfl | rfl <;> rfl) (by unfold maxLen; omega) (by omega) (Nat.le_trans hw10 (al_below w10 _).size) ?_; intro v' w11 ho hgb hoo; (obtain ⟨Ao,co,rfl,hco⟩:=own_slice ho); have HO11:=hide ho; have HG11:=hide hgb; have HOO:=hide hoo; clear ho hgb hoo kk fk zk)
      have HBA:=hide (show Below w8.heap.size w8 (w10.alloc (.cells #[.slice A0 l0 c0,.int .i64 (a:Int)] TKd)) from HB10.out.alloc HB10.out.size _)
      have HMS11:=hide (HMS8.out.grown HBA.out HG11.out (fun gg hgg=>(HXO.out.lt gg hgg).1))
      have hnmt:∀ gg,(Value.slice A j cc).ownBlock = some gg → ¬ MT c mb (.slice A7 (tn + 1) c7) m6 gg ∧ gg ≠ tb:=fun gg hgg=>⟨(HWr8.out.sf (HOV.out gg hgg)).2,fun e=>by subst e; exact own_blk_ne (own_later HXO.out (Below.refl _ _)) (HM8.out.tr.below HB10.out HM8.out.tr.lt) (by decide) hgg⟩
      have HM11:=hide (HM8.out.grown HBA.out HG11.out hnmt)
      have HSI:=hide (show SvI w c B mb tb took vt m nds w11 (j + 1) (.slice Ao (j + 1) co) (.slice A7 (tn + 1) c7) m6 (kds ++ [⟨hdK y,a⟩]) from by
       refine ⟨by rw [List.map_append,← List.append_assoc]; exact HM11.out,HMS11.out,by rw [List.map_append]; exact HS.out.gr.trans HGN.out.1,by rw [HN6.out]; have:=HS.out.nn; omega,?_,Gro.push HXL.out HKL.out.symm HO11.out HKd.out,fun gg hgg=>?_⟩
       ·rw [HTK.out]
        refine SavedAs.snoc rfl (by rw [HD.out]; exact HGN.out.2) (HS.out.sv.keep (fun k hk=>(HGN.out.1.old k.p ?_).2))
        exact (HS.out.gr.in_ k.p (List.mem_map_of_mem hk)).2.2.2
       ·rcases HOO.out with e | e
        ·rw [e] at hgg; exact (hnmt gg hgg).1
        ·rw [e] at hgg
         injection hgg with hgg
         intro hm
         have h1:=HM8.out.lt hm
         have h2:w8.heap.size ≤ gg:=hgg ▸ HBA.out.size
         omega)
      clear hnmt
      go_wp2_with fail
      refine ⟨⟨j + 1,co,Ao,_,m6,_,rfl,by push_cast; rfl,by omega,HSI⟩,?_⟩
      simp [intOf]
      omega
     ·rw [if_neg q2] at hsel
      subst hsel
      have HQ2:=hide q2
      clear q1 q2
      have kg:=HG9.out.cell 1; have fg:=HG9.out.frozen; have zg:=HG9.out.lt; have kc:=HC9.out; have zc:=HZ9.out; have kk:=HK9.out.cell; have fk:=HK9.out.frozen; have zk:=HK9.out.lt
      simp at kg
      go_upto_region 13 with (go_at_call 28; (refine (leaf_no HND9.out HQ2.out).mono ?_); rintro e w10 ⟨rfl,e2⟩; rw [e2]; clear e2)
      obtain ⟨w10,hw10⟩:∃ w10,w9.setCell ⟨kb,0,none⟩ (.slice A0 l0 c0) = w10:=⟨_,rfl⟩
      have HK10:=hide (show Blk w10 kb TKd #[.slice A0 l0 c0,.int .i64 (a:Int)] from hw10 ▸ HK9.out.set_ 0 _)
      have HB10:=hide (show Below w8.heap.size w8 w10 from hw10 ▸ HB9.out.setCell (p:=⟨kb,0,none⟩) (by rw [HKB.out]; exact Nat.le_refl _) _)
      rw [hw10]
      clear hw10 kg fg zg kc zc kk fk zk
      obtain ⟨xs,hxo,hxl⟩:=HS.out.out
      have hkl:kds.length = j:=by have:=HS.out.sv.len; rw [List.length_take,HQ.out] at this; omega
      rw [hkl] at hxo
      have hov:∀ gg,(Value.slice A j cc).ownBlock = some gg → gg < wr.heap.size ∧ ¬ MT c mb (.slice Av tn cv) m' gg:=fun gg hgg=>⟨(hxo.lt gg hgg).2,HS.out.ov gg hgg⟩
      have HXO:=hide (show w10.ownsRow w.heap.size TKd 2 (.slice A j cc) j xs from row_keep hxo (fun gg hgg=>(HB10.out.block gg (HWr8.out.sf (hov gg hgg)).1).trans (HWr8.out.heap (hov gg hgg))))
      have HXL:=hide hxl
      have HOV:=hide hov
      have HKL:=hide hkl
      clear hxo hxl hov hkl
      have hw10:w.heap.size ≤ w10.heap.size:=Nat.le_trans HMS8.out.fr.size HB10.out.size
      have kk:=HK10.out.cell; have fk:=HK10.out.frozen; have zk:=HK10.out.lt
      go_upto_region 14 with (at_builtin; refine wpList_append_any _ rfl (.tmp 64) (.tmp 66) _ rfl w.heap.size TKd i0 _ 2 32 Try.underlying75 HI0.out HZ0.out hz1 hz2 rfl (by omega) (.slice A j cc) j xs rfl (own_later HXO.out (al_below w10 _)) _ (some ⟨w10.heap.size,0,none⟩) 1 1 [.slice A0 l0 c0,.int .i64 (a:Int)] rfl (reads_blk (Blk.new w10 TKd _) rfl rfl) (by intro u hu; simp at hu; rcases hu with rfl | rfl <;> rfl) (by unfold maxLen; omega) (by omega) (Nat.le_trans hw10 (al_below w10 _).size) ?_; intro v' w11 ho hgb hoo; (obtain ⟨Ao,co,rfl,hco⟩:=own_slice ho); have HO11:=hide ho; have HG11:=hide hgb; have HOO:=hide hoo; clear ho hgb hoo kk fk zk)
      have HBA:=hide (show Below w8.heap.size w8 (w10.alloc (.cells #[.slice A0 l0 c0,.int .i64 (a:Int)] TKd)) from HB10.out.alloc HB10.out.size _)
      have HMS11:=hide (HMS8.out.grown HBA.out HG11.out (fun gg hgg=>(HXO.out.lt gg hgg).1))
      have hnmt:∀ gg,(Value.slice A j cc).ownBlock = some gg → ¬ MT c mb (.slice A7 (tn + 1) c7) m6 gg ∧ gg ≠ tb:=fun gg hgg=>⟨(HWr8.out.sf (HOV.out gg hgg)).2,fun e=>by subst e; exact own_blk_ne (own_later HXO.out (Below.refl _ _)) (HM8.out.tr.below HB10.out HM8.out.tr.lt) (by decide) hgg⟩
      have HM11:=hide (HM8.out.grown HBA.out HG11.out hnmt)
      have HSI:=hide (show SvI w c B mb tb took vt m nds w11 (j + 1) (.slice Ao (j + 1) co) (.slice A7 (tn + 1) c7) m6 (kds ++ [⟨hdK y,a⟩]) from by
       refine ⟨by rw [List.map_append,← List.append_assoc]; exact HM11.out,HMS11.out,by rw [List.map_append]; exact HS.out.gr.trans HGN.out.1,by rw [HN6.out]; have:=HS.out.nn; omega,?_,Gro.push HXL.out HKL.out.symm HO11.out HKd.out,fun gg hgg=>?_⟩
       ·rw [HTK.out]
        refine SavedAs.snoc rfl (by rw [HD.out]; exact HGN.out.2) (HS.out.sv.keep (fun k hk=>(HGN.out.1.old k.p ?_).2))
        exact (HS.out.gr.in_ k.p (List.mem_map_of_mem hk)).2.2.2
       ·rcases HOO.out with e | e
        ·rw [e] at hgg; exact (hnmt gg hgg).1
        ·rw [e] at hgg
         injection hgg with hgg
         intro hm
         have h1:=HM8.out.lt hm
         have h2:w8.heap.size ≤ gg:=hgg ▸ HBA.out.size
         omega)
      clear hnmt
      go_wp2_with fail
      refine ⟨⟨j + 1,co,Ao,_,m6,_,rfl,by push_cast; rfl,by omega,HSI⟩,?_⟩
      simp [intOf]
      omega
  ·obtain rfl:q = j:=by omega
   go_wp2_with fail
   have hsv:=HS.out.sv
   rw [← HQ.out,List.take_length] at hsv
   refine bodyPost_ret (v:=.tuple #[.slice A q cc,.int .i64 0]) (by simp (maxDischargeDepth:=9) [results,Try.results59,go_sem]; done) rfl ⟨vt',m',kds.map Kd.p,HS.out.mw,HS.out.ms,HS.out.gr,by rw [HQ.out,HS.out.nn]; exact Nat.le_refl _,by rw [HS.out.nn,List.length_map,HS.out.sv.len,List.length_take]; omega,.inl ⟨_,kds,rfl,?_,hsv,rfl⟩⟩
   exact HS.out.out.slk (by decide) @KdR.keep (fun j hj _=>HS.out.ms.heap hj) (fun j hj _=>HS.out.ms.sf hj) (fun g hg=>by
    obtain ⟨xs,h1,_⟩:=HS.out.out
    exact ⟨(h1.lt g hg).2,HS.out.ov g hg⟩)
end Go.Proofs.Ytkolacaceaamoaa
