/- The tree: changes. -/
import Derived.Test.YtkolacaceaamoaaKMe
import Derived.Shelf.SlSortCmp.InsertionK
/- The tree: changes. -/
set_option linter.unusedSimpArgs false
set_option linter.unusedVariables false
namespace Go.Proofs.Ytkolacaceaamoaa
open Go.RowKit
abbrev TCh:TypeId:=116
theorem tch_inf:∃ i,Try.prog.info? TCh = some i ∧ i.zero = some (.agg #[.slice none 0 0,.slice none 0 0,.bool false]) ∧ i.size = 3 ∧ i.bytes = 56:=by
 have h:(Try.prog.info? TCh).map (fun i=>(i.zero,i.size,i.bytes)) = some (some (.agg #[.slice none 0 0,.slice none 0 0,.bool false]),3,56):=by kernel_rfl
 cases hi:Try.prog.info? TCh with
 | none=>rw [hi] at h; cases h
 | some i=>
  rw [hi] at h
  simp at h
  exact ⟨i,rfl,h.1,h.2.1,h.2.2⟩
set_option maxRecDepth 100000 in
theorem chg1_any {w:World} {a a2 b b2:Value} {g g':Bool} {l l':Cn} (h:BSw w a l) (h':BSw w b l') (ha:∃ A n c,a2 = .slice A n c) (hb:∃ A n c,b2 = .slice A n c) :
  Calls Try.prog 50 #[.agg #[a,a2,.bool g],.agg #[b,b2,.bool g']] w fun e w'=>e = .returned (.int .i64 (Lib.compareBytes l l')) ∧ ∃ q os',w' = Go.Sort.grow (w.drewN q) os':=by
 obtain ⟨A,c,rfl,hc1,hr1⟩:=h
 obtain ⟨B,c',rfl,hc1',hr1'⟩:=h'
 obtain ⟨A2,n2,c2,rfl⟩:=ha
 obtain ⟨B2,m2,d2,rfl⟩:=hb
 obtain ⟨w1,hw1⟩:∃ y,(w.alloc (.cells #[.slice A l.length c,.slice A2 n2 c2,.bool g] TCh)).alloc (.cells #[.slice B l'.length c',.slice B2 m2 d2,.bool g'] TCh) = y:=⟨_,rfl⟩
 have HB1:=hide (show Below w.heap.size w w1 from hw1 ▸ bal (al_below w _) _)
 have HC1:=hide (show Blk w1 w.heap.size TCh #[.slice A l.length c,.slice A2 n2 c2,.bool g] from hw1 ▸ (Blk.new _ _ _).alloc _)
 have HC2:=hide (show Blk w1 (w.heap.size + 1) TCh #[.slice B l'.length c',.slice B2 m2 d2,.bool g'] from hw1 ▸ (by have:=Blk.new (w.alloc (.cells #[.slice A l.length c,.slice A2 n2 c2,.bool g] TCh)) TCh #[.slice B l'.length c',.slice B2 m2 d2,.bool g']; simpa using this))
 have HK:=hide (BS.later (w:=w) ⟨A,c,rfl,hc1,hr1⟩ HB1.out)
 have HK':=hide (BS.later (w:=w) ⟨B,c',rfl,hc1',hr1'⟩ HB1.out)
 have HW1:=hide hw1
 clear hw1 hc1 hr1 hc1' hr1'
 go_enter Try.func50,Try.ntmps50
 go_upto_region 1 with fail
 rw [HW1.out]
 have kv:=HC1.out.cell; have fv:=HC1.out.frozen; have zv:=HC1.out.lt
 have kv2:=HC2.out.cell; have fv2:=HC2.out.frozen; have zv2:=HC2.out.lt
 go_wp2_with (go_at_call 26; (refine (compare_bs HK.out HK'.out).mono ?_); rintro e w2 ⟨rfl,e2⟩; rw [e2]; clear e2)
 go_ret
 exact ⟨rfl,0,_,by rw [← HW1.out,Go.Sort.alloc_eq_grow,Go.Sort.alloc_eq_grow,Go.Sort.grow_grow]; rfl⟩
end Go.Proofs.Ytkolacaceaamoaa
/- The tree: changes, sorted. -/
namespace Go.Proofs.Ytkolacaceaamoaa
open Go.RowKit Go.Shelf Go.Sort
/-- A change in memory: its key, its value, is it gone; their slices. -/
structure ChV where
 key:Cn
 val:Cn
 gone:Bool
 vk:Value
 vv:Value
def encC (x:ChV):List Value:=[x.vk,x.vv,.bool x.gone]
def OkC (w:World) (blk:Nat) (x:ChV):Prop:=BS w (fun j=>j < w.heap.size ∧ j ≠ blk) x.vk x.key ∧ BS w (fun j=>j < w.heap.size ∧ j ≠ blk) x.vv x.val
abbrev ChW (w:World) (blk:Nat):Type:={ x:ChV // OkC w blk x }
instance (w:World) (blk:Nat):Inhabited (ChW w blk):=⟨⟨⟨[],[],false,.slice none 0 0,.slice none 0 0⟩,⟨none,0,rfl,⟨Nat.le_refl _,Nat.zero_le _⟩,RF.nil _⟩,⟨none,0,rfl,⟨Nat.le_refl _,Nat.zero_le _⟩,RF.nil _⟩⟩⟩
def encW (w:World) (blk:Nat) (x:ChW w blk):List Value:=encC x.1
theorem sortWorldK_heap {α:Type} [Inhabited α] (enc:α → List Value) (k:Nat) (w:World) (blk off m:Nat) (dk:Array α) (os:Array Obj) {j:Nat} (hj:j < w.heap.size) (hne:j ≠ blk):(sortWorldK enc k w blk off m dk os).heap[j]? = w.heap[j]?:=by
 unfold sortWorldK putRowK putRow mapBlock grow Sort.ahead
 simp [Array.getElem?_append,Array.getElem?_modify,hj,Ne.symm hne]
 rw [Array.getElem_modify,if_neg (Ne.symm hne)]
theorem cmpLaysC (w:World) (blk off size:Nat):CmpLays Try.prog 50 #[] (encW w blk) 3 (fun x y=>Lib.compareBytes x.1.key y.1.key) blk off size w:=by
 intro m os dk hdk x y
 have hs:=size_sortWorldK_c (encW w blk) 3 w blk off m dk os
 have hkp:∀ (v:Value) (l:Cn),BS w (fun j=>j < w.heap.size ∧ j ≠ blk) v l → BSw (sortWorldK (encW w blk) 3 w blk off m dk os) v l:=fun v l h=>
  h.keep (fun j hj hl=>sortWorldK_heap _ _ _ _ _ _ _ _ hl hj.2) (fun j hj hl=>Nat.lt_of_lt_of_le hl hs)
 obtain ⟨x,hx⟩:=x
 obtain ⟨y,hy⟩:=y
 obtain ⟨A,c,e,_⟩:=hx.2
 obtain ⟨B,d,e',_⟩:=hy.2
 exact chg1_any (hkp _ _ hx.1) (hkp _ _ hy.1) ⟨A,_,c,e⟩ ⟨B,_,d,e'⟩
theorem swoC (w:World) (blk:Nat):SWO (ltOf fun x y:ChW w blk=>Lib.compareBytes x.1.key y.1.key) where
 irrefl x:=by unfold ltOf; simp [cb_zero.2 rfl]
 trans x y z h1 h2:=by
  unfold ltOf at *
  simp at *
  exact cb_trans h1 h2
 ntrans x y z h1 h2:=by
  unfold ltOf at *
  simp at *
  have e1:Lib.compareBytes y.1.key x.1.key ≤ 0:=by rw [cb_swap]; omega
  have e2:Lib.compareBytes z.1.key y.1.key ≤ 0:=by rw [cb_swap]; omega
  have e3:Lib.compareBytes z.1.key x.1.key ≤ 0:=by
   rcases Int.lt_or_eq_of_le e2 with h3 | h3
   ·rcases Int.lt_or_eq_of_le e1 with h4 | h4
    ·exact Int.le_of_lt (cb_trans h3 h4)
    ·rw [← cb_zero.1 h4]; exact e2
   ·rw [cb_zero.1 h3]; exact e1
  rw [cb_swap] at e3
  omega
end Go.Proofs.Ytkolacaceaamoaa
/- The tree: cut, plain (no program in sight). -/
namespace Go.Proofs.Ytkolacaceaamoaa
section
variable {α:Type} (sz:α → Nat)
def sumZ (l:List α):Nat:=(l.map sz).sum
/-- One round of cut's second loop: the parts that are done, and the last one (n is its sum). -/
def cutStep (share:Nat) (st:List (List α) × List α) (x:α):List (List α) × List α:=
 match st.2 with
 | []=>(st.1,[x])
 | y :: l=>if 505 < 1 + sumZ sz (y :: l) + sz x ∨ share ≤ sumZ sz (y :: l) then (st.1 ++ [y :: l],[x]) else (st.1,(y :: l) ++ [x])
def cutOut (st:List (List α) × List α):List (List α):=
 match st.2 with
 | []=>st.1
 | y :: l=>st.1 ++ [y :: l]
def shareOf (all:Nat):Nat:=all / max ((all + 504) / 505) 1 + 1
/-- What cut answers. -/
def cutF (l:List α):List (List α):=cutOut (l.foldl (cutStep sz (shareOf (1 + sumZ sz l))) ([],[]))
def CutOk (st:List (List α) × List α):Prop:=(∀ p ∈ st.1,p ≠ [] ∧ 1 + sumZ sz p ≤ 505) ∧ (st.2 ≠ [] → 1 + sumZ sz st.2 ≤ 505)
theorem cutStep_flat (share:Nat) (st:List (List α) × List α) (x:α):(cutStep sz share st x).1.flatten ++ (cutStep sz share st x).2 = st.1.flatten ++ st.2 ++ [x]:=by
 obtain ⟨d,c⟩:=st
 cases c with
 | nil=>simp [cutStep]
 | cons y l=>
  simp only [cutStep]
  split <;> simp
theorem cutStep_ok {share:Nat} {st:List (List α) × List α} {x:α} (h:CutOk sz st) (hx:sz x ≤ 504):CutOk sz (cutStep sz share st x):=by
 obtain ⟨d,c⟩:=st
 obtain ⟨h1,h2⟩:=h
 cases c with
 | nil=>exact ⟨h1,fun _=>by simp [cutStep,sumZ]; omega⟩
 | cons y l=>
  simp only [cutStep]
  split
  ·refine ⟨fun p hp=>?_,fun _=>by simp [sumZ]; omega⟩
   rcases List.mem_append.1 hp with hp | hp
   ·exact h1 p hp
   ·rw [List.mem_singleton.1 hp]
    exact ⟨by simp,h2 (by simp)⟩
  ·next hn=>
   refine ⟨h1,fun _=>?_⟩
   have e:sumZ sz ((y :: l) ++ [x]) = sumZ sz (y :: l) + sz x:=by simp [sumZ]; omega
   show 1 + sumZ sz ((y :: l) ++ [x]) ≤ 505
   rw [e]
   omega
theorem cut_fold (share:Nat):∀ (l:List α) (st:List (List α) × List α),(∀ x ∈ l,sz x ≤ 504) → CutOk sz st → CutOk sz (l.foldl (cutStep sz share) st) ∧ (l.foldl (cutStep sz share) st).1.flatten ++ (l.foldl (cutStep sz share) st).2 = st.1.flatten ++ st.2 ++ l
 | [],st,_,h=>⟨h,by simp⟩
 | x :: l,st,hl,h=>by
  have ih:=cut_fold share l (cutStep sz share st x) (fun y hy=>hl y (List.mem_cons_of_mem _ hy)) (cutStep_ok sz h (hl x List.mem_cons_self))
  rw [List.foldl_cons]
  refine ⟨ih.1,?_⟩
  rw [ih.2,cutStep_flat]
  simp
theorem cutOut_flat (st:List (List α) × List α):(cutOut st).flatten = st.1.flatten ++ st.2:=by
 obtain ⟨d,c⟩:=st
 cases c <;> simp [cutOut]
/-- The parts are the list, none is empty, each has room in a page. -/
theorem cutF_flat {l:List α} (hl:∀ x ∈ l,sz x ≤ 504):(cutF sz l).flatten = l:=by
 unfold cutF
 rw [cutOut_flat,(cut_fold sz _ l ([],[]) hl ⟨by simp,by simp⟩).2]
 simp
theorem cutF_ok {l:List α} (hl:∀ x ∈ l,sz x ≤ 504):∀ p ∈ cutF sz l,p ≠ [] ∧ 1 + sumZ sz p ≤ 505:=by
 have h:=(cut_fold sz (shareOf (1 + sumZ sz l)) l ([],[]) hl ⟨by simp,by simp⟩).1
 unfold cutF
 obtain ⟨⟨d,c⟩,hd⟩:∃ st,l.foldl (cutStep sz (shareOf (1 + sumZ sz l))) ([],[]) = st:=⟨_,rfl⟩
 rw [hd] at h ⊢
 intro p hp
 cases c with
 | nil=>exact h.1 p hp
 | cons y l=>
  rcases List.mem_append.1 hp with hp | hp
  ·exact h.1 p hp
  ·rw [List.mem_singleton.1 hp]
   exact ⟨by simp,h.2 (by simp)⟩
end
end Go.Proofs.Ytkolacaceaamoaa
/- The tree: items changed by changes, plain (no program in sight). -/
namespace Go.Proofs.Ytkolacaceaamoaa
open Go.Lib (compareBytes)
/-- A change. -/
structure Ch where
 k:Cn
 v:Cn
 gone:Bool
def Ch.item (c:Ch):List It:=if c.gone then [] else [⟨c.k,c.v⟩]
/-- What items answers. -/
def mergeC:List It → List Ch → List It
 | [],[]=>[]
 | [],c :: t=>c.item ++ mergeC [] t
 | i :: l,[]=>i :: mergeC l []
 | i :: l,c :: t=>
  if 0 < compareBytes c.k i.k then i :: mergeC l (c :: t)
  else if compareBytes c.k i.k = 0 then c.item ++ mergeC l t
  else c.item ++ mergeC (i :: l) t
termination_by l t=>l.length + t.length
theorem mergeC_nil:∀ t:List Ch,mergeC [] t = t.flatMap Ch.item
 | []=>by simp [mergeC]
 | c :: t=>by rw [mergeC,mergeC_nil t,List.flatMap_cons]
theorem mergeC_none:∀ l:List It,mergeC l [] = l
 | []=>by simp [mergeC]
 | i :: l=>by rw [mergeC,mergeC_none l]
theorem mem_item {c:Ch} {x:It} (h:x ∈ c.item):c.gone = false ∧ x = ⟨c.k,c.v⟩:=by
 unfold Ch.item at h
 split at h
 ·cases h
 ·next hg=>exact ⟨by simpa using hg,List.mem_singleton.1 h⟩
/-- Each item comes of the old ones or of a change. -/
theorem mergeC_mem:∀ (l:List It) (t:List Ch) (x:It),x ∈ mergeC l t → x ∈ l ∨ ∃ c ∈ t,c.gone = false ∧ x = ⟨c.k,c.v⟩
 | [],[],x,h=>by simp [mergeC] at h
 | [],c :: t,x,h=>by
  rw [mergeC] at h
  rcases List.mem_append.1 h with h | h
  ·exact .inr ⟨c,List.mem_cons_self,mem_item h⟩
  ·rcases mergeC_mem [] t x h with h | ⟨d,hd,e⟩
   ·exact .inl h
   ·exact .inr ⟨d,List.mem_cons_of_mem _ hd,e⟩
 | i :: l,[],x,h=>by
  rw [mergeC_none] at h
  exact .inl h
 | i :: l,c :: t,x,h=>by
  rw [mergeC] at h
  split at h
  ·rcases List.mem_cons.1 h with rfl | h
   ·exact .inl List.mem_cons_self
   ·rcases mergeC_mem l (c :: t) x h with h | h
    ·exact .inl (List.mem_cons_of_mem _ h)
    ·exact .inr h
  ·split at h
   ·rcases List.mem_append.1 h with h | h
    ·exact .inr ⟨c,List.mem_cons_self,mem_item h⟩
    ·rcases mergeC_mem l t x h with h | ⟨d,hd,e⟩
     ·exact .inl (List.mem_cons_of_mem _ h)
     ·exact .inr ⟨d,List.mem_cons_of_mem _ hd,e⟩
   ·rcases List.mem_append.1 h with h | h
    ·exact .inr ⟨c,List.mem_cons_self,mem_item h⟩
    ·rcases mergeC_mem (i :: l) t x h with h | ⟨d,hd,e⟩
     ·exact .inl h
     ·exact .inr ⟨d,List.mem_cons_of_mem _ hd,e⟩
termination_by l t=>l.length + t.length
end Go.Proofs.Ytkolacaceaamoaa
/- The tree: items changed by changes: in order, and what each key has (plain). -/
namespace Go.Proofs.Ytkolacaceaamoaa
open Go.Lib (compareBytes)
def AllGt (a:Cn) (l:List It) (t:List Ch):Prop:=(∀ x ∈ l,compareBytes a x.k < 0) ∧ ∀ c ∈ t,compareBytes a c.k < 0
theorem AllGt.mem {a:Cn} {l:List It} {t:List Ch} (h:AllGt a l t):∀ x ∈ mergeC l t,compareBytes a x.k < 0:=fun x hx=>by
 rcases mergeC_mem l t x hx with h1 | ⟨c,hc,_,e⟩
 ·exact h.1 x h1
 ·rw [e]; exact h.2 c hc
def RiseI (l:List It):Prop:=l.Pairwise fun a b=>compareBytes a.k b.k < 0
def RiseC (t:List Ch):Prop:=t.Pairwise fun a b=>compareBytes a.k b.k < 0
theorem item_rise {c:Ch} {m:List It} (h:∀ x ∈ m,compareBytes c.k x.k < 0) (hm:RiseI m):RiseI (c.item ++ m):=by
 unfold Ch.item
 split
 ·exact hm
 ·exact List.pairwise_cons.2 ⟨h,hm⟩
theorem valOf_cons (i:It) (m:List It) (key:Cn):valOf (i :: m) key = if i.k = key then some i.v else valOf m key:=by
 unfold valOf
 rw [List.find?_cons]
 by_cases h:i.k = key
 ·simp [h]
 ·rw [beq_eq_false_iff_ne.2 h]
  simp [h]
theorem valOf_item (c:Ch) (m:List It) (key:Cn):valOf (c.item ++ m) key = if c.k = key ∧ c.gone = false then some c.v else valOf m key:=by
 unfold Ch.item
 cases hg:c.gone with
 | true=>simp
 | false=>
  simp only [Bool.false_eq_true,if_false,List.singleton_append,and_true]
  rw [valOf_cons]
/-- What the changes say of a key. -/
def chOf (t:List Ch) (key:Cn):Option Ch:=t.find? fun c=>c.k == key
def askC (l:List It) (t:List Ch) (key:Cn):Option Cn:=
 match chOf t key with
 | some c=>if c.gone then none else some c.v
 | none=>valOf l key
theorem chOf_cons (c:Ch) (t:List Ch) (key:Cn):chOf (c :: t) key = if c.k = key then some c else chOf t key:=by
 unfold chOf
 rw [List.find?_cons]
 by_cases h:c.k = key
 ·simp [h]
 ·rw [beq_eq_false_iff_ne.2 h]
  simp [h]
theorem gt_valOf {a:Cn} {m:List It} (h:∀ x ∈ m,compareBytes a x.k < 0):valOf m a = none:=valOf_none fun x hx e=>by
 have:=h x hx
 rw [e,cb_zero.2 rfl] at this
 omega
theorem gt_chOf {a:Cn} {t:List Ch} (h:∀ c ∈ t,compareBytes a c.k < 0):chOf t a = none:=by
 unfold chOf
 rw [List.find?_eq_none]
 intro c hc e
 have:=h c hc
 rw [beq_iff_eq.1 e,cb_zero.2 rfl] at this
 omega
theorem mergeC_law:∀ (l:List It) (t:List Ch),RiseI l → RiseC t → RiseI (mergeC l t) ∧ ∀ key,valOf (mergeC l t) key = askC l t key
 | [],[],_,_=>by
  rw [mergeC_none]
  exact ⟨List.Pairwise.nil,fun key=>rfl⟩
 | i :: l,[],hl,_=>by
  rw [mergeC_none]
  exact ⟨hl,fun key=>rfl⟩
 | [],c :: t,hl,ht=>by
  have ih:=mergeC_law [] t hl (List.pairwise_cons.1 ht).2
  have hg:AllGt c.k [] t:=⟨by simp,(List.pairwise_cons.1 ht).1⟩
  rw [mergeC]
  refine ⟨item_rise hg.mem ih.1,fun key=>?_⟩
  rw [valOf_item,ih.2]
  unfold askC
  rw [chOf_cons]
  by_cases hk:c.k = key
  ·subst hk
   rw [gt_chOf hg.2]
   cases hz:c.gone <;> simp [valOf,hz]
  ·simp [hk]
 | i :: l,c :: t,hl,ht=>by
  have hl':=List.pairwise_cons.1 hl
  have ht':=List.pairwise_cons.1 ht
  rw [mergeC]
  split
  ·next h0=>
   have hic:compareBytes i.k c.k < 0:=by rw [cb_swap]; omega
   have ih:=mergeC_law l (c :: t) hl'.2 ht
   have hg:AllGt i.k l (c :: t):=⟨hl'.1,fun d hd=>by
    rcases List.mem_cons.1 hd with rfl | hd
    ·exact hic
    ·exact cb_trans hic (ht'.1 d hd)⟩
   refine ⟨List.pairwise_cons.2 ⟨hg.mem,ih.1⟩,fun key=>?_⟩
   rw [valOf_cons,ih.2]
   unfold askC
   by_cases hk:i.k = key
   ·subst hk
    rw [gt_chOf hg.2,valOf_cons]
   ·rw [valOf_cons]
    simp [hk]
  ·next h0=>
   split
   ·next h1=>
    have e:=cb_zero.1 h1
    have ih:=mergeC_law l t hl'.2 ht'.2
    have hg:AllGt c.k l t:=⟨fun x hx=>by rw [e]; exact hl'.1 x hx,ht'.1⟩
    refine ⟨item_rise hg.mem ih.1,fun key=>?_⟩
    rw [valOf_item,ih.2]
    unfold askC
    rw [chOf_cons,valOf_cons,← e]
    by_cases hk:c.k = key
    ·subst hk
     rw [gt_chOf hg.2,gt_valOf hg.1]
     cases hz:c.gone <;> simp [hz]
    ·simp [hk]
   ·next h1=>
    have hci:compareBytes c.k i.k < 0:=by omega
    have ih:=mergeC_law (i :: l) t hl ht'.2
    have hg:AllGt c.k (i :: l) t:=⟨fun x hx=>by
     rcases List.mem_cons.1 hx with rfl | hx
     ·exact hci
     ·exact cb_trans hci (hl'.1 x hx),ht'.1⟩
    refine ⟨item_rise hg.mem ih.1,fun key=>?_⟩
    rw [valOf_item,ih.2]
    unfold askC
    rw [chOf_cons]
    by_cases hk:c.k = key
    ·subst hk
     rw [gt_chOf hg.2,gt_valOf hg.1]
     cases hz:c.gone <;> simp [hz]
    ·simp [hk]
termination_by l t=>l.length + t.length
end Go.Proofs.Ytkolacaceaamoaa
/- The tree: New. -/
namespace Go.Proofs.Ytkolacaceaamoaa
open Go.RowKit
set_option maxRecDepth 100000 in
theorem tnew_any (w:World) (q:Option Addr) :
  Calls Try.prog 18 #[.pointer q] w fun e w'=>∃ g,e = .returned (.pointer (some ⟨g,0,none⟩)) ∧ g = w.heap.size ∧ Blk w' g TTr #[.pointer q] ∧ Below w.heap.size w w':=by
 go_enter Try.func18,Try.ntmps18
 go_wp2_with fail
 go_ret
 exact ⟨w.heap.size,rfl,rfl,Blk.new _ _ _,al_below w _⟩
end Go.Proofs.Ytkolacaceaamoaa
/- The tree: a page's tree among pages in use; what New and Free leave of it (plain). -/
namespace Go.Proofs.Ytkolacaceaamoaa
/-- TrP, each page of which is in U (the pages in use). -/
def TrQ (C:Int → Cn) (n:Nat) (U:Nat → Prop):Nat → Nat → List It → Prop
 | 0,_,_=>False
 | h + 1,p,is=>pgB n (p:Int) = true ∧ U p ∧ ((is ≠ [] ∧ (∀ i ∈ is,itOk i) ∧ (ndB is []).length ≤ 505 ∧ C p = sealC 2 (ndB is [])) ∨
   ∃ ks:List KI,ks ≠ [] ∧ (∀ x ∈ ks,kdOk x.1) ∧ (ndB [] (ks.map Prod.fst)).length ≤ 505 ∧ C p = sealC 2 (ndB [] (ks.map Prod.fst)) ∧ is = ks.flatMap Prod.snd ∧ ∀ x ∈ ks,TrQ C n U h x.1.p x.2 ∧ ∃ i r,x.2 = i :: r ∧ i.k = x.1.k)
theorem TrQ.trP {C:Int → Cn} {n:Nat} {U:Nat → Prop}:∀ {h p:Nat} {is:List It},TrQ C n U h p is → TrP C n h p is
 | 0,_,_,h=>h.elim
 | h + 1,p,is,⟨h1,_,h2⟩=>⟨h1,h2.imp id fun ⟨ks,a,b,c,d,e,f⟩=>⟨ks,a,b,c,d,e,fun x hx=>⟨TrQ.trP (f x hx).1,(f x hx).2⟩⟩⟩
theorem TrQ.mono {C:Int → Cn} {n:Nat} {U:Nat → Prop}:∀ {h p:Nat} {is:List It},TrQ C n U h p is → TrQ C n U (h + 1) p is
 | 0,_,_,h=>h.elim
 | h + 1,p,is,⟨h1,u,h2⟩=>⟨h1,u,h2.imp id fun ⟨ks,a,b,c,d,e,f⟩=>⟨ks,a,b,c,d,e,fun x hx=>⟨TrQ.mono (f x hx).1,(f x hx).2⟩⟩⟩
/-- What turns beside the pages in use leaves the tree. -/
theorem TrQ.keep {C C':Int → Cn} {n:Nat} {U U':Nat → Prop} (hC:∀ q,U q → C' (q:Int) = C q) (hU:∀ q,U q → U' q):∀ {h p:Nat} {is:List It},TrQ C n U h p is → TrQ C' n U' h p is
 | 0,_,_,h=>h.elim
 | h + 1,p,is,⟨h1,u,h2⟩=>⟨h1,hU p u,by
   rcases h2 with ⟨a,b,c,d⟩ | ⟨ks,a,b,c,d,e,f⟩
   ·exact .inl ⟨a,b,c,(hC p u).trans d⟩
   ·exact .inr ⟨ks,a,b,c,(hC p u).trans d,e,fun x hx=>⟨TrQ.keep hC hU (f x hx).1,(f x hx).2⟩⟩⟩
theorem TrQ.leaf {C:Int → Cn} {n:Nat} {U:Nat → Prop} {p:Nat} {is:List It} (hp:pgB n (p:Int) = true) (hu:U p) (h0:is ≠ []) (hok:∀ i ∈ is,itOk i) (hs:(ndB is []).length ≤ 505) (hc:C p = sealC 2 (ndB is [])):TrQ C n U 1 p is:=⟨hp,hu,.inl ⟨h0,hok,hs,hc⟩⟩
theorem TrQ.inner {C:Int → Cn} {n:Nat} {U:Nat → Prop} {h p:Nat} {ks:List KI} (hp:pgB n (p:Int) = true) (hu:U p) (h0:ks ≠ []) (hok:∀ x ∈ ks,kdOk x.1) (hs:(ndB [] (ks.map Prod.fst)).length ≤ 505) (hc:C p = sealC 2 (ndB [] (ks.map Prod.fst)))
  (hk:∀ x ∈ ks,TrQ C n U h x.1.p x.2 ∧ ∃ i r,x.2 = i :: r ∧ i.k = x.1.k):TrQ C n U (h + 1) p (ks.flatMap Prod.snd):=⟨hp,hu,.inr ⟨ks,h0,hok,hs,hc,rfl,hk⟩⟩
end Go.Proofs.Ytkolacaceaamoaa
