/- The tree: changes are sorted. -/
import Derived.Test.YtkolacaceaamoaaKMi
import Derived.Test.YtkolacaceaamoaaShelf
set_option linter.unusedSimpArgs false
set_option linter.unusedVariables false
namespace Go.Proofs.Ytkolacaceaamoaa
open Go.RowKit Go.Shelf Go.Sort
set_option maxHeartbeats 1000000 in
theorem clone_wide (A:Addr) (n c:Nat) (xs:List Value) (w:World) (hr:Reads w w.heap.size 1 (some A) n xs) (h1:∀ u ∈ xs,u.oneCell' = true) (hn:n ≤ 1073741824) :
  Calls Try.prog 48 #[.slice (some A) n c] w fun e w'=>∃ v,e = .returned v ∧ w'.ownsRow w.heap.size 5 1 v n xs ∧ Below w.heap.size w w':=by
 obtain ⟨i0,hi0,hz0,hz1,hz2⟩:=info_parts u8_info
 have HR:=hide hr
 have H1:=hide h1
 clear hr h1
 have heq:=fun w=>Go.Lib.run_eql_slice_some_nil (P:=Try.prog) w A n c Try.underlying38
 go_enter Try.func48,Try.ntmps48
 go_wp2_with (at_builtin; (refine wpList_append_any _ rfl (.tmp 5) (.tmp 6) _ rfl w.heap.size 5 i0 _ 1 1 Try.underlying38 hi0 hz0 hz1 hz2 rfl (by omega) _ 0 [] rfl (World.ownsRow_lit w #[] 0 (Nat.le_refl _) (by unfold maxLen; omega) rfl) w.heap.size (some A) n c xs rfl (Reads.al (Nat.le_refl _) HR.out _) H1.out (by unfold maxLen; omega) (by omega) (by simp) ?_); intro v' w2 ho hg _)
 simp only [List.nil_append,Nat.zero_add] at ho
 have HO:=hide ho
 have HG:=hide hg
 clear ho hg
 go_wp2_with fail
 go_ret
 exact ⟨_,rfl,HO.out,((Below.refl _ _).alloc (Nat.le_refl _) _).trans ⟨HG.out.os,HG.out.tape,HG.out.output,HG.out.size,fun j hj=>HG.out.block j (by simp; omega) (by intro e; have e2:some j = some w.heap.size:=e; cases e2; omega)⟩⟩
/-- slices.Clone of bytes: fresh bytes. -/
theorem clone_bs {w:World} {v:Value} {l:Cn} (h:BSw w v l) (hn:l.length ≤ 1073741824) :
  Calls Try.prog 48 #[v] w fun e w'=>∃ v',e = .returned v' ∧ BS w' (fun j=>w.heap.size ≤ j ∧ j < w'.heap.size) v' l ∧ Below w.heap.size w w':=by
 obtain ⟨A,c,rfl,hc,hr⟩:=h
 rcases A with _ | ad
 ·have hn0:l.length = 0:=by
   rcases Nat.eq_zero_or_pos l.length with h | h
   ·exact h
   ·obtain ⟨_,h,_⟩:=hr.2 h; cases h
  have hl:l = []:=List.eq_nil_of_length_eq_zero hn0
  subst hl
  exact (clone_all none 0 c [] w hr.rb (by omega)).mono fun e w' ⟨v,h1,h2,h3⟩=>⟨v,h1,BS.of_own h2,h3⟩
 ·exact (clone_wide ad l.length c (cs8 l) w (hr.reads (fun _ h=>h)) (cs8_one l) hn).mono fun e w' ⟨v,h1,h2,h3⟩=>⟨v,h1,BS.of_own h2,h3⟩
theorem bytesOf_nums (l:Cn):Lib.bytesOf (l.map fun x=>(x.toNat:Int)) = l:=by
 unfold Lib.bytesOf
 rw [List.map_map]
 conv=>rhs; rw [← List.map_id l]
 refine List.map_congr_left fun x _=>?_
 simp
theorem bs_in {w:World} {A:Option Addr} {l:Cn} {F:Nat → Prop} (hr:RF w F 1 A l.length (cs8 l)):Lib.BytesIn w A l.length (l.map fun x=>(x.toNat:Int)):=fun hn=>by
 obtain ⟨ad,rfl,_,hc⟩:=hr.2 hn
 have h2:Lib.BytesIn w (some ad) l.length (l.map fun x=>(x.toNat:Int)):=Lib.BytesIn.of_cells fun i hi=>hc i _ (by
  unfold cs8 u8v
  rw [List.getElem?_map,List.getElem?_eq_getElem hi]
  simp [List.getD,hi])
 exact h2 hn
theorem equal_bs {w:World} {v v':Value} {l l':Cn} (h:BSw w v l) (h':BSw w v' l') :
  Calls Try.prog 51 #[v,v'] w fun e w'=>e = .returned (.bool (l == l')) ∧ w' = w:=by
 obtain ⟨A,c,rfl,_,hr⟩:=h
 obtain ⟨A',c',rfl,_,hr'⟩:=h'
 have:=Try.bytes_Equal_all A A' l.length c l'.length c' (l.map fun x=>(x.toNat:Int)) (l'.map fun x=>(x.toNat:Int)) w (by simp) (by simp) (bs_in hr) (bs_in hr')
 rw [bytesOf_nums,bytesOf_nums] at this
 exact this
theorem LR.flat {α:Type} (enc:α → List Value):∀ d:List α,LR (fun x cs=>cs = enc x) d (d.flatMap enc)
 | []=>rfl
 | a :: d=>⟨enc a,d.flatMap enc,by rw [List.flatMap_cons],rfl,LR.flat enc d⟩
section
variable {α:Type} [Inhabited α] (enc:α → List Value) {k:Nat}
theorem flatK_list (hk:∀ x,(enc x).length = k) (h0:0 < k) (d:Array α):(flatK enc k d).toList = d.toList.flatMap enc:=by
 have hlen:(d.toList.flatMap enc).length = d.size * k:=by
  have:=LR.len (k:=k) (fun a cs h=>by rw [h]; exact hk a) _ _ (LR.flat enc d.toList)
  simpa using this
 refine List.ext_getElem? fun t=>?_
 rcases Nat.lt_or_ge t (d.size * k) with ht | ht
 ·have hi:t / k < d.size:=Nat.div_lt_of_lt_mul (by rw [Nat.mul_comm]; exact ht)
  obtain ⟨cs,hcs,hj⟩:=LR.at_ (k:=k) (fun a cs h=>by rw [h]; exact hk a) _ _ (LR.flat enc d.toList) (t / k) (by rw [Array.length_toList]; exact hi)
  have h1:=hj (t % k) (Nat.mod_lt _ h0)
  rw [Nat.mul_comm,Nat.div_add_mod] at h1
  rw [h1,hcs]
  have h2:(flatK enc k d)[t]? = some (flatK enc k d)[t]!:=by
   rw [Array.getElem?_eq_getElem (by rw [size_flatK]; exact ht)]
   simp [Array.getElem!_eq_getD,Array.getD,ht]
  rw [Array.getElem?_toList,h2,get_flatK _ _ _ _ ht]
  have h3:t % k < (enc d[t / k]!).length:=by rw [hk]; exact Nat.mod_lt _ h0
  have h4:d[t / k]! = d.toList[t / k]'(by rw [Array.length_toList]; exact hi):=by simp [Array.getElem!_eq_getD,Array.getD,hi]
  rw [← h4,List.getElem?_eq_getElem h3]
  simp [h3]
 ·exact (List.getElem?_eq_none (by rw [Array.length_toList,size_flatK]; exact ht)).trans (List.getElem?_eq_none (by rw [hlen]; exact ht)).symm
theorem perm_list {d d':Array α} (h:PermIn 0 d.size d d'):d'.toList.Perm d.toList:=by
 obtain ⟨hs,_,hp⟩:=h
 have h1:d'.extract 0 d.size = d':=by rw [← hs]; simp
 have h2:d.extract 0 d.size = d:=by simp
 rwa [h1,h2] at hp
end
/-- The change that stands there. -/
def ChV.ch (x:ChV):Ch:=⟨x.key,x.val,x.gone⟩
theorem lr_ch {w:World} {blk:Nat}:∀ (l:List Ch) (xs:List Value),LR (ChR w (fun j=>j < w.heap.size ∧ j ≠ blk)) l xs → ∃ d:List (ChW w blk),xs = d.flatMap (encW w blk) ∧ d.map (fun x=>x.1.ch) = l
 | [],xs,h=>⟨[],h,rfl⟩
 | a :: l,xs,⟨cs,rest,e,⟨v1,v2,e2,h1,h2⟩,h3⟩=>by
  obtain ⟨d,e3,e4⟩:=lr_ch l rest h3
  refine ⟨⟨⟨a.k,a.v,a.gone,v1,v2⟩,h1,h2⟩ :: d,?_,?_⟩
  ·rw [List.flatMap_cons,e,e2,e3]
   rfl
  ·rw [List.map_cons,e4]
   rfl
theorem lr_back {w:World} {blk:Nat}:∀ d:List (ChW w blk),LR (ChR w (fun j=>j < w.heap.size ∧ j ≠ blk)) (d.map (fun x=>x.1.ch)) (d.flatMap (encW w blk))
 | []=>rfl
 | x :: d=>⟨encC x.1,_,by rw [List.flatMap_cons]; rfl,⟨_,_,rfl,x.2.1,x.2.2⟩,lr_back d⟩
theorem lr_each {w:World} {blk:Nat} {F:Nat → Prop}:∀ d:List (ChW w blk),LR (ChR w F) (d.map (fun x=>x.1.ch)) (d.flatMap (encW w blk)) → ∀ x ∈ d,ChR w F x.1.ch (encC x.1)
 | [],_,x,hx=>by cases hx
 | y :: d,⟨cs,rest,e,h1,h2⟩,x,hx=>by
  rw [List.flatMap_cons] at e
  have h3:cs.length = 3:=ChR.three _ _ h1
  obtain ⟨e1,e2⟩:=List.append_inj e (by rw [h3]; rfl)
  rcases List.mem_cons.1 hx with rfl | hx
  ·rw [show encC x.1 = cs from e1]; exact h1
  ·exact lr_each d (by rw [e2]; exact h2) x hx
theorem lr_all {w:World} {blk:Nat} {F:Nat → Prop}:∀ d:List (ChW w blk),(∀ x ∈ d,ChR w F x.1.ch (encC x.1)) → LR (ChR w F) (d.map (fun x=>x.1.ch)) (d.flatMap (encW w blk))
 | [],_=>rfl
 | y :: d,h=>⟨encC y.1,_,by rw [List.flatMap_cons]; rfl,h y List.mem_cons_self,lr_all d (fun x hx=>h x (List.mem_cons_of_mem _ hx))⟩
/-- Rising, not strictly. -/
def SortC (l:List Ch):Prop:=l.Pairwise fun a b=>Lib.compareBytes a.k b.k ≤ 0
set_option maxRecDepth 100000 in
theorem sort_any {w:World} {g cap n B:Nat} {xs:List Value} {l:List Ch} (h:w.ownsRow B TCh 3 (.slice (some ⟨g,0,none⟩) n cap) n xs) (hl:LR (ChR w (fun j=>j < w.heap.size ∧ j ≠ g)) l xs) (hsz:n ≤ 1000000000) :
  Calls Try.prog 49 #[.slice (some ⟨g,0,none⟩) n cap,.func (.func 50) #[] #[]] w fun e w'=>e = .returned (.tuple #[]) ∧
   ∃ l' xs',l'.Perm l ∧ SortC l' ∧ w'.ownsRow B TCh 3 (.slice (some ⟨g,0,none⟩) n cap) n xs' ∧ LR (ChR w (fun j=>j < w.heap.size ∧ j ≠ g)) l' xs' ∧ (∀ F,LR (ChR w F) l xs → LR (ChR w F) l' xs') ∧ w.grownBy w' (some g):=by
 obtain ⟨d,rfl,rfl⟩:=lr_ch l xs hl
 have hk:∀ x:ChW w g,(encW w g x).length = 3:=fun _=>rfl
 have hn:d.length = n:=by
  have h1:=h.1
  have h2:=LR.len (k:=3) (fun a cs h=>by rw [h]; exact hk a) _ _ (LR.flat (encW w g) d)
  omega
 have hf:(flatK (encW w g) 3 d.toArray).toList = d.flatMap (encW w g):=flatK_list (encW w g) hk (by decide) d.toArray
 have hH:HoldsK (encW w g) 3 w g 0 d.toArray:=fun j hj=>by
  have hj2:j < n * 3:=by rw [size_flatK] at hj; simpa [hn] using hj
  refine ⟨?_,by rw [Nat.zero_add]; exact h.frozenAt j⟩
  rw [Nat.zero_add,h.cellAt j hj2,← hf,Array.getElem?_toList,Array.getElem?_eq_getElem hj,getElem!_pos _ j hj]
  rfl
 have hglt:=(h.lt g rfl).2
 have h1:∀ x:ChW w g,∀ v ∈ encW w g x,v.oneCell' = true:=fun x v hv=>by
  obtain ⟨y,⟨_,_,e1,_⟩,⟨_,_,e2,_⟩⟩:=x
  simp only [encW,encC,List.mem_cons,List.not_mem_nil,or_false] at hv
  rcases hv with rfl | rfl | rfl
  ·rw [e1]; rfl
  ·rw [e2]; rfl
  ·rfl
 have eg:∀ args w,(callFunc 50 args).run Try.prog w = .ok (.enter 50 args) w:=enters_of Try.func50 (by kernel_rfl) rfl
 have hcon:=AnyQ.slices_SortFunc Try.sortCh 3 Try.isAgg116 Try.sizeOf116 (encW w g) hk h1 (fun x y=>Lib.compareBytes x.1.key y.1.key) (swoC w g) 50 #[] g 0 cap d.toArray w eg (cmpLaysC w g 0 d.toArray.size) hH hglt (by simp; omega)
 change Calls Try.prog 49 _ _ _ at hcon
 rw [show d.toArray.size = n from by simpa using hn] at hcon
 refine hcon.mono ?_
 rintro e w' ⟨rfl,d',q,os,hp,hs,rfl⟩
 have hp':=perm_list (d:=d.toArray) (by rw [show d.toArray.size = n from by simpa using hn]; exact hp)
 have hd':d'.size = n:=by have:=hp.1; simp at this; omega
 refine ⟨rfl,d'.toList.map (fun x=>x.1.ch),d'.toList.flatMap (encW w g),(by simpa using hp'.map (fun x:ChW w g=>x.1.ch)),?_,?_,lr_back _,fun F h=>lr_all _ (fun x hx=>lr_each d h x (by simpa using hp'.mem_iff.1 (by simpa using hx))),?_⟩
 ·unfold SortC
  rw [List.pairwise_map,List.pairwise_iff_getElem]
  intro i j hi hj hij
  simp at hi hj
  have:=hs i j (Nat.zero_le _) hij (by omega)
  unfold ltOf at this
  simp [Array.getElem!_eq_getD,Array.getD,hi,hj] at this
  simp only [Array.getElem_toList]
  show Lib.compareBytes d'[i].1.key d'[j].1.key ≤ 0
  rw [cb_swap]
  omega
 ·obtain ⟨hl1,h2⟩:=h
  rcases h2 with ⟨e,_⟩ | ⟨g',cap',cur,e,hb,hh,hnc,hcm,hcs,ht⟩
  ·cases e
  ·injection e with e1 e2 e3
   injection e1 with e1
   injection e1 with e1
   subst e1 e3
   have hlen:(d'.toList.flatMap (encW w g)).length = n * 3:=by
    rw [LR.len (k:=3) (fun a cs h=>by rw [h]; exact hk a) _ _ (LR.flat (encW w g) d'.toList),Array.length_toList,hd']
   refine ⟨hlen,.inr ⟨g,cap,putCells id 0 (flatK (encW w g) 3 d') cur,rfl,hb,?_,hnc,hcm,by simp [putCells,hcs],?_⟩⟩
   ·unfold sortWorldK putRowK putRow mapBlock grow Sort.ahead
    simp [Array.getElem?_append,Array.getElem?_modify,hglt]
    have:=(Array.getElem?_eq_some_iff.1 hh).2
    rw [Array.getElem_modify,if_pos rfl,this]
    rfl
   ·rw [← flatK_list (encW w g) hk (by decide) d']
    have hfs:(flatK (encW w g) 3 d').size = n * 3:=by rw [size_flatK,hd']
    have hcn:n * 3 ≤ cur.size:=by rw [hcs]; exact Nat.mul_le_mul_right 3 hnc
    refine List.ext_getElem? fun t=>?_
    rw [List.getElem?_take]
    split
    ·next ht2=>
     rw [Array.getElem?_toList,Array.getElem?_toList]
     unfold putCells
     rw [Array.getElem?_mapIdx,Array.getElem?_eq_getElem (by omega),Array.getElem?_eq_getElem (by omega)]
     simp [hfs,ht2,Array.getElem!_eq_getD,Array.getD]
    ·next ht2=>exact (List.getElem?_eq_none (by rw [Array.length_toList,hfs]; omega)).symm
 ·exact ⟨rfl,rfl,rfl,size_sortWorldK_c _ _ _ _ _ _ _ _,fun j hj hne=>sortWorldK_heap _ _ _ _ _ _ _ _ hj (fun e=>hne (by rw [e]))⟩
end Go.Proofs.Ytkolacaceaamoaa
