/- The JSON reader: values in memory; value. -/
import Derived.Test.YtacinobmcgcccaaGreatDoorL22
import Derived.Test.YtacinobmcgcccaaGreatDoorL05
import Derived.Deep.CutRange
set_option linter.unusedSimpArgs false
set_option linter.unusedVariables false
namespace Go.Proofs.YtacinobmcgcccaaGreatDoor
open Go.RowKit
abbrev TV:TypeId:=39
def ReadsF (w:World) (F:Nat→Prop) (k:Nat) (A:Option Addr) (n:Nat) (xs:List Value):Prop:=
 xs.length=n * k∧(0<n → ∃ ad,A=some ad∧F ad.block ∧ ∀ j u,xs[j]? = some u→w.cell? (ad.add j)=some u)
def sc (ks:List L8):List Value:=ks.map bstr
mutual
def VRd (w:World) (F:Nat→Prop):JV→List Value→Prop
 | .mk k t ks vs,cs=>∃ A n c A' n' c' xs,cs=[.int .i64 k,.string ⟨t.toArray⟩,.slice A n c,.slice A' n' c']∧ks.length=n∧(n≤c∧c≤maxLen)∧ReadsF w F 1 A n (sc ks)∧vs.length=n'∧(n'≤c'∧c'≤maxLen)∧ReadsF w F 4 A' n' xs∧VRdL w F vs xs
def VRdL (w:World) (F:Nat→Prop):List JV→List Value→Prop
 | [],xs=>xs=[]
 | j :: js,xs=>∃ cs rest,xs=cs++rest∧VRd w F j cs∧VRdL w F js rest
end
theorem ReadsF.keep {w w':World} {F F':Nat→Prop} {k:Nat} {A:Option Addr} {n:Nat} {xs:List Value} (h:ReadsF w F k A n xs) (hk:∀ j,F j→w'.heap[j]? = w.heap[j]?) (hF:∀ j,F j→F' j):ReadsF w' F' k A n xs:=by
 refine ⟨h.1,fun h0=>?_⟩;obtain ⟨ad,e,hb,hc⟩:=h.2 h0;exact ⟨ad,e,hF _ hb,fun j u hu=>(cell_heap (by rw [block_of_add];exact hk _ hb)).trans (hc j u hu)⟩
mutual
theorem VRd.keep {w w':World} {F F':Nat→Prop} (hk:∀ j,F j→w'.heap[j]? = w.heap[j]?) (hF:∀ j,F j→F' j):∀ (J:JV) (cs:List Value),VRd w F J cs→VRd w' F' J cs
 | .mk k t ks vs,cs,h=>by
   unfold VRd at h ⊢;obtain ⟨A,n,c,A',n',c',xs,h1,h2,h3,h4,h5,h6,h7,h8⟩:=h;exact ⟨A,n,c,A',n',c',xs,h1,h2,h3,h4.keep hk hF,h5,h6,h7.keep hk hF,VRdL.keep hk hF vs xs h8⟩
theorem VRdL.keep {w w':World} {F F':Nat→Prop} (hk:∀ j,F j→w'.heap[j]? = w.heap[j]?) (hF:∀ j,F j→F' j):∀ (js:List JV) (xs:List Value),VRdL w F js xs→VRdL w' F' js xs
 | [],xs,h=>h
 | j :: js,xs,h=>by
   unfold VRdL at h ⊢;obtain ⟨cs,rest,h1,h2,h3⟩:=h;exact ⟨cs,rest,h1,VRd.keep hk hF j cs h2,VRdL.keep hk hF js rest h3⟩
end
theorem VRdL.snoc {w:World} {F:Nat→Prop} {J:JV} {cs:List Value} (hJ:VRd w F J cs):∀ (js:List JV) (xs:List Value),VRdL w F js xs→VRdL w F (js++[J]) (xs++cs)
 | [],xs,h=>by
   unfold VRdL at h;subst h;exact ⟨cs,[],by simp,hJ,rfl⟩
 | j :: js,xs,h=>by
   unfold VRdL at h;obtain ⟨c0,rest,h1,h2,h3⟩:=h;exact ⟨c0,rest++cs,by rw [h1,List.append_assoc],h2,VRdL.snoc hJ js rest h3⟩
def Got.In {α:Type} (g:Got α):Prop:=∀ p,g≠.bad p 0
theorem Got.In.of_bind {α β:Type} {g:Got α} {f:α→Got β} (h:(g.bind f).In):g.In:=by
 intro p e;subst e;exact h p rfl
def ValC (f:Nat):Prop:=∀ (w:World) (rb:Nat) (A:Option Addr) (n c:Nat) (b:L8) (T:Tk) (dp:Nat),RdT w rb A n c b T→Tabs w→2≤rb→dp≤1000→(valF f dp T).In →
 Calls Tryz.prog 34 #[.pointer (some ⟨rb,0,none⟩),.int .i64 (dp:Int)] w fun e w'=>
  (∃ J T' cs,valF f dp T=.ok (J,T')∧e=.returned (.agg cs.toArray)∧VRd w' (fun j=>w.heap.size≤j) J cs∧RdT w' rb A n c b T'∧w.grownBy w' (some rb)) ∨
  (∃ p e0,valF f dp T=.bad p e0∧e=.panicked (flt (n - p.length) e0)∧w.grownBy w' (some rb))
def isRV (rb vb:Nat):Nat→Prop:=fun j=>j=rb∨j=vb
def ManyC (f:Nat):Prop:=∀ (w:World) (rb vb:Nat) (A:Option Addr) (n c:Nat) (b:L8) (T:Tk) (kind shut dp:Nat) (t:L8) (dpi:Int),dpi=(dp:Int)→RdT w rb A n c b T→Tabs w→2≤rb→2≤vb→vb≠rb→(∀ ad,A=some ad→ad.block≠vb) →
 Blk w vb TV #[.int .i64 (kind:Int),.string ⟨t.toArray⟩,.slice none 0 0,.slice none 0 0]→dp≤1001→shut≠0→T.k≠0→(manyF f kind shut dp t T).In →
 Calls Tryz.prog 79 #[.pointer (some ⟨rb,0,none⟩),.pointer (some ⟨vb,0,none⟩),.int .i64 (shut:Int),.int .i64 dpi] w fun e w'=>
  (∃ J T' cs,manyF f kind shut dp t T=.ok (J,T')∧e=.returned (.tuple #[])∧Blk w' vb TV cs.toArray∧VRd w' (fun j=>w.heap.size≤j) J cs∧RdT w' rb A n c b T'∧Fr (isRV rb vb) w w') ∨
  (∃ p e0,manyF f kind shut dp t T=.bad p e0∧e=.panicked (flt (n - p.length) e0)∧Fr (isRV rb vb) w w')
theorem no_cells {w:World} {F:Nat→Prop} {k:Nat}:ReadsF w F k none 0 []:=⟨by simp,fun h=>absurd h (by omega)⟩
theorem vrd_leaf {w:World} {F:Nat→Prop} (k:Int) (t:L8):VRd w F (.mk k t [] []) [.int .i64 k,.string ⟨t.toArray⟩,.slice none 0 0,.slice none 0 0]:=by
 unfold VRd;exact ⟨none,0,0,none,0,0,[],rfl,rfl,⟨Nat.le_refl _,Nat.zero_le _⟩,no_cells,rfl,⟨Nat.le_refl _,Nat.zero_le _⟩,no_cells,rfl⟩
def set4 (w:World) (g:Nat) (a b c d:Value):World:=(((w.setCell ⟨g,0,none⟩ a).setCell ⟨g,1,none⟩ b).setCell ⟨g,2,none⟩ c).setCell ⟨g,3,none⟩ d
theorem set4_gb (w:World) (g:Nat) (a b c d:Value):w.grownBy (set4 w g a b c d) (some g):=gb_trans (gb_trans (gb_trans (gby_set w g 0 a) (gby_set _ g 1 b)) (gby_set _ g 2 c)) (gby_set _ g 3 d)
theorem set4_fr (w:World) (g:Nat) (a b c d:Value):Fr (fun j=>j=g) w (set4 w g a b c d):=Fr.of_grown (set4_gb w g a b c d) (fun k e=>by injection e with e;exact e.symm)
theorem set4_heap (w:World) {g j:Nat} (h:j≠g) (a b c d:Value):(set4 w g a b c d).heap[j]? = w.heap[j]?:=by
 unfold set4;rw [Below.heap_setCell _ _ _ _ h,Below.heap_setCell _ _ _ _ h,Below.heap_setCell _ _ _ _ h,Below.heap_setCell _ _ _ _ h]
theorem set4_below {B:Nat} {w0 w:World} {g:Nat} (h:Below B w0 w) (hg:B≤g) (a b c d:Value):Below B w0 (set4 w g a b c d):=(((h.setCell (p:=⟨g,0,none⟩) hg a).setCell (p:=⟨g,1,none⟩) hg b).setCell (p:=⟨g,2,none⟩) hg c).setCell (p:=⟨g,3,none⟩) hg d
theorem set4_size (w:World) (g:Nat) (a b c d:Value):(set4 w g a b c d).heap.size=w.heap.size:=by simp [set4]
theorem set4_blk {w:World} {g:Nat} {t:TypeId} {x y z u:Value} (h:Blk w g t #[x,y,z,u]) (a b c d:Value):Blk (set4 w g a b c d) g t #[a,b,c,d]:=(((h.set_ 0 a).set_ 1 b).set_ 2 c).set_ 3 d
theorem gb_set4 {w w':World} {r:Option Nat} {g:Nat} (h:w.grownBy w' r) (hg:w.heap.size≤g) (a b c d:Value):w.grownBy (set4 w' g a b c d) r:=
 ⟨h.os,h.tape,h.output,by rw [set4_size];exact h.size,fun j hj hne=>((set4_gb w' g a b c d).block j (nLl hj h.size) (fun e=>by injection e with e;omega)).trans (h.block j hj hne)⟩
theorem blk_gb {w w':World} {g rb:Nat} {t:TypeId} {cs:Array Value} (h:Blk w g t cs) (hg:w.grownBy w' (some rb)) (hne:g≠rb):Blk w' g t cs:=(hg.block g h.lt (fun e=>by injection e with e;exact hne e)).trans h
theorem VRd.four {w:World} {F:Nat→Prop}:∀ {J:JV} {cs:List Value},VRd w F J cs → ∃ k t A n c A' n' c',cs=[.int .i64 k,.string t,.slice A n c,.slice A' n' c']
 | .mk k t ks vs,cs,h=>by
   unfold VRd at h;obtain ⟨A,n,c,A',n',c',xs,h1,h2⟩:=h;exact ⟨k,_,A,n,c,A',n',c',h1⟩
theorem gb_many {w w4 w':World} {rb g:Nat} (h:Below w.heap.size w w4) (k:Fr (isRV rb g) w4 w') (hg:w.heap.size≤g):w.grownBy w' (some rb):=
 ⟨k.os.trans h.os,k.tape.trans h.tape,k.output.trans h.output,Nat.le_trans h.size k.size,fun j hj hne=>(k.block j (nLl hj h.size) (fun e=>e.elim (fun e=>hne (by rw [e])) (fun e=>by omega))).trans (h.block j hj)⟩
theorem tv_info:(Tryz.prog.info? TV).map (·.size)=some 4:=by kernel_rfl
theorem blk_fr_keep {w w':World} {F:Nat→Prop} {g:Nat} {t:TypeId} {cs:Array Value} (h:Blk w g t cs) (hf:Fr F w w') (hn:¬ F g):Blk w' g t cs:=(hf.block g h.lt hn).trans h
set_option maxRecDepth 100000 in
set_option maxHeartbeats 2000000 in
theorem val_step (f:Nat) (hM:ManyC f):ValC (f+1):=by
 intro w rb A n c b T dp h hT hr2 hdp hin;have H:=hide h;have HT:=hide hT;have HM:=hide hM;have HI:=hide hin;have kr:=h.rd.blk.cell;have fr:=h.rd.blk.frozen;have zr:=h.rd.blk.lt;clear h hT hM hin
 go_enter Tryz.func34,Tryz.ntmps34
 go_upto_region 1 with fail
 obtain ⟨w1,hw1⟩:∃ w1,w.alloc (.cells #[.int .i64 0,.string ⟨#[]⟩,.slice none 0 0,.slice none 0 0] TV)=w1:=⟨_,rfl⟩;have HB1:=hide (show Below w.heap.size w w1 from hw1 ▸ al_below w _);have HR0:=hide (show Blk w1 w.heap.size TV #[.int .i64 0,.string ⟨#[]⟩,.slice none 0 0,.slice none 0 0] from hw1 ▸ Blk.new _ _ _);have hs1:w1.heap.size=w.heap.size+1:=by rw [← hw1];simp
 rw [hw1];have H1:=hide (H.out.below HB1.out);have HS1:=hide hs1;obtain ⟨g,hg1⟩:∃ g,w1.heap.size=g:=⟨_,rfl⟩;have HG1:=hide hg1;clear hs1 hg1;clear hw1 kr fr;refine wp_region_stage (by kernel_rfl) (by kernel_rfl) 47 2
  [⟨some 6,false,0,2,fun _ v _=>v=.pointer (some ⟨rb,0,none⟩)⟩,
   ⟨some 7,false,0,2,fun _ v _=>v=.pointer (some ⟨rb,0,none⟩)⟩,
   ⟨some 8,false,0,2,fun _ v _=>v=.pointer (some ⟨rb,2,none⟩)⟩,
   ⟨some 9,false,0,2,fun _ v _=>v=.pointer (some ⟨rb,2,none⟩)⟩,
   ⟨some 10,false,0,2,fun _ v _=>v=.int .i64 (T.k:Int)⟩,
   ⟨some 11,false,0,2,fun _ v _=>v=.pointer (some ⟨rb,0,none⟩)⟩,
   ⟨some 12,false,0,2,fun _ v _=>v=.pointer (some ⟨rb,0,none⟩)⟩,
   ⟨some 13,false,0,2,fun _ v _=>v=.pointer (some ⟨rb,2,none⟩)⟩,
   ⟨some 14,false,0,2,fun _ v _=>v=.pointer (some ⟨rb,4,none⟩)⟩,
   ⟨some 15,false,0,2,fun _ v _=>v=.string ⟨T.t.toArray⟩⟩,
   ⟨some 16,false,0,2,fun _ v _=>v=.agg #[.int .i64 (T.k:Int),.string ⟨T.t.toArray⟩,.slice none 0 0,.slice none 0 0]⟩,
   ⟨some 5,true,0,0,fun st v _=>1≤st→v=.pointer (some ⟨g,0,none⟩)⟩,
   ⟨none,true,1,1,fun _ _ _=>True⟩] (fun st w'=>RdT w' rb A n c b T∧Below w1.heap.size w1 w'∧w'.heap.size=(if 1≤st then g+1 else g)∧(1≤st→Blk w' g TV (if 2≤st then #[.int .i64 (T.k:Int),.string ⟨T.t.toArray⟩,.slice none 0 0,.slice none 0 0] else #[.int .i64 0,.string ⟨#[]⟩,.slice none 0 0,.slice none 0 0]))) (fun _ _ _=>True) [6,7,8,9,10,11,12,13,14,15,16,5] rfl (by kernel_rfl) rfl ?g0 ?keep ?steps ?fin
 case keep=>
  intro e he s v w w' hm hsM ht hv;simp only [List.mem_cons,List.not_mem_nil,or_false] at he;rcases he with rfl|rfl|rfl|rfl|rfl|rfl|rfl|rfl|rfl|rfl|rfl|rfl|rfl
  all_goals first|exact hv|(intro h3;have:=hm rfl;simp only [] at this;exact hv (by omega))
 case steps=>
  refine ⟨?_,?_,?_,?_,?_,?_,?_,?_,?_,?_,?_,?_,?_,trivial⟩
  ·intro st hlo hhi ac w3 hg hG hd K hK;dsimp only at hlo hhi hG hK;exact op_move _ rfl (hK _ (hg.kp 0 (by simp)))
  ·intro st hlo hhi ac w3 hg hG hd K hK;dsimp only at hlo hhi hG hK;have f0:=hd ⟨0,.data⟩ (by simp) rfl _ rfl _ rfl;(try simp [Act.eval] at f0);go_simp;exact hK _ rfl
  ·intro st hlo hhi ac w3 hg hG hd K hK;dsimp only at hlo hhi hG hK;have f1:=hd ⟨1,.data⟩ (by simp) rfl _ rfl _ rfl;(try simp [Act.eval] at f1);go_simp;exact hK _ rfl
  ·intro st hlo hhi ac w3 hg hG hd K hK;dsimp only at hlo hhi hG hK;have f2:=hd ⟨2,.data⟩ (by simp) rfl _ rfl _ rfl;(try simp [Act.eval] at f2);go_simp;exact hK _ rfl
  ·intro st hlo hhi ac w3 hg hG hd K hK;dsimp only at hlo hhi hG hK;have kk:=hG.1.rd.blk.cell 2;have zz:=hG.1.rd.blk.lt;simp at kk;clear hG;have f3:=hd ⟨3,.data⟩ (by simp) rfl _ rfl _ rfl;(try simp [Act.eval] at f3);go_simp;exact hK _ rfl
  ·intro st hlo hhi ac w3 hg hG hd K hK;dsimp only at hlo hhi hG hK;exact op_move _ rfl (hK _ (hg.kp 0 (by simp)))
  ·intro st hlo hhi ac w3 hg hG hd K hK;dsimp only at hlo hhi hG hK;have f5:=hd ⟨5,.data⟩ (by simp) rfl _ rfl _ rfl;(try simp [Act.eval] at f5);go_simp;exact hK _ rfl
  ·intro st hlo hhi ac w3 hg hG hd K hK;dsimp only at hlo hhi hG hK;have f6:=hd ⟨6,.data⟩ (by simp) rfl _ rfl _ rfl;(try simp [Act.eval] at f6);go_simp;exact hK _ rfl
  ·intro st hlo hhi ac w3 hg hG hd K hK;dsimp only at hlo hhi hG hK;have f7:=hd ⟨7,.data⟩ (by simp) rfl _ rfl _ rfl;(try simp [Act.eval] at f7);go_simp;exact hK _ rfl
  ·intro st hlo hhi ac w3 hg hG hd K hK;dsimp only at hlo hhi hG hK;have kk:=hG.1.rd.blk.cell 4;have zz:=hG.1.rd.blk.lt;simp at kk;clear hG;have f8:=hd ⟨8,.data⟩ (by simp) rfl _ rfl _ rfl;(try simp [Act.eval] at f8);go_simp;exact hK _ rfl
  ·intro st hlo hhi ac w3 hg hG hd K hK;dsimp only at hlo hhi hG hK;have f4:=hd ⟨4,.data⟩ (by simp) rfl _ rfl _ rfl;have f9:=hd ⟨9,.data⟩ (by simp) rfl _ rfl _ rfl;(try simp [Act.eval] at f4);(try simp [Act.eval] at f9);go_simp;exact hK _ rfl
  ·intro ac w3 hg hG hd K hK;dsimp only [Nat.zero_add,Nat.reduceAdd] at hG hK;have hsz:=hG.2.2.1;simp at hsz;have HG':=hide hG;clear hG;go_simp;refine hK _ _ trivial ⟨HG'.out.1.below (al_below _ _),bal HG'.out.2.1 _,by simp [hsz],fun _=>hsz ▸ Blk.new _ _ _⟩ (fun _=>rfl)
  ·intro ac w3 hg hG hd K hK;dsimp only [Nat.zero_add,Nat.reduceAdd] at hG hK;have f10:=hd ⟨10,.data⟩ (by simp) rfl _ rfl _ rfl;have f11:=hd ⟨11,.data⟩ (by simp) rfl _ rfl _ rfl (by decide);have hB:=hG.2.2.2 (by decide);simp at hB;have kk:=hB.cell;have ff:=hB.frozen;have zz:=hB.lt;have HG':=hide hG;clear hG;have HB':=hide hB;clear hB;simp [Act.eval] at f10 f11;go_simp;exact hK undef _ trivial ⟨HG'.out.1.fr (set4_fr w3 g _ _ _ _) (by show ¬ rb=g;have:=H1.out.rd.blk.lt;have:=HG1.out;omega) (fun ad e=>by show ¬ ad.block=g;have:=H1.out.hA ad e;have:=HG1.out;omega),set4_below HG'.out.2.1 (Nat.le_of_eq HG1.out) _ _ _ _,(set4_size w3 g _ _ _ _).trans HG'.out.2.2.1,fun _=>set4_blk HB'.out _ _ _ _⟩ trivial
 case g0=>exact ⟨H1.out.below (bR.drew),bR.drew,HG1.out,fun h=>absurd h (by decide)⟩
 case fin=>
  intro f5 w2 hG hall;have f5':f5 5=.pointer (some ⟨g,0,none⟩):=hall _ (List.mem_of_getElem? (i:=11) rfl) 5 rfl (by decide);clear hall;have H2:=hide hG.1;have HB2:=hide hG.2.1;have HV:=hide (show Blk w2 g TV #[.int .i64 (T.k:Int),.string ⟨T.t.toArray⟩,.slice none 0 0,.slice none 0 0] from hG.2.2.2 (by decide));clear hG;simp only [fillF,List.map_cons,List.map_nil,List.foldl_cons,List.foldl_nil,Act.put,List.setIfInBounds_toArray,List.set_cons_zero,List.set_cons_succ];rw [f5'];clear f5';have kr2:=H2.out.rd.blk.cell;have fr2:=H2.out.rd.blk.frozen;have zr2:=H2.out.rd.blk.lt;have kv2:=HV.out.cell;have fv2:=HV.out.frozen;have zv2:=HV.out.lt;have HBB:=hide (HB1.out.trans (HB2.out.mono (by have:=HS1.out;omega)));have HT2:=hide (HT.out.below HBB.out);by_cases hl:1≤T.k∧T.k≤5
  ·have HE:=hide (show valF (f+1) dp T=(nextS T.s).bind fun T'=>.ok (.mk T.k T.t [] [],T') by unfold valF;rw [if_pos hl]);rcases (show T.k=1∨T.k=2∨T.k=3∨T.k=4∨T.k=5 by omega) with hk|hk|hk|hk|hk
   ·have d1:((T.k:Int) == 1)=true:=by simp;omega
    clear hk hl;go_wp2_with (go_at_call 33;(refine (next_tk H2.out HT2.out hr2).mono ?_);rintro e w3 (⟨T',h1,rfl,h2,h3⟩|⟨p,h1,rfl,h3⟩);rotate_left;(exact ⟨rfl,.inr ⟨p,11,by rw [HE.out,h1];rfl,rfl,gb_trans (gb_below HBB.out) h3⟩⟩);have H3:=hide h2;have HN:=hide h1;have HG3:=hide (gb_trans (gb_below HBB.out) h3);have HV3:=hide (blk_gb HV.out h3 (by have:=H1.out.rd.blk.lt;have:=HG1.out;omega));have HR3:=hide (blk_gb (HR0.out.below HB2.out HR0.out.lt) h3 (by have:=H.out.rd.blk.lt;omega));clear h1 h2 h3 kr2 fr2 zr2 kv2 fv2 zv2;have kv3:=HV3.out.cell;have fv3:=HV3.out.frozen;have zv3:=HV3.out.lt;have kx3:=HR3.out.cell;have fx3:=HR3.out.frozen;have zx3:=HR3.out.lt)
    refine ⟨rfl,.agg #[.int .i64 (T.k:Int),.string ⟨T.t.toArray⟩,.slice none 0 0,.slice none 0 0],results_cell_row rfl _ _ w.heap.size TV _ (0,0) _ rfl (set4_blk HR3.out (.int .i64 (T.k:Int)) (.string ⟨T.t.toArray⟩) (.slice none 0 0) (.slice none 0 0)) Tryz.underlying39 rfl tv_info,.inl ⟨.mk T.k T.t [] [],T',[.int .i64 (T.k:Int),.string ⟨T.t.toArray⟩,.slice none 0 0,.slice none 0 0],by rw [HE.out,HN.out];rfl,rfl,vrd_leaf _ _,H3.out.fr (set4_fr w3 w.heap.size _ _ _ _) (by show ¬ rb=w.heap.size;have:=H.out.rd.blk.lt;omega) (fun ad e=>by show ¬ ad.block=w.heap.size;have:=H.out.hA ad e;omega),gb_set4 HG3.out (Nat.le_refl _) _ _ _ _⟩⟩
   ·have d1:((T.k:Int) == 1)=false:=by simp;omega
    have d2:((T.k:Int) == 2)=true:=by simp;omega
    clear hk hl;go_wp2_with (go_at_call 33;(refine (next_tk H2.out HT2.out hr2).mono ?_);rintro e w3 (⟨T',h1,rfl,h2,h3⟩|⟨p,h1,rfl,h3⟩);rotate_left;(exact ⟨rfl,.inr ⟨p,11,by rw [HE.out,h1];rfl,rfl,gb_trans (gb_below HBB.out) h3⟩⟩);have H3:=hide h2;have HN:=hide h1;have HG3:=hide (gb_trans (gb_below HBB.out) h3);have HV3:=hide (blk_gb HV.out h3 (by have:=H1.out.rd.blk.lt;have:=HG1.out;omega));have HR3:=hide (blk_gb (HR0.out.below HB2.out HR0.out.lt) h3 (by have:=H.out.rd.blk.lt;omega));clear h1 h2 h3 kr2 fr2 zr2 kv2 fv2 zv2;have kv3:=HV3.out.cell;have fv3:=HV3.out.frozen;have zv3:=HV3.out.lt;have kx3:=HR3.out.cell;have fx3:=HR3.out.frozen;have zx3:=HR3.out.lt)
    refine ⟨rfl,.agg #[.int .i64 (T.k:Int),.string ⟨T.t.toArray⟩,.slice none 0 0,.slice none 0 0],results_cell_row rfl _ _ w.heap.size TV _ (0,0) _ rfl (set4_blk HR3.out (.int .i64 (T.k:Int)) (.string ⟨T.t.toArray⟩) (.slice none 0 0) (.slice none 0 0)) Tryz.underlying39 rfl tv_info,.inl ⟨.mk T.k T.t [] [],T',[.int .i64 (T.k:Int),.string ⟨T.t.toArray⟩,.slice none 0 0,.slice none 0 0],by rw [HE.out,HN.out];rfl,rfl,vrd_leaf _ _,H3.out.fr (set4_fr w3 w.heap.size _ _ _ _) (by show ¬ rb=w.heap.size;have:=H.out.rd.blk.lt;omega) (fun ad e=>by show ¬ ad.block=w.heap.size;have:=H.out.hA ad e;omega),gb_set4 HG3.out (Nat.le_refl _) _ _ _ _⟩⟩
   ·have d1:((T.k:Int) == 1)=false:=by simp;omega
    have d2:((T.k:Int) == 2)=false:=by simp;omega
    have d3:((T.k:Int) == 3)=true:=by simp;omega
    clear hk hl;go_wp2_with (go_at_call 33;(refine (next_tk H2.out HT2.out hr2).mono ?_);rintro e w3 (⟨T',h1,rfl,h2,h3⟩|⟨p,h1,rfl,h3⟩);rotate_left;(exact ⟨rfl,.inr ⟨p,11,by rw [HE.out,h1];rfl,rfl,gb_trans (gb_below HBB.out) h3⟩⟩);have H3:=hide h2;have HN:=hide h1;have HG3:=hide (gb_trans (gb_below HBB.out) h3);have HV3:=hide (blk_gb HV.out h3 (by have:=H1.out.rd.blk.lt;have:=HG1.out;omega));have HR3:=hide (blk_gb (HR0.out.below HB2.out HR0.out.lt) h3 (by have:=H.out.rd.blk.lt;omega));clear h1 h2 h3 kr2 fr2 zr2 kv2 fv2 zv2;have kv3:=HV3.out.cell;have fv3:=HV3.out.frozen;have zv3:=HV3.out.lt;have kx3:=HR3.out.cell;have fx3:=HR3.out.frozen;have zx3:=HR3.out.lt)
    refine ⟨rfl,.agg #[.int .i64 (T.k:Int),.string ⟨T.t.toArray⟩,.slice none 0 0,.slice none 0 0],results_cell_row rfl _ _ w.heap.size TV _ (0,0) _ rfl (set4_blk HR3.out (.int .i64 (T.k:Int)) (.string ⟨T.t.toArray⟩) (.slice none 0 0) (.slice none 0 0)) Tryz.underlying39 rfl tv_info,.inl ⟨.mk T.k T.t [] [],T',[.int .i64 (T.k:Int),.string ⟨T.t.toArray⟩,.slice none 0 0,.slice none 0 0],by rw [HE.out,HN.out];rfl,rfl,vrd_leaf _ _,H3.out.fr (set4_fr w3 w.heap.size _ _ _ _) (by show ¬ rb=w.heap.size;have:=H.out.rd.blk.lt;omega) (fun ad e=>by show ¬ ad.block=w.heap.size;have:=H.out.hA ad e;omega),gb_set4 HG3.out (Nat.le_refl _) _ _ _ _⟩⟩
   ·have d1:((T.k:Int) == 1)=false:=by simp;omega
    have d2:((T.k:Int) == 2)=false:=by simp;omega
    have d3:((T.k:Int) == 3)=false:=by simp;omega
    have d4:((T.k:Int) == 4)=true:=by simp;omega
    clear hk hl;go_wp2_with (go_at_call 33;(refine (next_tk H2.out HT2.out hr2).mono ?_);rintro e w3 (⟨T',h1,rfl,h2,h3⟩|⟨p,h1,rfl,h3⟩);rotate_left;(exact ⟨rfl,.inr ⟨p,11,by rw [HE.out,h1];rfl,rfl,gb_trans (gb_below HBB.out) h3⟩⟩);have H3:=hide h2;have HN:=hide h1;have HG3:=hide (gb_trans (gb_below HBB.out) h3);have HV3:=hide (blk_gb HV.out h3 (by have:=H1.out.rd.blk.lt;have:=HG1.out;omega));have HR3:=hide (blk_gb (HR0.out.below HB2.out HR0.out.lt) h3 (by have:=H.out.rd.blk.lt;omega));clear h1 h2 h3 kr2 fr2 zr2 kv2 fv2 zv2;have kv3:=HV3.out.cell;have fv3:=HV3.out.frozen;have zv3:=HV3.out.lt;have kx3:=HR3.out.cell;have fx3:=HR3.out.frozen;have zx3:=HR3.out.lt)
    refine ⟨rfl,.agg #[.int .i64 (T.k:Int),.string ⟨T.t.toArray⟩,.slice none 0 0,.slice none 0 0],results_cell_row rfl _ _ w.heap.size TV _ (0,0) _ rfl (set4_blk HR3.out (.int .i64 (T.k:Int)) (.string ⟨T.t.toArray⟩) (.slice none 0 0) (.slice none 0 0)) Tryz.underlying39 rfl tv_info,.inl ⟨.mk T.k T.t [] [],T',[.int .i64 (T.k:Int),.string ⟨T.t.toArray⟩,.slice none 0 0,.slice none 0 0],by rw [HE.out,HN.out];rfl,rfl,vrd_leaf _ _,H3.out.fr (set4_fr w3 w.heap.size _ _ _ _) (by show ¬ rb=w.heap.size;have:=H.out.rd.blk.lt;omega) (fun ad e=>by show ¬ ad.block=w.heap.size;have:=H.out.hA ad e;omega),gb_set4 HG3.out (Nat.le_refl _) _ _ _ _⟩⟩
   ·have d1:((T.k:Int) == 1)=false:=by simp;omega
    have d2:((T.k:Int) == 2)=false:=by simp;omega
    have d3:((T.k:Int) == 3)=false:=by simp;omega
    have d4:((T.k:Int) == 4)=false:=by simp;omega
    have d5:((T.k:Int) == 5)=true:=by simp;omega
    clear hk hl;go_wp2_with (go_at_call 33;(refine (next_tk H2.out HT2.out hr2).mono ?_);rintro e w3 (⟨T',h1,rfl,h2,h3⟩|⟨p,h1,rfl,h3⟩);rotate_left;(exact ⟨rfl,.inr ⟨p,11,by rw [HE.out,h1];rfl,rfl,gb_trans (gb_below HBB.out) h3⟩⟩);have H3:=hide h2;have HN:=hide h1;have HG3:=hide (gb_trans (gb_below HBB.out) h3);have HV3:=hide (blk_gb HV.out h3 (by have:=H1.out.rd.blk.lt;have:=HG1.out;omega));have HR3:=hide (blk_gb (HR0.out.below HB2.out HR0.out.lt) h3 (by have:=H.out.rd.blk.lt;omega));clear h1 h2 h3 kr2 fr2 zr2 kv2 fv2 zv2;have kv3:=HV3.out.cell;have fv3:=HV3.out.frozen;have zv3:=HV3.out.lt;have kx3:=HR3.out.cell;have fx3:=HR3.out.frozen;have zx3:=HR3.out.lt)
    refine ⟨rfl,.agg #[.int .i64 (T.k:Int),.string ⟨T.t.toArray⟩,.slice none 0 0,.slice none 0 0],results_cell_row rfl _ _ w.heap.size TV _ (0,0) _ rfl (set4_blk HR3.out (.int .i64 (T.k:Int)) (.string ⟨T.t.toArray⟩) (.slice none 0 0) (.slice none 0 0)) Tryz.underlying39 rfl tv_info,.inl ⟨.mk T.k T.t [] [],T',[.int .i64 (T.k:Int),.string ⟨T.t.toArray⟩,.slice none 0 0,.slice none 0 0],by rw [HE.out,HN.out];rfl,rfl,vrd_leaf _ _,H3.out.fr (set4_fr w3 w.heap.size _ _ _ _) (by show ¬ rb=w.heap.size;have:=H.out.rd.blk.lt;omega) (fun ad e=>by show ¬ ad.block=w.heap.size;have:=H.out.hA ad e;omega),gb_set4 HG3.out (Nat.le_refl _) _ _ _ _⟩⟩
  ·have hi1:¬ (T.k:Int)=1:=by omega
   by_cases h91:T.k=91
   ·have HE:=hide (show valF (f+1) dp T=manyF f 6 93 (dp+1) T.t T by unfold valF;rw [if_neg hl,if_pos h91]);have d6:((T.k:Int) == 91)=true:=by simp;omega
    have hk0:=hide (show T.k≠0 by omega);have d1:((T.k:Int) == 1)=false:=by simp;omega
    have d2:((T.k:Int) == 2)=false:=by simp;omega
    have d3:((T.k:Int) == 3)=false:=by simp;omega
    have d4:((T.k:Int) == 4)=false:=by simp;omega
    have d5:((T.k:Int) == 5)=false:=by simp;omega
    clear hl hi1;have HI2:=hide (show (manyF f 6 93 (dp+1) T.t T).In from HE.out ▸ HI.out);go_upto_region 12 with fail
    obtain ⟨w4,hw4⟩:∃ w4,w2.setCell ⟨g,0,none⟩ (.int .i64 6)=w4:=⟨_,rfl⟩;have HF4:=hide (show Fr (fun j=>j=g) w2 w4 from hw4 ▸ Fr.of_grown (gby_set w2 g 0 _) (fun k e=>by injection e with e;exact e.symm));have HV4:=hide (show Blk w4 g TV #[.int .i64 ((6:Nat):Int),.string ⟨T.t.toArray⟩,.slice none 0 0,.slice none 0 0] from hw4 ▸ HV.out.set_ 0 _);rw [hw4];have hgr:w.heap.size<g:=by have:=HG1.out;have:=HS1.out;omega
    have hrg:rb<w.heap.size:=H.out.rd.blk.lt;have H4:=hide (H2.out.fr HF4.out (by show ¬ rb=g;omega) (fun ad e=>by show ¬ ad.block=g;have:=H.out.hA ad e;omega));have HB4:=hide (show Below w.heap.size w w4 from HBB.out.trans (HF4.out.below HBB.out.size (fun j hj=>by show w.heap.size≤j;subst hj;omega)));have HT4:=hide (HT.out.below HB4.out);have HR4:=hide (blk_fr_keep (HR0.out.below HB2.out HR0.out.lt) HF4.out (by omega));have HNE:=hide (show ∀ ad,A=some ad→ad.block≠g from fun ad e h=>by have:=H.out.hA ad e;omega);clear hw4;go_wp2_with (go_at_call 79;(refine (HM.out w4 rb g A n c b T 6 93 (dp+1) T.t _ (by simp) H4.out HT4.out hr2 (by omega) (by omega) HNE.out HV4.out (by omega) (by decide) hk0.out HI2.out).mono ?_);rintro e w5 (⟨J,T',cs,h1,rfl,h2,h3,h4,h5⟩|⟨p,e0,h1,rfl,h5⟩);rotate_left;(exact ⟨rfl,.inr ⟨p,e0,HE.out.trans h1,rfl,gb_many HB4.out h5 (by omega)⟩⟩);have HN:=hide (HE.out.trans h1);have HG5:=hide (gb_many HB4.out h5 (by omega));(obtain ⟨v1,v2,v3,v4,v5,v6,v7,v8,rfl⟩:=h3.four);have HV5:=hide h2;have HJ:=hide h3;have H5:=hide h4;have HR5:=hide (blk_fr_keep HR4.out h5 (by rintro (e|e) <;> omega));clear h1 h2 h3 h4 h5 kr2 fr2 zr2 kv2 fv2 zv2;have kv5:=HV5.out.cell;have fv5:=HV5.out.frozen;have zv5:=HV5.out.lt;have kx5:=HR5.out.cell;have fx5:=HR5.out.frozen;have zx5:=HR5.out.lt)
    have hs4:w.heap.size<w4.heap.size:=nLl HR0.out.lt (Nat.le_trans HB2.out.size HF4.out.size);refine ⟨rfl,.agg #[.int .i64 v1,.string v2,.slice v3 v4 v5,.slice v6 v7 v8],results_cell_row rfl _ _ w.heap.size TV _ (0,0) _ rfl (set4_blk HR5.out (.int .i64 v1) (.string v2) (.slice v3 v4 v5) (.slice v6 v7 v8)) Tryz.underlying39 rfl tv_info,.inl ⟨J,T',_,HN.out,rfl,VRd.keep (fun j hj=>set4_heap w5 (by have:w4.heap.size≤j:=hj;omega) _ _ _ _) (fun j hj=>by have:w4.heap.size≤j:=hj;show w.heap.size≤j;omega) _ _ HJ.out,H5.out.fr (set4_fr w5 w.heap.size _ _ _ _) (by show ¬ rb=w.heap.size;omega) (fun ad e=>by show ¬ ad.block=w.heap.size;have:=H.out.hA ad e;omega),gb_set4 HG5.out (Nat.le_refl _) _ _ _ _⟩⟩
   ·have d6:((T.k:Int) == 91)=false:=by simp;omega
    by_cases h123:T.k=123
    ·have HE:=hide (show valF (f+1) dp T=manyF f 7 125 (dp+1) T.t T by unfold valF;rw [if_neg hl,if_neg h91,if_pos h123]);have d7:((T.k:Int) == 123)=true:=by simp;omega
     have hk0:=hide (show T.k≠0 by omega);have d1:((T.k:Int) == 1)=false:=by simp;omega
     have d2:((T.k:Int) == 2)=false:=by simp;omega
     have d3:((T.k:Int) == 3)=false:=by simp;omega
     have d4:((T.k:Int) == 4)=false:=by simp;omega
     have d5:((T.k:Int) == 5)=false:=by simp;omega
     clear hl hi1;have HI2:=hide (show (manyF f 7 125 (dp+1) T.t T).In from HE.out ▸ HI.out);go_upto_region 15 with fail
     obtain ⟨w4,hw4⟩:∃ w4,w2.setCell ⟨g,0,none⟩ (.int .i64 7)=w4:=⟨_,rfl⟩;have HF4:=hide (show Fr (fun j=>j=g) w2 w4 from hw4 ▸ Fr.of_grown (gby_set w2 g 0 _) (fun k e=>by injection e with e;exact e.symm));have HV4:=hide (show Blk w4 g TV #[.int .i64 ((7:Nat):Int),.string ⟨T.t.toArray⟩,.slice none 0 0,.slice none 0 0] from hw4 ▸ HV.out.set_ 0 _);rw [hw4];have hgr:w.heap.size<g:=by have:=HG1.out;have:=HS1.out;omega
     have hrg:rb<w.heap.size:=H.out.rd.blk.lt;have H4:=hide (H2.out.fr HF4.out (by show ¬ rb=g;omega) (fun ad e=>by show ¬ ad.block=g;have:=H.out.hA ad e;omega));have HB4:=hide (show Below w.heap.size w w4 from HBB.out.trans (HF4.out.below HBB.out.size (fun j hj=>by show w.heap.size≤j;subst hj;omega)));have HT4:=hide (HT.out.below HB4.out);have HR4:=hide (blk_fr_keep (HR0.out.below HB2.out HR0.out.lt) HF4.out (by omega));have HNE:=hide (show ∀ ad,A=some ad→ad.block≠g from fun ad e h=>by have:=H.out.hA ad e;omega);clear hw4;go_wp2_with (go_at_call 79;(refine (HM.out w4 rb g A n c b T 7 125 (dp+1) T.t _ (by simp) H4.out HT4.out hr2 (by omega) (by omega) HNE.out HV4.out (by omega) (by decide) hk0.out HI2.out).mono ?_);rintro e w5 (⟨J,T',cs,h1,rfl,h2,h3,h4,h5⟩|⟨p,e0,h1,rfl,h5⟩);rotate_left;(exact ⟨rfl,.inr ⟨p,e0,HE.out.trans h1,rfl,gb_many HB4.out h5 (by omega)⟩⟩);have HN:=hide (HE.out.trans h1);have HG5:=hide (gb_many HB4.out h5 (by omega));(obtain ⟨v1,v2,v3,v4,v5,v6,v7,v8,rfl⟩:=h3.four);have HV5:=hide h2;have HJ:=hide h3;have H5:=hide h4;have HR5:=hide (blk_fr_keep HR4.out h5 (by rintro (e|e) <;> omega));clear h1 h2 h3 h4 h5 kr2 fr2 zr2 kv2 fv2 zv2;have kv5:=HV5.out.cell;have fv5:=HV5.out.frozen;have zv5:=HV5.out.lt;have kx5:=HR5.out.cell;have fx5:=HR5.out.frozen;have zx5:=HR5.out.lt)
     have hs4:w.heap.size<w4.heap.size:=nLl HR0.out.lt (Nat.le_trans HB2.out.size HF4.out.size);refine ⟨rfl,.agg #[.int .i64 v1,.string v2,.slice v3 v4 v5,.slice v6 v7 v8],results_cell_row rfl _ _ w.heap.size TV _ (0,0) _ rfl (set4_blk HR5.out (.int .i64 v1) (.string v2) (.slice v3 v4 v5) (.slice v6 v7 v8)) Tryz.underlying39 rfl tv_info,.inl ⟨J,T',_,HN.out,rfl,VRd.keep (fun j hj=>set4_heap w5 (by have:w4.heap.size≤j:=hj;omega) _ _ _ _) (fun j hj=>by have:w4.heap.size≤j:=hj;show w.heap.size≤j;omega) _ _ HJ.out,H5.out.fr (set4_fr w5 w.heap.size _ _ _ _) (by show ¬ rb=w.heap.size;omega) (fun ad e=>by show ¬ ad.block=w.heap.size;have:=H.out.hA ad e;omega),gb_set4 HG5.out (Nat.le_refl _) _ _ _ _⟩⟩
    ·have HE:=hide (show valF (f+1) dp T=.bad T.ts 11 by unfold valF;rw [if_neg hl,if_neg h91,if_neg h123]);have d7:((T.k:Int) == 123)=false:=by simp;omega
     have d1:((T.k:Int) == 1)=false:=by simp;omega
     have d2:((T.k:Int) == 2)=false:=by simp;omega
     have d3:((T.k:Int) == 3)=false:=by simp;omega
     have d4:((T.k:Int) == 4)=false:=by simp;omega
     have d5:((T.k:Int) == 5)=false:=by simp;omega
     clear hl hi1;go_wp2_with (go_at_call 35;(refine (fail_tk 11 H2.out).mono ?_);rintro e w1 ⟨rfl,hg⟩)
     exact ⟨rfl,.inr ⟨T.ts,11,HE.out,rfl,gb_trans (gb_below HBB.out) hg⟩⟩
theorem st_inf:∃ i,Tryz.prog.info? TSt=some i∧i.zero=some (.string ⟨#[]⟩)∧i.size=1∧i.bytes=16:=by
 have h:(Tryz.prog.info? TSt).map (fun i=>(i.zero,i.size,i.bytes))=some (some (.string ⟨#[]⟩),1,16):=by kernel_rfl
 cases hi:Tryz.prog.info? TSt with
 | none=>rw [hi] at h;cases h
 | some i=>rw [hi] at h;simp only [Option.map_some,Option.some.injEq,Prod.mk.injEq] at h;exact ⟨i,rfl,h.1,h.2.1,h.2.2⟩
def zTV:Value:=.agg #[.int .i64 0,.string ⟨#[]⟩,.slice none 0 0,.slice none 0 0]
theorem tv_inf:∃ i,Tryz.prog.info? TV=some i∧i.zero=some zTV∧i.size=4∧i.bytes=72:=by
 have h:(Tryz.prog.info? TV).map (fun i=>(i.zero,i.size,i.bytes))=some (some zTV,4,72):=by kernel_rfl
 cases hi:Tryz.prog.info? TV with
 | none=>rw [hi] at h;cases h
 | some i=>rw [hi] at h;simp only [Option.map_some,Option.some.injEq,Prod.mk.injEq] at h;exact ⟨i,rfl,h.1,h.2.1,h.2.2⟩
theorem ReadsF.lt {w:World} {F:Nat→Prop} {k:Nat} {A:Option Addr} {n:Nat} {xs:List Value} (h:ReadsF w F k A n xs) (hk:0<k):ReadsF w (fun j=>F j∧j<w.heap.size) k A n xs:=by
 refine ⟨h.1,fun h0=>?_⟩;obtain ⟨ad,e,hb,hc⟩:=h.2 h0;have hl:0<xs.length:=by rw [h.1];exact Nat.mul_pos h0 hk
 have:=World.block_lt_of_cell? w _ (hc 0 xs[0] (List.getElem?_eq_getElem hl));rw [block_of_add] at this;exact ⟨ad,e,⟨hb,this⟩,hc⟩
mutual
theorem VRd.lt {w:World} {F:Nat→Prop}:∀ (J:JV) (cs:List Value),VRd w F J cs→VRd w (fun j=>F j∧j<w.heap.size) J cs
 | .mk k t ks vs,cs,h=>by
   unfold VRd at h ⊢;obtain ⟨A,n,c,A',n',c',xs,h1,h2,h3,h4,h5,h6,h7,h8⟩:=h;exact ⟨A,n,c,A',n',c',xs,h1,h2,h3,h4.lt (by omega),h5,h6,h7.lt (by omega),VRdL.lt vs xs h8⟩
theorem VRdL.lt {w:World} {F:Nat→Prop}:∀ (js:List JV) (xs:List Value),VRdL w F js xs→VRdL w (fun j=>F j∧j<w.heap.size) js xs
 | [],xs,h=>h
 | j :: js,xs,h=>by
   unfold VRdL at h ⊢;obtain ⟨cs,rest,h1,h2,h3⟩:=h;exact ⟨cs,rest,h1,VRd.lt j cs h2,VRdL.lt js rest h3⟩
end
def InM (w:World) (z:Nat) (kv lv:Value):Nat→Prop:=fun j=>w.heap.size≤j∧j<z∧kv.ownBlock≠some j∧lv.ownBlock≠some j
structure MS (w wr:World) (rb vb z:Nat) (A:Option Addr) (n c:Nat) (b t:L8) (kind:Nat) (T:Tk) (ks:List L8) (vs:List JV) (kv lv:Value) (xs:List Value):Prop where
 tk:RdT wr rb A n c b T
 fr:Fr (isRV rb vb) w wr
 hz:z≤wr.heap.size
 blk:Blk wr vb TV #[.int .i64 (kind:Int),.string ⟨t.toArray⟩,kv,lv]
 ok:wr.ownsRow w.heap.size TSt 1 kv ks.length (sc ks)
 ol:wr.ownsRow w.heap.size TV 4 lv vs.length xs
 vr:VRdL wr (InM w z kv lv) vs xs
section
variable {w wr w':World} {rb vb z n c kind:Nat} {A:Option Addr} {b t:L8} {T T':Tk} {ks:List L8} {vs:List JV} {kv lv:Value} {xs:List Value}
theorem MS.call (h:MS w wr rb vb z A n c b t kind T ks vs kv lv xs) (hg:wr.grownBy w' (some rb)) (hT:RdT w' rb A n c b T') (hr:rb<w.heap.size) (hv:vb≠rb):MS w w' rb vb z A n c b t kind T' ks vs kv lv xs where
 tk:=hT
 fr:=h.fr.tr (Fr.of_grown hg (fun k e=>.inl (by injection e with e;exact e.symm)))
 hz:=Nat.le_trans h.hz hg.size
 blk:=blk_gb h.blk hg hv
 ok:=row_keep h.ok (fun g hgb=>hg.block g (own_lt h.ok g hgb) (fun e=>by injection e with e;have:=own_block h.ok g hgb;omega))
 ol:=row_keep h.ol (fun g hgb=>hg.block g (own_lt h.ol g hgb) (fun e=>by injection e with e;have:=own_block h.ol g hgb;omega))
 vr:=VRdL.keep (fun j hj=>hg.block j (nLl hj.2.1 h.hz) (fun e=>by injection e with e;have:=hj.1;omega)) (fun _ h=>h) _ _ h.vr
theorem MS.below (h:MS w wr rb vb z A n c b t kind T ks vs kv lv xs) (hb:Below wr.heap.size wr w'):MS w w' rb vb z A n c b t kind T ks vs kv lv xs where
 tk:=h.tk.below hb
 fr:=h.fr.low hb
 hz:=Nat.le_trans h.hz hb.size
 blk:=h.blk.below hb h.blk.lt
 ok:=own_later h.ok hb
 ol:=own_later h.ol hb
 vr:=VRdL.keep (fun j hj=>hb.block j (nLl hj.2.1 h.hz)) (fun _ h=>h) _ _ h.vr
theorem MS.full (h:MS w wr rb vb z A n c b t kind T ks vs kv lv xs):MS w wr rb vb wr.heap.size A n c b t kind T ks vs kv lv xs:=
 { h with hz:=Nat.le_refl _,vr:=VRdL.keep (fun _ _=>rfl) (fun j hj=>⟨hj.1,nLl hj.2.1 h.hz,hj.2.2⟩) _ _ h.vr }
theorem Tabs.fr {F:Nat→Prop} (h:Tabs w) (hf:Fr F w w') (hF:∀ j,F j→2≤j):Tabs w':=h.keep fun p hp=>(cell_heap (hf.block p.block (by have:=h.size;omega) (fun e=>by have:=hF _ e;omega))).symm
def mW (n rb:Nat) (w:World):Nat:=match w.cell? ⟨rb,2,none⟩ with
 | some (.int _ k)=>if k=0 then 0 else match w.cell? ⟨rb,1,none⟩ with
   | some (.int _ a)=>n - a.toNat+1
   | _=>0
 | _=>0
theorem mW_of (h:RdT w rb A n c b T):mW n rb w=T.W:=by
 have h2:=h.rd.blk.cell 2;have h1:=h.rd.blk.cell 1;have hl:=h.rd.len;have hsl:T.s.length≤n:=by rw [← hl];exact h.hs.length_le
 simp at h1 h2;unfold mW Tk.W;rw [h2,h1];dsimp only;by_cases hk:T.k=0
 ·rw [if_pos (by omega),if_pos hk]
 ·rw [if_neg (by omega),if_neg hk];omega
end
def G9 (w:World) (rb vb z:Nat) (A:Option Addr) (n c:Nat) (b t:L8) (kind:Nat) (T:Tk) (ks:List L8) (vs:List JV) (kv lv:Value) (xs:List Value) (s:Nat) (w':World):Prop:=
 RdT w' rb A n c b T∧Fr (isRV rb vb) w w'∧z≤w'.heap.size∧w'.ownsRow w.heap.size TV 4 lv vs.length xs∧VRdL w' (InM w z kv lv) vs xs ∧
 (s≤1→Blk w' vb TV #[.int .i64 (kind:Int),.string ⟨t.toArray⟩,kv,lv])∧(s=0→w'.ownsRow w.heap.size TSt 1 kv ks.length (sc ks)) ∧
 (2≤s → ∃ kv',Blk w' vb TV #[.int .i64 (kind:Int),.string ⟨t.toArray⟩,kv',lv]∧w'.ownsRow w.heap.size TSt 1 kv' (ks.length+1) (sc ks++[bstr T.t])∧(kv'.ownBlock=kv.ownBlock ∨ ∃ g,kv'.ownBlock=some g∧z≤g))
section
variable {w wr w':World} {rb vb z n c kind s:Nat} {A:Option Addr} {b t:L8} {T T':Tk} {ks:List L8} {vs:List JV} {kv lv:Value} {xs:List Value}
theorem G9.of (h:MS w wr rb vb z A n c b t kind T ks vs kv lv xs):G9 w rb vb z A n c b t kind T ks vs kv lv xs 0 wr:=
 ⟨h.tk,h.fr,h.hz,h.ol,h.vr,fun _=>h.blk,fun _=>h.ok,fun h=>absurd h (by decide)⟩
theorem G9.below (h:G9 w rb vb z A n c b t kind T ks vs kv lv xs s wr) (hb:Below wr.heap.size wr w'):G9 w rb vb z A n c b t kind T ks vs kv lv xs s w':=
 ⟨h.1.below hb,h.2.1.low hb,Nat.le_trans h.2.2.1 hb.size,own_later h.2.2.2.1 hb,VRdL.keep (fun j hj=>hb.block j (nLl hj.2.1 h.2.2.1)) (fun _ h=>h) _ _ h.2.2.2.2.1,
  fun h'=>(h.2.2.2.2.2.1 h').below hb (h.2.2.2.2.2.1 h').lt,fun h'=>own_later (h.2.2.2.2.2.2.1 h') hb,fun h'=>by
   obtain ⟨kv',h1,h2,h3⟩:=h.2.2.2.2.2.2.2 h';exact ⟨kv',h1.below hb h1.lt,own_later h2 hb,h3⟩⟩
theorem G9.append (h:G9 w rb vb z A n c b t kind T ks vs kv lv xs 0 wr) (hg:wr.grownBy w' kv.ownBlock) (hrb:rb<w.heap.size) (hvb:vb<w.heap.size) (hA:∀ ad,A=some ad→ad.block<w.heap.size):G9 w rb vb z A n c b t kind T ks vs kv lv xs 1 w':=by
 obtain ⟨h1,h2,h3,h4,h5,h6,h7,h8⟩:=h;have hk:=own_block (h7 rfl);have hf:Fr (fun j=>kv.ownBlock=some j) wr w':=Fr.of_grown hg (fun k e=>e);have hne:∀ g,lv.ownBlock=some g→kv.ownBlock≠some g:=fun g hg'=>by
  rcases h4.2 with ⟨e,_⟩|⟨g',cap,cur,e,_,hh,_⟩
  ·rw [e] at hg';cases hg'
  ·rw [e] at hg';have:g'=g:=by simpa [Value.ownBlock] using hg'
   subst this;exact own_blk_ne (h7 rfl) hh (by decide)
 refine ⟨h1.fr hf (fun e=>by have:=hk _ e;omega) (fun ad e e2=>by have:=hA ad e;have:=hk _ e2;omega),h2.trans hf (fun j hj e=>by have:=hk _ e;omega),Nat.le_trans h3 hg.size,row_fr h4 hf (fun g hg'=>hne g hg'),VRdL.keep (fun j hj=>hf.block j (nLl hj.2.1 h3) hj.2.2.1) (fun _ h=>h) _ _ h5,fun _=>hf.blk (h6 (by decide)) (fun e=>by have:=hk _ e;omega),fun h=>absurd h (by decide),fun h=>absurd h (by decide)⟩
theorem G9.store (h:G9 w rb vb z A n c b t kind T ks vs kv lv xs 1 wr) (kv':Value) (ho:wr.ownsRow w.heap.size TSt 1 kv' (ks.length+1) (sc ks++[bstr T.t])) (hk:kv'.ownBlock=kv.ownBlock ∨ ∃ g,kv'.ownBlock=some g∧z≤g) (hrv:vb≠rb) (hvb:vb<w.heap.size) (hA:∀ ad,A=some ad→ad.block≠vb):G9 w rb vb z A n c b t kind T ks vs kv lv xs 2 (wr.setCell ⟨vb,2,none⟩ kv'):=by
 obtain ⟨h1,h2,h3,h4,h5,h6,h7,h8⟩:=h;have hf:Fr (fun j=>j=vb) wr (wr.setCell ⟨vb,2,none⟩ kv'):=Fr.of_grown (gby_set wr vb 2 kv') (fun k e=>by injection e with e;exact e.symm);refine ⟨h1.fr hf (fun e=>hrv e.symm) hA,h2.tr (hf.up (fun j e=>.inr e)),Nat.le_trans h3 hf.size,row_fr h4 hf (fun g hg' e=>by have:=own_block h4 g hg';omega),VRdL.keep (fun j hj=>hf.block j (nLl hj.2.1 h3) (fun e=>by have:=hj.1;omega)) (fun _ h=>h) _ _ h5,fun h=>absurd h (by decide),fun h=>absurd h (by decide),fun _=>⟨kv',(h6 (by decide)).set_ 2 kv',row_fr ho hf (fun g hg' e=>by have:=own_block ho g hg';omega),hk⟩⟩
theorem G9.ms (h:G9 w rb vb z A n c b t kind T ks vs kv lv xs 2 wr):∃ kv',MS w wr rb vb z A n c b t kind T (ks++[T.t]) vs kv' lv xs:=by
 obtain ⟨h1,h2,h3,h4,h5,h6,h7,h8⟩:=h;obtain ⟨kv',b1,b2,b3⟩:=h8 (by decide);refine ⟨kv',h1,h2,h3,b1,?_,h4,VRdL.keep (fun _ _=>rfl) (fun j hj=>⟨hj.1,hj.2.1,?_,hj.2.2.2⟩) _ _ h5⟩
 ·rw [List.length_append];have:sc (ks++[T.t])=sc ks++[bstr T.t]:=by unfold sc;rw [List.map_append];rfl
  rw [this];exact b2
 ·rcases b3 with e|⟨g,e,hg⟩
  ·rw [e];exact hj.2.2.1
  ·rw [e];intro e2;injection e2 with e2;have:=hj.2.1;omega
end
end Go.Proofs.YtacinobmcgcccaaGreatDoor
