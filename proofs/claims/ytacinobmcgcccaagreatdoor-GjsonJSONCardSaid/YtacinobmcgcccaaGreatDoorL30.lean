/- gjson.object. -/
import Derived.Test.YtacinobmcgcccaaGreatDoorL29
import Derived.Test.YtacinobmcgcccaaGreatDoorL24
import Derived.Test.YtacinobmcgcccaaGreatDoorL05
set_option linter.unusedSimpArgs false
set_option linter.unusedVariables false
namespace Go.Proofs.YtacinobmcgcccaaGreatDoor
open Go.RowKit Go.Shelf
abbrev TM:TypeId:=62
def MRd (w:World) (F:Nat→Prop):List (L8 × JV)→List Value→Prop
 | [],xs=>xs=[]
 | p :: l,xs=>∃ cs rest,xs=(bstr p.1 :: cs)++rest∧VRd w F p.2 cs∧MRd w F l rest
theorem MRd.keep {w w':World} {F F':Nat→Prop} (hk:∀ j,F j→w'.heap[j]? = w.heap[j]?) (hF:∀ j,F j→F' j):∀ (l:List (L8 × JV)) (xs:List Value),MRd w F l xs→MRd w' F' l xs
 | [],xs,h=>h
 | p :: l,xs,h=>by
   unfold MRd at h ⊢;obtain ⟨cs,rest,h1,h2,h3⟩:=h;exact ⟨cs,rest,h1,VRd.keep hk hF _ cs h2,MRd.keep hk hF l rest h3⟩
theorem MRd.five {w:World} {F:Nat→Prop}:∀ {l:List (L8 × JV)} {xs:List Value},MRd w F l xs → ∀ (i:Nat) (h:i<l.length),∃ k t A n c A' n' c',
 (xs[i * 5]? = some (bstr l[i].1)∧xs[i * 5+1]? = some (.int .i64 k)∧xs[i * 5+2]? = some (.string t)∧xs[i * 5+3]? = some (.slice A n c)∧xs[i * 5+4]? = some (.slice A' n' c'))∧VRd w F l[i].2 [.int .i64 k,.string t,.slice A n c,.slice A' n' c']
 | p :: l,xs,h,0,_=>by
   unfold MRd at h;obtain ⟨cs,rest,rfl,h2,h3⟩:=h;obtain ⟨k,t,A,n,c,A',n',c',rfl⟩:=h2.four;exact ⟨k,t,A,n,c,A',n',c',⟨rfl,rfl,rfl,rfl,rfl⟩,h2⟩
 | p :: l,xs,h,i+1,hi=>by
   unfold MRd at h;obtain ⟨cs,rest,rfl,h2,h3⟩:=h;obtain ⟨k,t,A,n,c,A',n',c',rfl⟩:=h2.four;obtain ⟨k2,t2,A2,n2,c2,A2',n2',c2',⟨g1,g2,g3,g4,g5⟩,g6⟩:=MRd.five h3 i (by simpa using hi);have e:∀ j,((bstr p.1 :: [.int .i64 k,.string t,.slice A n c,.slice A' n' c'])++rest)[(i+1) * 5+j]? = rest[i * 5+j]?:=fun j=>by
    rw [List.getElem?_append_right (by simp;omega)];congr 1;simp;omega
   refine ⟨k2,t2,A2,n2,c2,A2',n2',c2',⟨?_,?_,?_,?_,?_⟩,by simpa using g6⟩
   ·have:=e 0;simp only [Nat.add_zero] at this;rw [this,g1];rfl
   ·rw [e 1,g2]
   ·rw [e 2,g3]
   ·rw [e 3,g4]
   ·rw [e 4,g5]
theorem own_own_ne {w:World} {b b':Nat} {e e':TypeId} {k k' n n':Nat} {v v':Value} {xs ys:List Value} (h:w.ownsRow b e k v n xs) (h':w.ownsRow b' e' k' v' n' ys) (hne:e≠e'):∀ g,v'.ownBlock=some g→v.ownBlock≠some g:=by
 intro g hg;rcases h'.2 with ⟨rfl,_⟩|⟨g',cap,cur,rfl,_,hh,_⟩
 ·cases hg
 ·obtain rfl:g'=g:=Option.some.inj hg;exact own_blk_ne h (show Blk w g' e' cur from hh) hne
theorem one_new2 (w:World) (o:Obj) (x:Value) (t:TypeId):∀ j u,[x][j]? = some u→((w.alloc o).alloc (.cells #[x] t)).cell? ((⟨w.heap.size+1,0,none⟩:Addr).add j)=some u:=fun j u hu=>by
 have:=cell_one_new (w.alloc o) x t j u hu;simpa using this
theorem tv_new {w:World} {m:Nat} (hm:w.heap.size=m) (t:TypeId) (a b c d:Value):∀ j u,[a,b,c,d][j]? = some u→(w.alloc (.cells #[a,b,c,d] t)).cell? ((⟨m,0,none⟩:Addr).add j)=some u:=fun j u hu=>by
 subst hm;have e:=(Blk.new w t #[a,b,c,d]).cell j;rw [show (⟨w.heap.size,0,none⟩:Addr).add j=⟨w.heap.size,j,none⟩ by simp [Addr.add];exact fun h=>h.symm,e];simpa using hu
theorem step_row {w w3 w4:World} {h i k n:Nat} {e:TypeId} {v kv u:Value} {xs:List Value} (ho:w.ownsRow (h+2) e k v n xs) (hg:w.grownBy w3 kv.ownBlock) (hne:∀ g,v.ownBlock=some g→kv.ownBlock≠some g) (hw:w3.setCell ⟨h+1,i,none⟩ u=w4):w4.ownsRow (h+2) e k v n xs:=
 row_keep ho fun g hgb=>by
  rw [← hw,Below.heap_setCell _ _ _ _ (by show g≠h+1;have:=own_block ho g hgb;omega)];exact hg.block g (own_lt ho g hgb) (fun e=>hne g hgb e.symm)
structure OS (F:Nat→Prop) (w wr:World) (l:List (L8 × JV)) (k:Nat) (kv lv:Value) (xs:List Value):Prop where
 bel:Below w.heap.size w wr
 bv:Blk wr (w.heap.size+1) TV #[.int .i64 7,.string ⟨#[]⟩,kv,lv]
 br:Blk wr w.heap.size TV #[.int .i64 0,.string ⟨#[]⟩,.slice none 0 0,.slice none 0 0]
 ok:wr.ownsRow (w.heap.size+2) TSt 1 kv k (sc ((l.map (·.1)).take k))
 ol:wr.ownsRow (w.heap.size+2) TV 4 lv k xs
 vr:VRdL w F ((l.map (·.2)).take k) xs
 le:w.heap.size+2≤wr.heap.size
theorem OS.step {F:Nat→Prop} {w wr w3 w4 w6:World} {l:List (L8 × JV)} {k ck cl c7 c8:Nat} {Ak Al A7 A8:Option Addr} {xs:List Value} {o1 o2:Obj} {kb:ByteArray} {ky:L8} {J:JV} {cs:List Value}
 (H:OS F w wr l k (.slice Ak k ck) (.slice Al k cl) xs) (r1:((wr.alloc o1).alloc o2).ownsRow (w.heap.size+2) TSt 1 (.slice Ak k ck) k (sc ((l.map (·.1)).take k)))
 (b1:Blk ((wr.alloc o1).alloc o2) w.heap.size TV #[.int .i64 0,.string ⟨#[]⟩,.slice none 0 0,.slice none 0 0])
 (g3:((wr.alloc o1).alloc o2).grownBy w3 (Value.slice Ak k ck).ownBlock) (h4:w3.setCell ⟨w.heap.size+1,2,none⟩ (.slice A7 (k+1) c7)=w4)
 (o3:w3.ownsRow (w.heap.size+2) TSt 1 (.slice A7 (k+1) c7) (k+1) (sc ((l.map (·.1)).take k)++[.string kb])) (r4:(w4.alloc (.cells cs.toArray TV)).ownsRow (w.heap.size+2) TV 4 (.slice Al k cl) k xs)
 (g6:(w4.alloc (.cells cs.toArray TV)).grownBy w6 (Value.slice Al k cl).ownBlock) (b6:Blk w6 (w.heap.size+1) TV #[.int .i64 7,.string ⟨#[]⟩,.slice A7 (k+1) c7,.slice Al k cl])
 (o6:w6.ownsRow (w.heap.size+2) TV 4 (.slice A8 (k+1) c8) (k+1) (xs++cs)) (hk:k<l.length) (hkj:l[k]=(ky,J)) (hkb:(⟨ky.toArray⟩:ByteArray)=kb)
 (hv:VRd w F J cs) (hx:Below wr.heap.size wr ((wr.alloc o1).alloc o2)) :
 OS F w (w6.setCell ⟨w.heap.size+1,3,none⟩ (.slice A8 (k+1) c8)) l (k+1) (.slice A7 (k+1) c7) (.slice A8 (k+1) c8) (xs++cs):=by
 have n1:=own_block r1;have n4:=own_block r4;have hb3:Below w.heap.size w w3:=(bal (bal H.bel _) _).grown g3 (Nat.le_trans H.bel.size hx.size) (fun r e=>by have:=n1 r e;omega);have hb4:Below w.heap.size w w4:=h4 ▸ hb3.setCell (p:=⟨w.heap.size+1,2,none⟩) (Nat.le_succ _) _;have hb5:Below w4.heap.size w4 (w4.alloc (.cells cs.toArray TV)):=bal bR _;have hb6:Below w.heap.size w w6:=(bal hb4 _).grown g6 (Nat.le_trans hb4.size hb5.size) (fun r e=>by have:=n4 r e;omega);have q3:Blk w3 w.heap.size TV #[.int .i64 0,.string ⟨#[]⟩,.slice none 0 0,.slice none 0 0]:=(g3.block _ b1.lt (fun e=>by have:=n1 _ e.symm;omega)).trans b1;have q4:Blk w4 w.heap.size TV #[.int .i64 0,.string ⟨#[]⟩,.slice none 0 0,.slice none 0 0]:=h4 ▸ (Below.heap_setCell _ _ _ _ (by show w.heap.size≠w.heap.size+1;omega)).trans q3;have q5:=q4.alloc (.cells cs.toArray TV);have q6:Blk w6 w.heap.size TV #[.int .i64 0,.string ⟨#[]⟩,.slice none 0 0,.slice none 0 0]:=(g6.block _ q5.lt (fun e=>by have:=n4 _ e.symm;omega)).trans q5;have n3:=own_block o3;have o4:w4.ownsRow (w.heap.size+2) TSt 1 (.slice A7 (k+1) c7) (k+1) (sc ((l.map (·.1)).take k)++[.string kb]):=row_keep o3 fun g hg=>by
  rw [← h4,Below.heap_setCell _ _ _ _ (by show g≠w.heap.size+1;have:=n3 g hg;omega)]
 have o5:=own_later o4 hb5;have hk1:k<(l.map (·.1)).length:=by simpa using hk
 have hk2:k<(l.map (·.2)).length:=by simpa using hk
 have e1:(l.map (·.1))[k]=ky:=by simp [hkj]
 have e2:(l.map (·.2))[k]=J:=by simp [hkj]
 refine ⟨hb6.setCell (p:=⟨w.heap.size+1,3,none⟩) (Nat.le_succ _) _,b6.set_ 3 _,(Below.heap_setCell _ _ _ _ (by show w.heap.size≠w.heap.size+1;omega)).trans q6,?_,?_,?_,?_⟩
 ·rw [List.take_succ_eq_append_getElem hk1,e1];have:=step_row o5 g6 (own_own_ne r4 o5 (by decide)) (i:=3) (u:=.slice A8 (k+1) c8) rfl;unfold sc at this ⊢;rw [List.map_append,List.map_singleton,show bstr ky=.string kb from by rw [← hkb];rfl];exact this
 ·have n6:=own_block o6;exact row_keep o6 fun g hg=>by
   rw [Below.heap_setCell _ _ _ _ (by show g≠w.heap.size+1;have:=n6 g hg;omega)]
 ·rw [List.take_succ_eq_append_getElem hk2,e2];exact VRdL.snoc hv _ _ H.vr
 ·have h1:=H.le;have h2:=hx.size;have h3:=g3.size;have h5:=hb5.size;have h6:=g6.size;have h7:w4.heap.size=w3.heap.size:=by rw [← h4];simp
  have h8:(w6.setCell ⟨w.heap.size+1,3,none⟩ (.slice A8 (k+1) c8)).heap.size=w6.heap.size:=by simp
  omega
theorem reads_own {w:World} {h k n c:Nat} {A:Option Addr} {e:TypeId} {xs:List Value} {F:Nat→Prop} (o:w.ownsRow (h+2) e k (.slice A n c) n xs) (hF:∀ j,h≤j∧j<w.heap.size→F j):ReadsF w F k A n xs:=by
 refine ⟨o.1,fun h0=>?_⟩;obtain ⟨ad,e,hb,hcell⟩:=(Reads.of_own o).2 h0;exact ⟨ad,e,hF _ ⟨by have:=own_block o ad.block (by rw [e];rfl);omega,hb⟩,hcell⟩
theorem OS.fin {F:Nat→Prop} {w wr:World} {l:List (L8 × JV)} {k ck cl:Nat} {Ak Al:Option Addr} {xs:List Value} (H:OS F w wr l k (.slice Ak k ck) (.slice Al k cl) xs) (hF:∀ j,F j→j<w.heap.size) (hl:l.length=k) (hc1:k≤ck∧ck≤maxLen) (hc2:k≤cl∧cl≤maxLen) :
 VRd (set4 wr w.heap.size (.int .i64 7) (.string ⟨#[]⟩) (.slice Ak k ck) (.slice Al k cl)) (fun j=>(F j∨w.heap.size≤j)∧j<(set4 wr w.heap.size (.int .i64 7) (.string ⟨#[]⟩) (.slice Ak k ck) (.slice Al k cl)).heap.size) (objJ l) [.int .i64 7,.string ⟨#[]⟩,.slice Ak k ck,.slice Al k cl]:=by
 have h1:=H.ok;have h2:=H.vr;rw [List.take_of_length_le (by simp;omega)] at h1 h2;have n1:=own_block h1;have n2:=own_block H.ol;have o1:(set4 wr w.heap.size (.int .i64 7) (.string ⟨#[]⟩) (.slice Ak k ck) (.slice Al k cl)).ownsRow (w.heap.size+2) TSt 1 (.slice Ak k ck) k (sc (l.map (·.1))):=row_keep h1 fun g hg=>set4_heap wr (by have:=n1 g hg;omega) _ _ _ _
 have o2:(set4 wr w.heap.size (.int .i64 7) (.string ⟨#[]⟩) (.slice Ak k ck) (.slice Al k cl)).ownsRow (w.heap.size+2) TV 4 (.slice Al k cl) k xs:=row_keep H.ol fun g hg=>set4_heap wr (by have:=n2 g hg;omega) _ _ _ _
 unfold objJ VRd;refine ⟨Ak,k,ck,Al,k,cl,xs,rfl,by simpa using hl,hc1,reads_own o1 (fun j h=>⟨.inr h.1,h.2⟩),by simpa using hl,hc2,reads_own o2 (fun j h=>⟨.inr h.1,h.2⟩),?_⟩;refine VRdL.keep (fun j hj=>?_) (fun j hj=>?_) _ _ h2
 ·have:=hF j hj;rw [set4_heap wr (by omega)];exact H.bel.block j this
 ·refine ⟨.inl hj,?_⟩;rw [set4_size];have:=H.bel.size;have:=hF j hj;omega
set_option maxRecDepth 100000 in
set_option maxHeartbeats 4000000 in
theorem gobject_any (w:World) (F:Nat→Prop) (hF:∀ j,F j→j<w.heap.size) (l:List (L8 × JV)) (xs0:List Value) (A:Option Addr) (n c:Nat) (hl:l.length=n) (hn:n≤1000000) (hr:Reads w w.heap.size 5 A n xs0) (hM:MRd w F l xs0) :
 Calls Tryz.prog 24 #[.slice A n c] w fun e w'=>Below w.heap.size w w' ∧ ∃ cs,e=.returned (.agg cs.toArray)∧VRd w' (fun j=>(F j∨w.heap.size≤j)∧j<w'.heap.size) (objJ l) cs:=by
 obtain ⟨is,his,hsz0,hsz1,hsz2⟩:=st_inf;obtain ⟨iv,hiv,hvz0,hvz1,hvz2⟩:=tv_inf;obtain ⟨w1,hw1⟩:∃ q,w.alloc (.cells #[.int .i64 0,.string ⟨#[]⟩,.slice none 0 0,.slice none 0 0] TV)=q:=⟨_,rfl⟩;have hk1:Blk w1 w.heap.size TV #[.int .i64 0,.string ⟨#[]⟩,.slice none 0 0,.slice none 0 0]:=hw1 ▸ Blk.new _ _ _;have hs1:w1.heap.size=w.heap.size+1:=by rw [← hw1];simp
 obtain ⟨w2,hw2⟩:∃ q,w1.alloc (.cells #[.int .i64 7,.string ⟨#[]⟩,.slice none 0 0,.slice none 0 0] TV)=q:=⟨_,rfl⟩;have HFF:=hide hF;clear hF;have HO2:=hide (show OS F w w2 l 0 (.slice none 0 0) (.slice none 0 0) [] from by
  rw [← hw2];refine ⟨?_,?_,hk1.alloc _,World.ownsRow_nil _ _ _ _,World.ownsRow_nil _ _ _ _,by simp [VRdL],?_⟩
  ·rw [← hw1];exact bal (bal bR _) _
  ·rw [← hs1];exact Blk.new _ _ _
  ·simp;omega)
 have HW1:=hide hw1;have HW2:=hide hw2;have HR:=hide hr;have HM:=hide hM;have HL:=hide hl;have hz1:=hk1.cell;have hz2:=hk1.frozen;have hz3:=hk1.lt;clear hw1 hw2 hr hM hl
 go_enter Tryz.func24,Tryz.ntmps24
 go_upto_region 1 with fail
 rw [HW1.out];go_upto_region 2 with fail
 rw [HW2.out];go_wp2_with fail
 clear hz1 hz2 hz3
 go_loopw [9] (fun v9 wr=>∃ (k:Nat) (kv lv:Value) (xs:List Value),v9=.int .i64 (k:Int)∧k≤n∧Hid (OS F w wr l k kv lv xs)) (fun v _=>n - (intOf v).toNat)
 case atStart=>exact ⟨0,_,_,_,rfl,by omega,HO2⟩
 case round=>
  clear HO2 HW1 HW2;obtain ⟨k,kv,lv,xs,rfl,hkn,HI⟩:=hrel;by_cases hlt:k<n
  ·have hltI:(k:Int)<n:=by omega
   have hkl:k<l.length:=by rw [HL.out];exact hlt
   obtain ⟨kk,t,A1,n1,c1,A2,n2,c2,⟨g0,g1,g2,g3,g4⟩,hv⟩:=HM.out.five k hkl;obtain ⟨⟨b,o,sp⟩,hA,hb,hcs⟩:=HR.out.2 (by omega);obtain rfl:sp=none:=by
    obtain ⟨_,_,_,_,_,_,_,_,⟨g,_⟩,_⟩:=HM.out.five 0 (by omega);have:=spot_none (hcs _ _ g);simpa [Addr.add] using this
   subst hA;have hce:∀ j u,xs0[k * 5+j]? = some u→w.cell? ⟨b,o+k * 5+j,none⟩=some u:=fun j u h=>by
    have:=hcs _ _ h
    rwa [show (⟨b,o,none⟩:Addr).add (k * 5+j)=⟨b,o+k * 5+j,none⟩ from by simp [Addr.add,Nat.add_assoc]] at this
   have c0:=(HI.out.bel.cell (p:=⟨b,o+k * 5+0,none⟩) hb).trans (hce 0 _ g0);have q1:=(HI.out.bel.cell (p:=⟨b,o+k * 5+1,none⟩) hb).trans (hce 1 _ g1);have q2:=(HI.out.bel.cell (p:=⟨b,o+k * 5+2,none⟩) hb).trans (hce 2 _ g2);have q3:=(HI.out.bel.cell (p:=⟨b,o+k * 5+3,none⟩) hb).trans (hce 3 _ g3);have q4:=(HI.out.bel.cell (p:=⟨b,o+k * 5+4,none⟩) hb).trans (hce 4 _ g4);have hbr:b<wr.heap.size:=nLl hb HI.out.bel.size;obtain ⟨⟨ky,J⟩,hkj⟩:∃ q,l[k]=q:=⟨_,rfl⟩;rw [hkj] at c0 hv;simp only [Nat.add_zero,bstr] at c0 hv;obtain ⟨kb,hkb⟩:∃ q:ByteArray,⟨ky.toArray⟩=q:=⟨_,rfl⟩;rw [hkb] at c0;have hkw:=HI.out.bv.cell;have hkf:=HI.out.bv.frozen;have hkt:=HI.out.bv.lt;have HOK:=hide HI.out.ok;obtain ⟨Ak,ck,rfl,hck⟩:=own_slice2 HI.out.ok;obtain ⟨Al,cl,rfl,hcl⟩:=own_slice2 HI.out.ol;obtain ⟨o1,ho1⟩:∃ q,Obj.cells #[.string kb,.int .i64 kk,.string t,.slice A1 n1 c1,.slice A2 n2 c2] 62=q:=⟨_,rfl⟩;have HF1:=hide (one_new2 wr o1 (.string kb) TSt);have hX1:Below wr.heap.size wr ((wr.alloc o1).alloc (.cells #[.string kb] TSt)):=bal (bal bR _) _;have HX1:=hide hX1;have HROW1:=hide (own_later HI.out.ok hX1);have HROWL:=hide (own_later HI.out.ol hX1);have HBV1:=hide (HI.out.bv.below hX1 HI.out.bv.lt);have HBR1:=hide (HI.out.br.below hX1 HI.out.br.lt);have HBM1:=hide ((show Blk (wr.alloc o1) wr.heap.size TM #[.string kb,.int .i64 kk,.string t,.slice A1 n1 c1,.slice A2 n2 c2] from ho1 ▸ Blk.new _ _ _).alloc (.cells #[.string kb] TSt));have HO1:=hide ho1;have HV:=hide hv;have HKB:=hide hkb;have HKJ:=hide hkj;have HLE:=hide HI.out.le;have HLE1:=hide (Nat.le_trans HLE.out HX1.out.size);have hnq1:w.heap.size+1≠wr.heap.size:=by have:=HLE.out;omega
   have hnq2:wr.heap.size≠w.heap.size+1:=fun e=>hnq1 e.symm
   clear hcs hce g0 g1 g2 g3 g4 ho1 hX1 hv hkb hkj;go_wp2_with (first
    | (at_builtin;rw [HO1.out];go_loud (refine wpList_append_own_at _ rfl (.tmp 14) (.tmp 17) _ rfl (w.heap.size+2) TSt is _ 1 16 Tryz.underlying36 his hsz0 hsz1 hsz2 rfl (by decide) (.slice Ak k ck) k _ rfl HROW1.out ⟨wr.heap.size+1,0,none⟩ 1 1 [.string kb] rfl rfl HF1.out (by intro u hu;simp at hu;subst hu;rfl) (by unfold maxLen;omega) (by omega) HLE1.out ?_);intro v' w3 hown hgrow _ _;(obtain ⟨A7,c7,rfl,hob7⟩:=own_sl hown);have HOWN:=hide hown;have HGR:=hide hgrow;have hne:=own_block HROW1.out;have hbv3:Blk w3 (w.heap.size+1) TV #[.int .i64 7,.string ⟨#[]⟩,.slice Ak k ck,.slice Al k cl]:=(hgrow.block _ HBV1.out.lt (fun e=>by have:=hne _ e.symm;omega)).trans HBV1.out;have hbm3:Blk w3 wr.heap.size TM #[.string kb,.int .i64 kk,.string t,.slice A1 n1 c1,.slice A2 n2 c2]:=(hgrow.block _ HBM1.out.lt (fun e=>by have:=own_lt HOK.out _ e.symm;omega)).trans HBM1.out;have km3:=hbm3.cell;have fm3:=hbm3.frozen;have zm3:=hbm3.lt;clear hbm3;have HBV3:=hide hbv3;have kw3:=hbv3.cell;have fw3:=hbv3.frozen;have zw3:=hbv3.lt;(obtain ⟨w4,hw4⟩:∃ q,w3.setCell ⟨w.heap.size+1,2,none⟩ (.slice A7 (k+1) c7)=q:=⟨_,rfl⟩);have HW4:=hide hw4;have hs4:w4.heap.size=w3.heap.size:=(by rw [← hw4];simp);have HS4:=hide hs4;have HF2:=hide (tv_new hs4 TV (.int .i64 kk) (.string t) (.slice A1 n1 c1) (.slice A2 n2 c2));have h64:Below w4.heap.size w4 (w4.alloc (.cells #[.int .i64 kk,.string t,.slice A1 n1 c1,.slice A2 n2 c2] TV)):=bal bR _;have HROW4:=hide (own_later (step_row HROWL.out HGR.out (own_own_ne HROW1.out HROWL.out (by decide)) hw4) h64);have HBV4:=hide ((hw4 ▸ hbv3.set_ 2 _:Blk w4 (w.heap.size+1) TV #[.int .i64 7,.string ⟨#[]⟩,.slice A7 (k+1) c7,.slice Al k cl]).alloc (.cells #[.int .i64 kk,.string t,.slice A1 n1 c1,.slice A2 n2 c2] TV));have HLE4:=hide (show w.heap.size+2≤(w4.alloc (.cells #[.int .i64 kk,.string t,.slice A1 n1 c1,.slice A2 n2 c2] TV)).heap.size from Nat.le_trans (Nat.le_trans HLE1.out hgrow.size) (Nat.le_trans (Nat.le_of_eq hs4.symm) h64.size));clear h64;clear hown hgrow hne hbv3 hw4 hs4 hkw hkf hkt)
    | (at_builtin;rw [HW4.out];go_loud (refine wpList_append_own_at _ rfl (.tmp 21) (.tmp 24) _ rfl (w.heap.size+2) TV iv _ 4 72 Tryz.underlying37 hiv hvz0 hvz1 hvz2 rfl (by decide) (.slice Al k cl) k _ rfl HROW4.out ⟨w3.heap.size,0,none⟩ 1 1 [.int .i64 kk,.string t,.slice A1 n1 c1,.slice A2 n2 c2] rfl rfl HF2.out (by intro u hu;simp at hu;rcases hu with rfl|rfl|rfl|rfl <;> rfl) (by unfold maxLen;omega) (by omega) HLE4.out ?_);intro v' w6 hown hgrow _ _;(obtain ⟨A8,c8,rfl,hob8⟩:=own_sl hown);have HOWN8:=hide hown;have HGR8:=hide hgrow;have hne:=own_block HROW4.out;have hbv6:Blk w6 (w.heap.size+1) TV #[.int .i64 7,.string ⟨#[]⟩,.slice A7 (k+1) c7,.slice Al k cl]:=(hgrow.block _ HBV4.out.lt (fun e=>by have:=hne _ e.symm;omega)).trans HBV4.out;have HBV6:=hide hbv6;have kw6:=hbv6.cell;have fw6:=hbv6.frozen;have zw6:=hbv6.lt;clear hown hgrow hne hbv6 kw3 fw3 zw3 km3 fm3 zm3))
   go_roundw
   case rel=>refine ⟨k+1,_,_,_,by go_num,by omega,hide (OS.step HI.out HROW1.out HBR1.out HGR.out HW4.out HOWN.out HROW4.out HGR8.out HBV6.out HOWN8.out hkl HKJ.out HKB.out HV.out HX1.out)⟩
   case measure=>simp [intOf];omega
  ·have hltI:¬ (k:Int)<n:=by omega
   obtain rfl:k=n:=by omega
   have H:=hide HI.out;obtain ⟨Ak,ck,rfl,hck⟩:=own_slice2 HI.out.ok;obtain ⟨Al,cl,rfl,hcl⟩:=own_slice2 HI.out.ol;have kb:=HI.out.bv.cell;have fb:=HI.out.bv.frozen;have zb:=HI.out.bv.lt;have kr:=HI.out.br.cell;have fr:=HI.out.br.frozen;have zr:=HI.out.br.lt;clear HI;go_wp2_with fail
   refine ⟨rfl,.agg #[.int .i64 7,.string ⟨#[]⟩,.slice Ak k ck,.slice Al k cl],results_cell_row rfl _ _ w.heap.size TV _ (0,0) _ rfl (set4_blk H.out.br (.int .i64 7) (.string ⟨#[]⟩) (.slice Ak k ck) (.slice Al k cl)) Tryz.underlying39 rfl tv_info,set4_below H.out.bel (Nat.le_refl _) _ _ _ _,_,rfl,H.out.fin HFF.out HL.out hck hcl⟩
def VAt (m:Nat) (w:World) (J:JV) (v:Value):Prop:=∃ k t A n c A' n' c',v=.agg #[.int .i64 k,.string t,.slice A n c,.slice A' n' c']∧VRd w (fun j=>m≤j∧j<w.heap.size) J [.int .i64 k,.string t,.slice A n c,.slice A' n' c']
def LAt (m:Nat) (w:World) (js:List JV) (v:Value):Prop:=∃ A c xs,v=.slice A js.length c∧(js.length≤c∧c≤maxLen)∧ReadsF w (fun j=>m≤j∧j<w.heap.size) 4 A js.length xs∧VRdL w (fun j=>m≤j∧j<w.heap.size) js xs
def MAt (m:Nat) (w:World) (l:List (L8 × JV)) (v:Value):Prop:=∃ A c xs,v=.slice A l.length c∧Reads w w.heap.size 5 A l.length xs∧MRd w (fun j=>m≤j∧j<w.heap.size) l xs
section
variable {w w':World} {m m':Nat} {J:JV} {v:Value} {js:List JV} {l:List (L8 × JV)}
theorem VAt.below (h:VAt m w J v) (hb:Below w.heap.size w w'):VAt m w' J v:=by
 obtain ⟨k,t,A,n,c,A',n',c',e,h⟩:=h;exact ⟨k,t,A,n,c,A',n',c',e,VRd.keep (fun j hj=>hb.block j hj.2) (fun j hj=>⟨hj.1,nLl hj.2 hb.size⟩) _ _ h⟩
theorem VAt.low (h:VAt m w J v) (hm:m'≤m):VAt m' w J v:=by
 obtain ⟨k,t,A,n,c,A',n',c',e,h⟩:=h;exact ⟨k,t,A,n,c,A',n',c',e,VRd.keep (fun _ _=>rfl) (fun j hj=>⟨Nat.le_trans hm hj.1,hj.2⟩) _ _ h⟩
theorem LAt.below (h:LAt m w js v) (hb:Below w.heap.size w w'):LAt m w' js v:=by
 obtain ⟨A,c,xs,e,hc,h1,h2⟩:=h;exact ⟨A,c,xs,e,hc,h1.keep (fun j hj=>hb.block j hj.2) (fun j hj=>⟨hj.1,nLl hj.2 hb.size⟩),VRdL.keep (fun j hj=>hb.block j hj.2) (fun j hj=>⟨hj.1,nLl hj.2 hb.size⟩) _ _ h2⟩
theorem MAt.below (h:MAt m w l v) (hb:Below w.heap.size w w'):MAt m w' l v:=by
 obtain ⟨A,c,xs,e,h1,h2⟩:=h;exact ⟨A,c,xs,e,(h1.below hb).more hb.size,MRd.keep (fun j hj=>hb.block j hj.2) (fun j hj=>⟨hj.1,nLl hj.2 hb.size⟩) _ _ h2⟩
theorem LAt.of_blk {g c:Nat} {t:TypeId} {cs:List Value} (hb:Blk w g t cs.toArray) (hm:m≤g) (h:VRdL w (fun j=>m≤j∧j<w.heap.size) js cs) (hl:cs.length=js.length * 4) (hc:js.length≤c∧c≤maxLen):LAt m w js (.slice (some ⟨g,0,none⟩) js.length c):=by
 refine ⟨_,c,cs,rfl,hc,⟨hl,fun _=>?_⟩,h⟩;obtain ⟨ad,e,h1,h2⟩:=(reads_blk (k:=4) (n:=js.length) hb rfl (by simpa using hl)).2 (by assumption);exact ⟨ad,e,⟨by injection e with e;rw [← e];exact hm,h1⟩,h2⟩
theorem MAt.of_blk {g c:Nat} {t:TypeId} {cs:List Value} (hb:Blk w g t cs.toArray) (h:MRd w (fun j=>m≤j∧j<w.heap.size) l cs) (hl:cs.length=l.length * 5):MAt m w l (.slice (some ⟨g,0,none⟩) l.length c):=⟨_,c,cs,rfl,reads_blk hb rfl (by simpa using hl),h⟩
theorem VAt.leaf (m:Nat) (w:World) (k:Int) (t:L8):VAt m w (.mk k t [] []) (.agg #[.int .i64 k,.string ⟨t.toArray⟩,.slice none 0 0,.slice none 0 0]):=⟨k,_,_,_,_,_,_,_,rfl,vrd_leaf k t⟩
end
theorem gtextV (s:L8) (w:World):Calls Tryz.prog 25 #[.string ⟨s.toArray⟩] w fun e w'=>Below w.heap.size w w' ∧ ∃ v,e=.returned v ∧ ∀ m,VAt m w' (textJ s) v:=
 (gtext_any _ w).mono fun e w' h=>⟨h.2,_,h.1,fun m=>VAt.leaf m w' 5 s⟩
theorem gnumberV (n:Int) (w:World) (h0:-9223372036854775808≤n) (h1:n≤9223372036854775807) (hT:GT w):Calls Tryz.prog 26 #[.int .i64 n] w fun e w'=>Below w.heap.size w w' ∧ ∃ v,e=.returned v ∧ ∀ m,VAt m w' (numJ n) v:=
 (gnumber_any n w h0 h1 hT).mono fun e w' h=>⟨h.2,_,h.1,fun m=>VAt.leaf m w' 4 _⟩
theorem garrayV {m:Nat} {w:World} {js:List JV} {v:Value} (h:LAt m w js v):Calls Tryz.prog 28 #[v] w fun e w'=>Below w.heap.size w w' ∧ ∃ r,e=.returned r∧VAt m w' (arrJ js) r:=by
 have h0:=h;obtain ⟨A,c,xs,rfl,_⟩:=h0;refine (garray_any A js.length c w).mono ?_;rintro e w' ⟨rfl,hb⟩;obtain ⟨A',c',xs',e,hc,h1,h2⟩:=h.below hb;injection e with e1 _ e2;subst e1 e2;refine ⟨hb,_,rfl,6,_,_,_,_,_,_,_,rfl,?_⟩;unfold arrJ VRd;exact ⟨none,0,0,A,js.length,c,xs',rfl,rfl,⟨Nat.le_refl _,by decide⟩,no_cells,rfl,hc,h1,h2⟩
theorem gobjectV {m:Nat} {w:World} {l:List (L8 × JV)} {v:Value} (h:MAt m w l v) (hl:l.length≤1000000) (hm:m≤w.heap.size):Calls Tryz.prog 24 #[v] w fun e w'=>Below w.heap.size w w' ∧ ∃ r,e=.returned r∧VAt m w' (objJ l) r:=by
 obtain ⟨A,c,xs,rfl,h1,h2⟩:=h;refine (gobject_any w _ (fun j h=>h.2) l xs A l.length c rfl hl h1 h2).mono ?_;rintro e w' ⟨hb,cs,rfl,hv⟩;have hv2:VRd w' (fun j=>m≤j∧j<w'.heap.size) (objJ l) cs:=VRd.keep (fun _ _=>rfl) (fun j hj=>⟨by rcases hj.1 with h|h;exact h.1;omega,hj.2⟩) _ _ hv;obtain ⟨k,t,A',n,c',A2,n2,c2,rfl⟩:=hv2.four;exact ⟨hb,_,rfl,k,t,A',n,c',A2,n2,c2,rfl,hv2⟩
structure GrJ (B:Nat) (w0 wr:World) (v:Value) (l:List JV):Prop where
 bel:Below B w0 wr
 le:B≤wr.heap.size
 row:∃ xs,wr.ownsRow B TV 4 v l.length xs∧VRdL wr (fun j=>B≤j∧j<wr.heap.size∧v.ownBlock≠some j) l xs
theorem GrJ.nil (w:World) {B:Nat} {w0:World} (h:Below B w0 w) (hl:B≤w.heap.size):GrJ B w0 w (.slice none 0 0) []:=⟨h,hl,[],World.ownsRow_nil _ _ _ _,by simp [VRdL]⟩
theorem GrJ.below {B:Nat} {w0 wr w':World} {v:Value} {l:List JV} (h:GrJ B w0 wr v l) (hb:Below wr.heap.size wr w'):GrJ B w0 w' v l:=by
 obtain ⟨xs,h1,h2⟩:=h.row;exact ⟨h.bel.trans (hb.mono h.le),Nat.le_trans h.le hb.size,xs,own_later h1 hb,VRdL.keep (fun j hj=>hb.block j hj.2.1) (fun j hj=>⟨hj.1,nLl hj.2.1 hb.size,hj.2.2⟩) _ _ h2⟩
theorem GrJ.push {B:Nat} {w0 wr w2 w3:World} {v v':Value} {l:List JV} {J:JV} {cs xs:List Value} (h:GrJ B w0 wr v l) (hb:Below wr.heap.size wr w2)
 (hxs:wr.ownsRow B TV 4 v l.length xs∧VRdL wr (fun j=>B≤j∧j<wr.heap.size∧v.ownBlock≠some j) l xs)
 (ha:VRd w2 (fun j=>wr.heap.size≤j∧j<w2.heap.size) J cs) (ho:w3.ownsRow B TV 4 v' (l.length+1) (xs++cs)) (hg:w2.grownBy w3 v.ownBlock) (hoo:v'.ownBlock=v.ownBlock∨v'.ownBlock=some w2.heap.size):GrJ B w0 w3 v' (l++[J]):=by
 have hvb:∀ k,v.ownBlock=some k→B≤k∧k<wr.heap.size:=fun k hk=>hxs.1.lt k hk
 have h2:=h.below hb;refine ⟨h2.bel.grown hg h2.le (fun k hk=>(hvb k hk).1),Nat.le_trans h2.le hg.size,xs++cs,by rw [List.length_append,List.length_singleton];exact ho,?_⟩;refine VRdL.snoc (VRd.keep (fun j hj=>?_) (fun j hj=>?_) _ _ ha) _ _ (VRdL.keep (fun j hj=>?_) (fun j hj=>?_) _ _ hxs.2)
 ·exact hg.block j hj.2 (fun e=>by have:=(hvb j e.symm).2;omega)
 ·refine ⟨Nat.le_trans h.le hj.1,nLl hj.2 hg.size,fun e=>?_⟩;rcases hoo with q|q
  ·rw [q] at e;have:=(hvb j e).2;omega
  ·rw [q] at e;injection e with e;omega
 ·exact (hg.block j (nLl hj.2.1 hb.size) (fun e=>hj.2.2 e.symm)).trans (hb.block j hj.2.1)
 ·refine ⟨hj.1,nLl hj.2.1 (Nat.le_trans hb.size hg.size),fun e=>?_⟩;rcases hoo with q|q
  ·exact hj.2.2 (q ▸ e)
  ·rw [q] at e;injection e with e;have:=hb.size;omega
theorem GrJ.lat {B:Nat} {w0 wr:World} {v:Value} {l:List JV} (h:GrJ B w0 wr v l):LAt B wr l v:=by
 obtain ⟨xs,h1,h2⟩:=h.row;obtain ⟨A,c,rfl,hc⟩:=own_slice2 h1;refine ⟨A,c,xs,rfl,hc,⟨h1.1,fun h0=>?_⟩,VRdL.keep (fun _ _=>rfl) (fun j hj=>⟨hj.1,hj.2.1⟩) _ _ h2⟩;obtain ⟨ad,e,hb,hcell⟩:=(Reads.of_own h1).2 h0;exact ⟨ad,e,⟨own_block h1 ad.block (by rw [e];rfl),hb⟩,hcell⟩
end Go.Proofs.YtacinobmcgcccaaGreatDoor
/- A region that draws its order, whose memory turns in stages that part and meet again; rows may read a slot that a later row writes. -/
namespace Go.Proofs.YtacinobmcgcccaaGreatDoor
open Go.RowKit
section
variable {P:Program} {Q:Exit→Act→World→Prop}
def OldH (sp:List FactH) (l:List Oper) (k:Nat) (a0 a:Act):Prop:=∀ (j:Nat) (e':FactH),sp[j]? = some e'→j≠k→((ancs l).getD j []).contains k=true → ∀ d,e'.d=some d→a.eval (.tmp d)=a0.eval (.tmp d)
def ObO (P:Program) (Q:Exit→Act→World→Prop) (N:Nat) (a0:Act) (ds:List Nat) (G:Nat→World→Prop) (T:Nat→Nat→Act→World→World→Prop) (U:Nat→World→World→Prop) (sp:List FactH) (l:List Oper) (k:Nat) (o:Oper) (e:FactH):Prop:=
 match e.mv with
 | []=>∀ s,s∈e.st → ∀ a w,GrD N a0 ds a→G s w→DepH sp e s a w→OldH sp l k a0 a → ∀ K:Act→World→Prop,(∀ v w',U s w w'→e.R s a v w'→K (a.put e.d v) w')→o.wp P a w K Q
 | _ :: _=>∀ s s',(s,s')∈e.mv → ∀ a w,GrD N a0 ds a→G s w→DepH sp e s a w→OldH sp l k a0 a → ∀ K:Act→World→Prop,(∀ v w',T s s' a w w'→G s' w'→e.R s' a v w'→K (a.put e.d v) w')→o.wp P a w K Q
def ObsO (P:Program) (Q:Exit→Act→World→Prop) (N:Nat) (a0:Act) (ds:List Nat) (G:Nat→World→Prop) (T:Nat→Nat→Act→World→World→Prop) (U:Nat→World→World→Prop) (sp:List FactH) (l:List Oper):Nat→List Oper→List FactH→Prop
 | k,o :: os,e :: es=>ObO P Q N a0 ds G T U sp l k o e∧ObsO P Q N a0 ds G T U sp l (k+1) os es
 | _,[],[]=>True
 | _,_,_=>False
theorem ObsO.get {N:Nat} {a0:Act} {ds:List Nat} {G:Nat→World→Prop} {T:Nat→Nat→Act→World→World→Prop} {U:Nat→World→World→Prop} {sp:List FactH} {l:List Oper}:∀ (os:List Oper) (es:List FactH) (k:Nat),ObsO P Q N a0 ds G T U sp l k os es → ∀ (j:Nat) (o:Oper),os[j]? = some o →
 ∃ e:FactH,es[j]? = some e∧ObO P Q N a0 ds G T U sp l (k+j) o e
 | o' :: os,e' :: es,k,h,0,o,ho=>by simp at ho;subst ho;exact ⟨e',rfl,h.1⟩
 | o' :: os,e' :: es,k,h,j+1,o,ho=>by
   obtain ⟨e,h1,h2⟩:=ObsO.get os es (k+1) h.2 j o (by simpa using ho);exact ⟨e,by simpa using h1,by rw [show k+(j+1)=k+1+j by omega];exact h2⟩
 | [],[],_,_,j,o,ho=>by simp at ho
 | _ :: _,[],_,h,_,_,_=>by simp [ObsO] at h
 | [],_ :: _,_,h,_,_,_=>by simp [ObsO] at h
structure InvO (N M:Nat) (a0:Act) (G:Nat→World→Prop) (sp:List FactH) (l:List Oper) (D:Nat→Bool) (a:Act) (w:World) (s:Nat):Prop where
 g:GrD N a0 (dsH sp) a
 hG:G s w
 hM:s≤M
 cl:closedD l D
 mem:∀ (i:Nat) (e:FactH),sp[i]? = some e→e.mv.isEmpty=false→(D i=true ↔ s∈e.aft)
 f:∀ (j:Nat) (e:FactH),sp[j]? = some e→D j=true → ∀ d,e.d=some d→e.R s a (a.eval (.tmp d)) w
 old:∀ (j:Nat) (e:FactH),sp[j]? = some e→D j=false → ∀ d,e.d=some d→a.eval (.tmp d)=a0.eval (.tmp d)
theorem wp_region_dagO {id:Nat} {a0:Act} {w0:World} {l:List Oper} (hm:P.follows .mixedOrders=true) (hB:edgesBack l=true) (N M:Nat) (sp:List FactH) (G:Nat→World→Prop) (T:Nat→Nat→Act→World→World→Prop) (U:Nat→World→World→Prop)
 (hGU:∀ s w w',G s w→U s w w'→G s w') (hRU:∀ e∈sp,∀ s a v w w',U s w w'→e.R s a v w→e.R s a v w')
 (hput:∀ e∈sp,∀ s a d u v w,d ∉ e.dep→e.R s a v w→e.R s (a.put (some d) u) v w)
 (ds:List Nat) (hds:dsH sp=ds) (hok:dagOk N M (sp.map FactH.row) l=true) (hN:a0.tmps.size=N)
 (h0:G 0 w0.drew)
 (hkeep:∀ e∈sp,∀ s s' a v w w',(∀ d,e.d=some d→v=a.eval (.tmp d))→(e.mv.isEmpty=false→s∈e.aft)→T s s' a w w'→e.R s a v w→e.R s' a v w')
 (hs:ObsO P Q N a0 ds G T U sp l 0 l sp)
 (hend:∀ (f:Nat→Value) w,G M w→(∀ e∈sp,∀ d,e.d=some d→e.R M (fillF a0 ds f) (f d) w)→Q .normal (fillF a0 ds f) w):(Code.region id l.toArray true).wp P Q a0 w0:=by
 subst hds;unfold dagOk at hok;simp only [Bool.and_eq_true,List.all_eq_true,decide_eq_true_eq,List.length_map,List.mem_range] at hok;obtain ⟨⟨⟨⟨h4,hgd⟩,hzip⟩,hks⟩,hfin⟩:=hok;have hself:∀ (D:Nat→Bool) (i:Nat),seen D i i=true:=fun D i=>by simp [seen]
 have hoth:∀ (D:Nat→Bool) (i j:Nat),j≠i→seen D i j=D j:=fun D i j h=>by simp [seen,h]
 have hdst:∀ (i:Nat) (e:FactH) (o:Oper),sp[i]? = some e→l[i]? = some o→e.d=o.dst:=fun i e o he ho=>by
  have:=hzip (e.row,o) (by
   refine List.mem_of_getElem? (i:=i) ?_;rw [List.getElem?_zip_eq_some];exact ⟨by rw [List.getElem?_map,he];rfl,ho⟩)
  simpa [FactH.row] using this
 have hrow:∀ (i:Nat) (e:FactH),sp[i]? = some e →
  (∀ d,e.d=some d→d<N ∧ ∀ (j:Nat) (e':FactH),sp[j]? = some e'→i≠j→e'.d≠some d) ∧
  (∀ s,s≤M→s∈e.st ∨ ∃ (j:Nat) (e':FactH),sp[j]? = some e'∧e'.mv.isEmpty=false∧((i≠j∧j∈(ancs l).getD i []∧s ∉ e'.aft)∨(i∈(ancs l).getD j []∧s∈e'.aft))) ∧
  (∀ m∈e.mv,m.2≤M∧m.2∈e.aft ∧ ∀ (j:Nat) (e':FactH),sp[j]? = some e'→i≠j→e'.mv.isEmpty=false→(m.2∈e'.aft ↔ m.1∈e'.aft)) ∧
  (e.mv.isEmpty=false→0 ∉ e.aft ∧ ∀ s∈e.st,∃ m∈e.mv,m.1=s) ∧
  (∀ j∈e.an,j≠i∧j∈(ancs l).getD i []) ∧
  (∀ d∈e.dep,∃ j∈e.an,∃ e':FactH,sp[j]? = some e'∧e'.d=some d):=fun i e he=>by
  have hi:=(List.getElem?_eq_some_iff.1 he).1;have h:=hks i hi;rw [List.getElem?_map,he] at h;simp only [Option.map_some] at h;unfold dagRow at h;simp only [Bool.and_eq_true,Bool.or_eq_true,List.all_eq_true,List.length_map,List.mem_range] at h;obtain ⟨⟨⟨⟨⟨g1,g2⟩,g3⟩,g4⟩,g7⟩,g8⟩:=h;refine ⟨fun d hd=>?_,fun s hs=>?_,fun m hm'=>?_,fun hmm=>?_,fun j hj=>?_,fun d hd=>?_⟩
  ·rw [show (e.row).d=some d from hd] at g1;simp only [Bool.and_eq_true,decide_eq_true_eq,List.all_eq_true,List.mem_range] at g1;refine ⟨g1.1,fun j e' he' hij hd'=>?_⟩;have:=g1.2 j (List.getElem?_eq_some_iff.1 he').1;rw [List.getElem?_map,he'] at this;simp [FactH.row,hd',hij] at this
  ·rcases g2 s (by omega) with g|g
   ·exact .inl (by simpa [FactH.row] using g)
   ·rw [List.any_eq_true] at g;obtain ⟨j,hj,g⟩:=g;rw [List.mem_range] at hj;rw [List.getElem?_map,List.getElem?_eq_getElem hj] at g;simp only [Option.map_some,FactH.row,Bool.and_eq_true,Bool.or_eq_true,Bool.not_eq_true',bne_iff_ne,List.contains_iff_mem] at g;refine .inr ⟨j,sp[j],List.getElem?_eq_getElem hj,g.1,?_⟩;rcases g.2 with ⟨⟨a1,a2⟩,a3⟩|⟨a1,a2⟩
    ·exact .inl ⟨a1,a2,fun h=>by rw [List.contains_iff_mem.2 h] at a3;cases a3⟩
    ·exact .inr ⟨a1,a2⟩
  ·have:=g3 m hm';simp only [decide_eq_true_eq,FactH.row,List.contains_iff_mem] at this;refine ⟨this.1.1,this.1.2,fun j e' he' hij hm2=>?_⟩;have h3:=this.2 j (List.getElem?_eq_some_iff.1 he').1;rw [List.getElem?_map,he'] at h3;simp only [Option.map_some,Bool.or_eq_true,beq_iff_eq] at h3;rcases h3 with h3|h3|h3
   ·exact absurd h3 hij
   ·rw [show e'.row.mv=e'.mv from rfl,hm2] at h3;cases h3
   ·rw [← List.contains_iff_mem,← List.contains_iff_mem,show e'.aft=e'.row.aft from rfl,h3]
  ·rcases g4 with g4|g4
   ·rw [show (e.row).mv=e.mv from rfl,hmm] at g4;cases g4
   ·obtain ⟨g4,g5⟩:=g4;refine ⟨fun h=>(by rw [show e.row.aft=e.aft from rfl,List.contains_iff_mem.2 h] at g4;cases g4),fun s hs=>?_⟩;have g6:=g5 s hs;rw [List.any_eq_true] at g6;obtain ⟨m,h1,h2⟩:=g6;exact ⟨m,h1,by simpa using h2⟩
  ·have:=g7 j hj;simp only [bne_iff_ne,List.contains_iff_mem] at this;exact this
  ·have:=g8 d hd;rw [List.any_eq_true] at this;obtain ⟨j,hj,g⟩:=this;cases hj':sp[j]? with
   | none=>rw [List.getElem?_map,hj'] at g;cases g
   | some e'=>
     rw [List.getElem?_map,hj'] at g;simp only [Option.map_some,beq_iff_eq] at g;exact ⟨j,hj,e',hj',g⟩
 have hanc:∀ (D:Nat→Bool),closedD l D → ∀ i j,D i=true→j∈(ancs l).getD i []→D j=true:=fun D hc i j hi hj=>by
  rw [List.getD_eq_getElem?_getD] at hj;cases e:(ancs l)[i]? with
  | none=>rw [e] at hj;simp at hj
  | some m=>rw [e] at hj;exact ancs_ok hc i m e hi j (by simpa using hj)
 refine wp_region_inv hm hB (fun D a w=>∃ s,InvO N M a0 G sp l D a w s) ⟨0,⟨hN,rfl,fun _ _=>rfl⟩,h0,Nat.zero_le _,fun _ _ _ h=>(by cases h),fun i e he hm'=>⟨fun h=>(by cases h),fun h=>absurd h ((hrow i e he).2.2.2.1 hm').1⟩,fun _ _ _ h=>(by cases h),fun _ _ _ _ _ _=>rfl⟩ ?_ (fun D a w hI hall=>?_)
 ·suffices ∀ (l':List Oper) (k:Nat),(∀ (j:Nat) (o:Oper),l'[j]? = some o→l[k+j]? = some o)→Steps1 P l.toArray Q (fun D a w=>∃ s,InvO N M a0 G sp l D a w s) l' k from this l 0 (fun j o h=>by simpa using h)
  intro l'
  induction l' with
  | nil=>intro k _;trivial
  | cons o l' ih=>
    intro k hk;refine ⟨?_,ih (k+1) (fun j o' h=>by have:=hk (j+1) o' (by simpa using h);rw [show k+1+j=k+(j+1) by omega];exact this)⟩;rintro D a w ⟨s,hI⟩ hD hdep K hK;have hko:l[k]? = some o:=by simpa using hk 0 o rfl
    obtain ⟨e,he,hob⟩:=ObsO.get l sp 0 hs k o hko;rw [Nat.zero_add] at hob;have hgo:o.guard=none:=by have:=hgd o (List.mem_of_getElem? hko);simpa using this
    rw [if_pos (by simp [Region.wanted,hgo])];obtain ⟨hd1,hlo,hmv,hmm,han,hdep'⟩:=hrow k e he;have hmem:e∈sp:=List.mem_of_getElem? he
    -- whatever stands ahead of k has come up
    have hup:∀ j∈(ancs l).getD k [],j≠k→D j=true:=fun j hj hjk=>by
     have hcl':closedD l (seen D k):=fun i o' ho' hi x hx hb=>by
      by_cases hik:i=k
      ·subst hik;rw [hko] at ho';cases ho';have:=hdep x hx hb;by_cases hxk:x.on=i
       ·rw [hxk];exact hself _ _
       ·rw [hoth _ _ _ hxk];exact this
      ·rw [hoth _ _ _ hik] at hi;have:=hI.cl i o' ho' hi x hx hb;by_cases hxk:x.on=k
       ·rw [hxk];exact hself _ _
       ·rw [hoth _ _ _ hxk];exact this
     have:=hanc _ hcl' k j (hself _ _) hj
     rwa [hoth _ _ _ hjk] at this
    have hcl:closedD l (seen D k):=fun i o' ho' hi x hx hb=>by
     by_cases hxk:x.on=k
     ·rw [hxk];exact hself _ _
     ·rw [hoth _ _ _ hxk];by_cases hik:i=k
      ·subst hik;rw [hko] at ho';cases ho';exact hdep x hx hb
      ·rw [hoth _ _ _ hik] at hi;exact hI.cl i o' ho' hi x hx hb
    have hst:s∈e.st:=by
     rcases hlo s hI.hM with h|⟨j,e',he',hm',⟨h1,h2,h3⟩|⟨h1,h2⟩⟩
     ·exact h
     ·exact absurd ((hI.mem j e' he' hm').1 (hup j h2 (fun h=>h1 h.symm))) h3
     ·have:=hanc _ hI.cl j k ((hI.mem j e' he' hm').2 h2) h1;rw [hD] at this;cases this
    have hdp:DepH sp e s a w:=fun j hj e' he' d hd=>hI.f _ _ he' (hup j (han j hj).2 (han j hj).1) d hd
    have hold:OldH sp l k a0 a:=fun j e' he' hjk hc d hd=>by
     refine hI.old j e' he' ?_ d hd;cases hDj:D j with
     | false=>rfl
     | true=>
       have:=hanc _ hI.cl j k hDj (List.contains_iff_mem.1 hc);rw [hD] at this;cases this
    have hnew:∀ (v:Value) (j:Nat) (e':FactH),sp[j]? = some e'→seen D k j=false → ∀ d,e'.d=some d→(a.put e.d v).eval (.tmp d)=a0.eval (.tmp d):=fun v j e' he' hj d hd=>by
     have hjk:j≠k:=fun h=>by rw [h,hself] at hj;cases hj
     rw [hoth _ _ _ hjk] at hj;cases hde:e.d with
     | none=>exact hI.old j e' he' hj d hd
     | some d2=>
       rw [act_ne (fun h=>(hd1 d2 hde).2 j e' he' (fun h2=>hjk h2.symm) (by rw [hd,h]))];exact hI.old j e' he' hj d hd
    have hnd:∀ (j:Nat) (e':FactH),sp[j]? = some e'→seen D k j=true → ∀ d,e.d=some d→d ∉ e'.dep:=fun j e' he' hj d hd hm'=>by
     obtain ⟨_,_,_,_,han',hde'⟩:=hrow j e' he';obtain ⟨i,hi,e2,he2,hd2⟩:=hde' d hm';obtain ⟨h1,h2⟩:=han' i hi;have hik:i=k:=Classical.byContradiction fun hne=>(hd1 d hd).2 i e2 he2 (fun h=>hne h.symm) hd2
     subst hik;have hji:j≠i:=fun h=>h1 h.symm
     rw [hoth _ _ _ hji] at hj;have:=hanc _ hI.cl j i hj h2;rw [hD] at this;cases this
    have hputg:∀ (v:Value),GrD N a0 (dsH sp) (a.put e.d v):=fun v=>by
     refine ⟨by rw [act_size];exact hI.g.sz,by rw [act_defers];exact hI.g.df,fun t ht=>?_⟩;cases hd:e.d with
     | none=>exact hI.g.kp t ht
     | some d=>rw [act_ne (fun h=>ht (by rw [h];exact List.mem_filterMap.2 ⟨e,hmem,hd⟩))];exact hI.g.kp t ht
    have hslot:∀ (v:Value) (s':Nat) (w':World),(e.R s' a v w')→(∀ (j:Nat) (e':FactH),sp[j]? = some e'→D j=true → ∀ d,e'.d=some d→e'.R s' a (a.eval (.tmp d)) w') →
     ∀ (j:Nat) (e':FactH),sp[j]? = some e'→seen D k j=true → ∀ d,e'.d=some d→e'.R s' (a.put e.d v) ((a.put e.d v).eval (.tmp d)) w':=fun v s' w' hv hf j e' he' hj d hd=>by
     have hpt:∀ u,e'.R s' a u w'→e'.R s' (a.put e.d v) u w':=fun u hu=>by
      cases hde:e.d with
      | none=>exact hu
      | some d2=>exact hput e' (List.mem_of_getElem? he') s' a d2 v u w' (hnd j e' he' hj d2 hde) hu
     by_cases hjk:j=k
     ·subst hjk;rw [he] at he';cases he';refine hpt _ ?_;rw [hd,act_same (by rw [hI.g.sz];exact (hd1 d hd).1)];exact hv
     ·refine hpt _ ?_;rw [hoth _ _ _ hjk] at hj;cases hde:e.d with
      | none=>exact hf j e' he' hj d hd
      | some d2=>
        rw [act_ne (fun h=>(hd1 d2 hde).2 j e' he' (fun h2=>hjk h2.symm) (by rw [hd,h]))];exact hf j e' he' hj d hd
    have hdo:e.d=o.dst:=hdst k e o he hko;unfold ObO at hob;cases hem:e.mv with
    | nil=>
      rw [hem] at hob;refine hob s hst a w hI.g hI.hG hdp hold K (fun v w' hu hv=>hK _ _ ⟨s,hputg v,hGU s w w' hI.hG hu,hI.hM,hcl,fun i e' he' hm'=>?_,hslot v s w' hv (fun j e' he' hj d hd=>hRU e' (List.mem_of_getElem? he') s a _ w w' hu (hI.f j e' he' hj d hd)),hnew v⟩);have hik:i≠k:=fun h=>by subst h;rw [he] at he';cases he';rw [hem] at hm';cases hm'
      rw [hoth _ _ _ hik];exact hI.mem i e' he' hm'
    | cons m0 ms=>
      have hem':e.mv.isEmpty=false:=by rw [hem];rfl
      rw [hem] at hob;obtain ⟨m,hmm1,hmm2⟩:=(hmm hem').2 s hst;obtain ⟨s1,s'⟩:=m;dsimp only at hmm2;subst hmm2;obtain ⟨q1,q2,q3⟩:=hmv _ hmm1;dsimp only at q1 q2 q3;refine hob s1 s' (by rw [← hem];exact hmm1) a w hI.g hI.hG hdp hold K (fun v w' ht hg' hv=>hK _ _ ⟨s',hputg v,hg',q1,hcl,fun i e' he' hm'=>?_,hslot v _ w' hv (fun j e' he' hj d hd=>hkeep e' (List.mem_of_getElem? he') _ _ a _ w w' (fun d' hd'=>by rw [hd] at hd';cases hd';rfl) (fun hm'=>(hI.mem j e' he' hm').1 hj) ht (hI.f j e' he' hj d hd)),hnew v⟩);by_cases hik:i=k
      ·subst hik;rw [he] at he';cases he';exact ⟨fun _=>q2,fun _=>hself _ _⟩
      ·rw [hoth _ _ _ hik,hI.mem i e' he' hm'];exact (q3 i e' he' (fun h=>hik h.symm) hm').symm
 ·obtain ⟨s,hI⟩:=hI;have hsM:s=M∨s<M:=by have:=hI.hM;omega
  have hsM:s=M:=by
   rcases hsM with h|h
   ·exact h
   ·exfalso;have:=hfin s h;rw [List.any_eq_true] at this;obtain ⟨j,hj,g⟩:=this;rw [List.mem_range] at hj;rw [List.getElem?_map,List.getElem?_eq_getElem hj] at g;simp only [Option.map_some,FactH.row,Bool.and_eq_true,Bool.not_eq_true'] at g;have h1:=(hI.mem j sp[j] (List.getElem?_eq_getElem hj) g.1).1 (hall j (by omega));rw [List.contains_iff_mem.2 h1] at g;cases g.2
  subst hsM;have hfill:a=fillF a0 (dsH sp) (fun d=>a.eval (.tmp d)):=by
   refine act_ext (by rw [fillF_size,hN];exact hI.g.sz) (by rw [fillF_defers];exact hI.g.df) (fun t ht=>?_);rw [fillF_eval _ _ a0 t (by rw [hN,← hI.g.sz];exact ht)];by_cases h1:t∈dsH sp
   ·simp [h1]
   ·simp [h1,hI.g.kp t h1]
  rw [hfill];refine hend _ w hI.hG (fun e he d hd=>?_);rw [← hfill];obtain ⟨j,hj⟩:=List.mem_iff_getElem?.1 he;exact hI.f j e hj (hall j (by have:=(List.getElem?_eq_some_iff.1 hj).1;omega)) d hd
end
end Go.Proofs.YtacinobmcgcccaaGreatDoor
