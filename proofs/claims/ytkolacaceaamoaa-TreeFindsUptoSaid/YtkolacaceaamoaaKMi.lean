/- The tree: cut (kids). -/
import Derived.Test.YtkolacaceaamoaaKMh
set_option linter.unusedSimpArgs false
set_option linter.unusedVariables false
namespace Go.Proofs.Ytkolacaceaamoaa
open Go.RowKit
abbrev TKds:TypeId:=75
theorem tkds_inf:∃ i,Try.prog.info? TKds = some i ∧ i.zero = some (.slice none 0 0) ∧ i.size = 1 ∧ i.bytes = 24:=by
 have h:(Try.prog.info? TKds).map (fun i=>(i.zero,i.size,i.bytes)) = some (some (.slice none 0 0),1,24):=by kernel_rfl
 cases hi:Try.prog.info? TKds with
 | none=>rw [hi] at h; cases h
 | some i=>rw [hi] at h; simp only [Option.map_some,Option.some.injEq,Prod.mk.injEq] at h; exact ⟨i,rfl,h.1,h.2.1,h.2.2⟩
theorem kdOk.sz {x:Kd} (h:kdOk x):szK x ≤ 37:=by
 obtain ⟨_,h2,_⟩:=h
 unfold szK
 omega
/-- What a place of a row of kids holds. -/
theorem SLk.at_kd {w:World} {F:Nat → Prop} {A:Option Addr} {n c:Nat} {is:List Kd} (h:SLk 2 KdR w F (.slice A n c) is) {j:Nat} (hj:j < is.length) :
  ∃ b o A0 c0,A = some ⟨b,o,none⟩ ∧ b < w.heap.size ∧ F b ∧ w.cell? ⟨b,o + j * 2,none⟩ = some (.slice A0 is[j].k.length c0) ∧ w.cell? ⟨b,o + j * 2 + 1,none⟩ = some (.int .i64 (is[j].p:Int)) ∧ KdR w F is[j] [.slice A0 is[j].k.length c0,.int .i64 (is[j].p:Int)]:=by
 obtain ⟨A',c',xs,e,hc,hr,hl⟩:=h
 injection e with e1 e2 e3
 subst e1 e2 e3
 obtain ⟨ad,rfl,hb,hcell⟩:=hr.2 (by omega)
 obtain ⟨cs,hit,hcs⟩:=LR.at_ (k:=2) (fun a cs h=>h.two) is xs hl j hj
 obtain ⟨a0,rfl,hk⟩:=hit
 have q0:=hcell (j * 2 + 0) _ (hcs 0 (by omega))
 have q1:=hcell (j * 2 + 1) _ (hcs 1 (by omega))
 have hlt:=cell_in q0
 rw [block_of_add] at hlt
 have hs:ad.spot = none:=by
  have h0:=spot_none q0
  unfold Addr.add at h0
  split at h0
  ·exact h0
  ·have h2:=spot_none q1
   have hz:ad.add 0 = ad:=by unfold Addr.add; rw [if_pos rfl]
   obtain ⟨cs',hit',hcs'⟩:=LR.at_ (k:=2) (fun a cs h=>h.two) is xs hl 0 (by omega)
   obtain ⟨b0,rfl,_⟩:=hit'
   have q3:=spot_none (hcell (0 * 2 + 0) _ (hcs' 0 (by omega)))
   rw [show 0 * 2 + 0 = 0 from rfl,hz] at q3
   exact q3
 obtain ⟨b,o,sp⟩:=ad
 cases hs
 have hadd:∀ j,(⟨b,o,none⟩:Addr).add j = ⟨b,o + j,none⟩:=fun j=>(add_plain ⟨b,o,none⟩ j rfl).symm
 obtain ⟨A0,c0,rfl,hc0,hr0⟩:=hk
 rw [hadd] at q0 q1
 exact ⟨b,o,A0,c0,rfl,hlt,hb,by simpa using q0,by rw [Nat.add_assoc]; exact q1,_,rfl,⟨A0,c0,rfl,hc0,hr0⟩⟩
def CutK (w:World) (F:Nat → Prop) (wr:World) (Ao:Option Addr) (no co:Nat) (d:List (List Kd)) (cur:List Kd):Prop:=
 (cur = [] ∧ d = [] ∧ no = 0 ∧ Ao = none ∧ co = 0) ∨ (cur ≠ [] ∧ no = d.length + 1 ∧ ∃ vd vl,CutM KdR TKd TKds w F wr (.slice Ao no co) vd vl d cur)
set_option maxRecDepth 100000 in
set_option maxHeartbeats 8000000 in
theorem cut_kids {w:World} {F:Nat → Prop} {vl:Value} {is:List Kd} (h1:SLk 2 KdR w F vl is) (hok:∀ x ∈ is,kdOk x) (hlen:is.length ≤ 1000000000) :
  Calls Try.prog 57 #[vl,.func (.func 58) #[] #[]] w fun e w'=>∃ vo,e = .returned vo ∧ PartsR KdR TKd TKds w F w' vo (cutF szK is) ∧ Below w.heap.size w w':=by
 obtain ⟨i0,hi0,hz0,hz1,hz2⟩:=tkd_inf
 obtain ⟨i1,hi1,hy0,hy1,hy2⟩:=tkds_inf
 have HI0:=hide hi0
 have HZ0:=hide hz0
 have HI1:=hide hi1
 have HZ1:=hide hy0
 have H1:=hide h1
 have HOK:=hide hok
 obtain ⟨A1,c1,xs1,rfl,hc1,_⟩:=h1
 clear hi0 hz0 hok hi1 hy0
 obtain ⟨q,hq⟩:∃ q,is.length = q:=⟨_,rfl⟩
 have HQ:=hide hq
 rw [hq] at H1 hlen hc1 ⊢
 clear hq
 go_enter Try.func57,Try.ntmps57
 go_wp2_with fail
 go_loopw [6,18] (fun va vi wr=>∃ (j s:Nat),va = .int .i64 (s:Int) ∧ vi = .int .i64 (j:Int) ∧ j ≤ q ∧ s ≤ 1 + 37 * j ∧ Hid (1 + sumZ szK (is.take j) = s) ∧ Hid (Below w.heap.size w wr)) (fun va vi _=>q - (intOf vi).toNat)
 case atStart=>exact ⟨0,1,rfl,rfl,by omega,by omega,hide rfl,hide (Below.refl _ _)⟩
 case round=>
  obtain ⟨j,s,rfl,rfl,hjq,hs,HS,HB⟩:=hrel
  by_cases hlt:j < q
  ·have hj':j < is.length:=by rw [HQ.out]; exact hlt
   obtain ⟨b,o,A0,c0,rfl,hb,hF,k0,k1,hit⟩:=H1.out.at_kd hj'
   have k0:=(HB.out.cell (p:=⟨b,o + j * 2,none⟩) hb).trans k0
   have k1:=(HB.out.cell (p:=⟨b,o + j * 2 + 1,none⟩) hb).trans k1
   have zz:=Nat.lt_of_lt_of_le hb HB.out.size
   have hx:=HOK.out is[j] (List.getElem_mem hj')
   have hTK:=List.take_succ_eq_append_getElem hj'
   have hST:=sumZ_take szK hj'
   obtain ⟨y,hy⟩:∃ y,is[j] = y:=⟨_,rfl⟩
   rw [hy] at k0 k1 hx hTK hit hST
   have HTK:=hide hTK
   have HST:=hide hST
   clear hy hTK hST
   obtain ⟨kl,hkl⟩:∃ kl,y.k.length = kl:=⟨_,rfl⟩
   obtain ⟨pp,hvl⟩:∃ pp,y.p = pp:=⟨_,rfl⟩
   have hk2:kl ≤ 32:=hkl ▸ hx.2.1
   have HSZ:=hide (show szK y = 5 + kl from by unfold szK; rw [hkl])
   rw [hkl] at k0 hit
   rw [hvl] at k1 hit
   have HIT:=hide hit
   clear hkl hvl hx hit
   have hjm:j + 1 ≤ 9223372036854775807:=by omega
   go_wp2_with (go_at_call 58; (refine (sizeKid_any (by omega)).mono ?_); rintro e w5 ⟨rfl,hb5⟩; have HB5:=hide (HB.out.trans ((al_below wr _).trans (hb5.mono (al_below wr _).size) |>.mono HB.out.size)); clear hb5 k0 k1 zz)
   refine ⟨⟨j + 1,s + (5 + kl),by push_cast; rfl,by push_cast; rfl,by omega,by omega,hide (by rw [HST.out,← HS.out,HSZ.out]; omega),HB5⟩,?_⟩
   simp [intOf]
   omega
  ·obtain rfl:q = j:=by omega
   have HS0:=hide (show 1 + sumZ szK is = s from by have:=HS.out; rwa [← HQ.out,List.take_length] at this)
   obtain ⟨sh,hsh⟩:∃ sh,shareOf s = sh:=⟨_,rfl⟩
   have hse:=share_eq (s:=s) (by omega)
   rw [hsh] at hse
   have HSH:=hide hsh
   clear hsh
   go_upto_region 10 with fail
   rw [hse]
   clear hse
   go_wp2_with fail
   have HBr:=HB
   clear HB HS
   go_loopw [5,11,39] (fun vo vn vi wr=>∃ (j s no co:Nat) (Ao:Option Addr) (d:List (List Kd)) (cur:List Kd),vo = .slice Ao no co ∧ vn = .int .i64 (s:Int) ∧ vi = .int .i64 (j:Int) ∧ j ≤ q ∧ s ≤ 37 * j ∧ no ≤ j ∧ Hid (sumZ szK cur = s) ∧ Hid ((is.take j).foldl (cutStep szK sh) ([],[]) = (d,cur)) ∧ Hid (Below w.heap.size w wr) ∧ Hid (CutK w F wr Ao no co d cur) ∧ Hid (cur.length ≤ j)) (fun _ _ vi _=>q - (intOf vi).toNat)
   case atStart=>exact ⟨0,0,0,0,none,[],[],rfl,rfl,rfl,by omega,by omega,by omega,hide rfl,hide rfl,HBr,hide (.inl ⟨rfl,rfl,rfl,rfl,rfl⟩),hide (by simp)⟩
   case round=>
    clear HBr
    obtain ⟨j,s2,no,co,Ao,d,cur,rfl,rfl,rfl,hjq,hs2,hno,HS,HFo,HB,HC,HL⟩:=hrel
    by_cases hlt:j < q
    ·have hj':j < is.length:=by rw [HQ.out]; exact hlt
     obtain ⟨b,o,A0,c0,rfl,hb,hF,k0,k1,hit⟩:=H1.out.at_kd hj'
     have k0:=(HB.out.cell (p:=⟨b,o + j * 2,none⟩) hb).trans k0
     have k1:=(HB.out.cell (p:=⟨b,o + j * 2 + 1,none⟩) hb).trans k1
     have zz:=Nat.lt_of_lt_of_le hb HB.out.size
     have hx:=HOK.out is[j] (List.getElem_mem hj')
     have hTK:=List.take_succ_eq_append_getElem hj'
     have hST:=sumZ_take szK hj'
     obtain ⟨y,hy⟩:∃ y,is[j] = y:=⟨_,rfl⟩
     rw [hy] at k0 k1 hx hTK hit hST
     have HTK:=hide hTK
     have HST:=hide hST
     clear hy hTK hST
     obtain ⟨kl,hkl⟩:∃ kl,y.k.length = kl:=⟨_,rfl⟩
     obtain ⟨pp,hvl⟩:∃ pp,y.p = pp:=⟨_,rfl⟩
     have hk2:kl ≤ 32:=hkl ▸ hx.2.1
     have HSZ:=hide (show szK y = 5 + kl from by unfold szK; rw [hkl])
     rw [hkl] at k0 hit
     rw [hvl] at k1 hit
     have HIT:=hide hit
     clear hkl hvl hx hit
     have hjm:j + 1 ≤ 9223372036854775807:=by omega
     have HFN:=hide (show (is.take (j + 1)).foldl (cutStep szK sh) ([],[]) = cutStep szK sh (d,cur) y from by rw [HTK.out,List.foldl_append,HFo.out]; rfl)
     go_upto_region 14 with fail
     obtain ⟨w4,hw4⟩:∃ w4,wr.alloc (.cells #[.slice A0 kl c0,.int .i64 (pp:Int)] TKd) = w4:=⟨_,rfl⟩
     obtain ⟨xb,hxb⟩:∃ xb,wr.heap.size = xb:=⟨_,rfl⟩
     have HB4:=hide (show Below wr.heap.size wr w4 from hw4 ▸ al_below wr _)
     have HX4:=hide (show Blk w4 xb TKd #[.slice A0 kl c0,.int .i64 (pp:Int)] from hxb ▸ hw4 ▸ Blk.new _ _ _)
     rw [hw4,hxb]
     clear hw4 hxb k0 k1 zz
     have kx:=HX4.out.cell; have fx:=HX4.out.frozen; have zx:=HX4.out.lt
     go_upto_region 16 with (go_at_call 58; (refine (sizeKid_any (by omega)).mono ?_); rintro e w5 ⟨rfl,hb5⟩; have HB5:=hide (HB.out.trans ((HB4.out.trans (hb5.mono HB4.out.size)).mono HB.out.size)); have HBr5:=hide (HB4.out.trans (hb5.mono HB4.out.size)); have HX5:=hide (HX4.out.below hb5 HX4.out.lt); clear hb5 kx fx zx)
     have hsz:5 + kl ≤ 37:=by omega
     have HC5:=hide (show CutK w F w5 Ao no co d cur from HC.out.imp id (fun ⟨h1,h2,vd,vl,h3⟩=>⟨h1,h2,vd,vl,h3.below HBr5.out⟩))
     rcases HC5.out with ⟨e1,e2,e3,e4,e5⟩ | ⟨hc0,hno2,vd,vl,hM⟩
     ·have HRow:=hide (show w5.ownsRow w.heap.size TKds 1 (.slice Ao no co) no [] from by rw [e3,e4,e5]; exact World.ownsRow_nil _ _ _ _)
      have hz:((no:Int) == 0) = true:=by rw [e3]; rfl
      have HE:=hide (And.intro e1 (And.intro e2 e3))
      clear e1 e2 e3 e4 e5
      go_upto_region 18 with (at_builtin; refine wpList_append_any _ rfl (.tmp 62) (.tmp 63) _ rfl w.heap.size TKds i1 _ 1 24 Try.underlying127 HI1.out HZ1.out hy1 hy2 rfl (by omega) (.slice Ao no co) no [] rfl (own_later HRow.out (al_below w5 _)) _ (some ⟨w5.heap.size,0,none⟩) 1 1 [.slice none 0 0] rfl (reads_blk (Blk.new w5 TKds _) rfl rfl) (by intro u hu; simp at hu; subst hu; rfl) (by unfold maxLen; omega) (by omega) (Nat.le_trans HB5.out.size (al_below w5 _).size) ?_; intro v' w7 ho hgb hoo; (obtain ⟨A6,c6,rfl,hc6⟩:=own_slice ho); have HO6:=hide ho; have HG6:=hide hgb; clear ho hgb hoo)
      obtain ⟨go,rfl,hgo1,hgo2,hgo3⟩:=own_form HO6.out
      have HX7:=hide (show Blk w7 xb TKd #[.slice A0 kl c0,.int .i64 (pp:Int)] from (HX5.out.alloc _).grown HG6.out (fun e=>own_blk_ne HRow.out HX5.out (by decide) e.symm))
      have HB7:=hide (show Below w.heap.size w w7 from (HB5.out.alloc HB5.out.size _).grown HG6.out (Nat.le_trans HB5.out.size (al_below w5 _).size) (fun k hk=>(HRow.out.lt k hk).1))
      obtain ⟨m,hmn⟩:∃ m,no = m:=⟨_,rfl⟩
      rw [hmn] at HO6 hgo3 hno
      obtain ⟨vdT,vlT,dT,curT,hM,hDm,hStep,hSum,hCl⟩:∃ vdT vlT dT curT,CutM KdR TKd TKds w F w7 (.slice (some ⟨go,0,none⟩) (m + 1) c6) vdT vlT dT curT ∧ dT.length = m ∧ cutStep szK sh (d,cur) y = (dT,curT ++ [y]) ∧ sumZ szK curT = 0 ∧ curT.length ≤ j:=by
       obtain ⟨e1,e2,e3⟩:=HE.out
       have hm0:m = 0:=by omega
       subst hm0
       subst e1 e2
       exact ⟨[],.slice none 0 0,[],[],CutM.first HO6.out,rfl,rfl,rfl,by simp⟩
      have HM:=hide hM; have HDm:=hide hDm; have HStep:=hide hStep; have HSum:=hide hSum; have HCl:=hide hCl
      clear hM hDm hStep hSum hCl
      rw [hmn]
      obtain ⟨xs,hxo,hxl⟩:=HM.out.last
      have HXO:=hide hxo
      have HXL:=hide hxl
      have HML:=hide (show vdT.length = m from by
       have:=HM.out.done
       have:=LR.len (fun a cs h=>PtR.one h) _ _ this
       rw [← HDm.out]
       omega)
      obtain ⟨nl,hnl⟩:∃ nl,curT.length = nl:=⟨_,rfl⟩
      have HNL:=hide hnl.symm
      rw [hnl] at HXO
      have hgo:=HM.out.out.lt go rfl
      have HLst:=hide (show ∀ g,vlT.ownBlock = some g → g ≠ go from fun g hg e=>by subst e; exact own_two hxo HM.out.out (by decide) hg rfl)
      clear hxo hxl hnl
      have HMO:=hide (show w7.ownsRow w.heap.size TKds 1 (.slice (some ⟨go,0,none⟩) (m + 1) c6) (m + 1) (vdT ++ [vlT]) from by
       have:=HM.out.out
       rwa [HDm.out] at this)
      have HGo:=hide (show w7.cell? ⟨go,m,none⟩ = some vlT from by
       have hc:=HMO.out.cellAt (cap:=c6) (g:=go) m (by omega)
       rw [hc,List.getElem?_append_right (by rw [HML.out]; exact Nat.le_refl _),HML.out]
       simp)
      have hmj:m ≤ 1000000000:=by omega
      have hwm:IntKind.i64.wrap (m:Int) = (m:Int):=by simp [IntKind.wrap,IntKind.bits,IntKind.signed]; omega
      have hnlj:nl ≤ j:=by rw [HNL.out]; exact HCl.out
      go_upto_region 19 with fail
      refine wp_region_dag (by kernel_rfl) (by kernel_rfl) 84 2
       [⟨some 65,[0,1,2],[],[],[],[],fun _ _ v _=>v = .slice (some ⟨go,0,none⟩) (m + 1) c6⟩,
        ⟨some 66,[0,1,2],[],[],[],[],fun _ _ v _=>v = .slice (some ⟨go,0,none⟩) (m + 1) c6⟩,
        ⟨some 67,[0,1,2],[],[],[1],[],fun _ _ v _=>v = .int .i64 ((m:Int) + 1)⟩,
        ⟨some 68,[0,1,2],[],[],[2],[],fun _ _ v _=>v = .int .i64 (m:Int)⟩,
        ⟨some 69,[0,1,2],[],[],[],[],fun _ _ v _=>v = .slice (some ⟨go,0,none⟩) (m + 1) c6⟩,
        ⟨some 70,[0,1,2],[],[],[],[],fun _ _ v _=>v = .slice (some ⟨go,0,none⟩) (m + 1) c6⟩,
        ⟨some 71,[0,1,2],[],[],[5],[],fun _ _ v _=>v = .int .i64 ((m:Int) + 1)⟩,
        ⟨some 72,[0,1,2],[],[],[6],[],fun _ _ v _=>v = .int .i64 (m:Int)⟩,
        ⟨some 73,[0,1,2],[],[],[4,7],[],fun _ _ v _=>v = .pointer (some ⟨go,m,none⟩)⟩,
        ⟨some 74,[0],[],[],[8],[],fun _ _ v _=>v = vlT⟩,
        ⟨some 75,[0],[],[],[],[],fun _ _ v _=>v = .agg #[.slice A0 kl c0,.int .i64 (pp:Int)]⟩,
        ⟨some 76,[0],[],[],[10],[],fun st a v w'=>st = 0 → ∃ g,v = .slice (some ⟨g,0,none⟩) 1 1 ∧ Blk w' g TKd #[.slice A0 kl c0,.int .i64 (pp:Int)]⟩,
        ⟨some 77,[0],[(0,1)],[1,2],[9,11],[],fun st a v w'=>R12 TKd w w7 vlT nl (xs ++ [.slice A0 kl c0,.int .i64 (pp:Int)]) st v w'⟩,
        ⟨some 78,[0,1,2],[],[],[0,3],[],fun _ _ v _=>v = .pointer (some ⟨go,m,none⟩)⟩,
        ⟨none,[1],[(1,2)],[2],[12,13],[],fun _ _ _ _=>True⟩] (GC KdR TKd TKds w w7 F go c6 m vdT vlT curT y) (fun s s' _ _ _=>s < s') (fun _ w w'=>Below w.heap.size w w') ?gu ?ru ?put [65,66,67,68,69,70,71,72,73,74,75,76,77,78] rfl (by kernel_rfl) rfl ?g0 ?keep ?steps ?fin
      case ru=>
       intro e he s a v w w' hu hv
       simp only [List.mem_cons,List.not_mem_nil,or_false] at he
       rcases he with rfl | rfl | rfl | rfl | rfl | rfl | rfl | rfl | rfl | rfl | rfl | rfl | rfl | rfl | rfl
       all_goals first | exact hv | (intro h0; obtain ⟨g,e,hb⟩:=hv h0; exact ⟨g,e,hb.below hu hb.lt⟩) | (intro h0; obtain ⟨h1,h2⟩:=hv h0; exact ⟨own_later h1 hu,h2⟩)
      case put=>
       intro e he s a d u v w hnd hv
       simp only [List.mem_cons,List.not_mem_nil,or_false] at he
       rcases he with rfl | rfl | rfl | rfl | rfl | rfl | rfl | rfl | rfl | rfl | rfl | rfl | rfl | rfl | rfl
       all_goals first | exact hv
      case keep=>
       intro e he s s' a v w w' hsl hm ht hv
       simp only [List.mem_cons,List.not_mem_nil,or_false] at he
       rcases he with rfl | rfl | rfl | rfl | rfl | rfl | rfl | rfl | rfl | rfl | rfl | rfl | rfl | rfl | rfl
       all_goals first | exact hv | (intro h3; omega) | (intro h3; have:=hm rfl; simp at this; omega)
      case steps=>
       refine ⟨?_,?_,?_,?_,?_,?_,?_,?_,?_,?_,?_,?_,?_,?_,?_,trivial⟩
       ·intro st hst ac w3 hg hG hd K hK
        dsimp only at hst hG hK
        exact op_move _ rfl (hK _ _ (Below.refl _ _) (hg.kp 5 (by simp)))
       ·intro st hst ac w3 hg hG hd K hK
        dsimp only at hst hG hK
        exact op_move _ rfl (hK _ _ (Below.refl _ _) (hg.kp 5 (by simp)))
       ·intro st hst ac w3 hg hG hd K hK
        dsimp only at hst hG hK
        have f1:=hd 1 (by simp) _ rfl _ rfl
        (try simp [Act.eval] at f1)
        go_simp
        exact hK _ _ (Below.refl _ _) rfl
       ·intro st hst ac w3 hg hG hd K hK
        dsimp only at hst hG hK
        have f2:=hd 2 (by simp) _ rfl _ rfl
        (try simp [Act.eval] at f2)
        go_simp
        exact hK _ _ (Below.refl _ _) rfl
       ·intro st hst ac w3 hg hG hd K hK
        dsimp only at hst hG hK
        exact op_move _ rfl (hK _ _ (Below.refl _ _) (hg.kp 5 (by simp)))
       ·intro st hst ac w3 hg hG hd K hK
        dsimp only at hst hG hK
        exact op_move _ rfl (hK _ _ (Below.refl _ _) (hg.kp 5 (by simp)))
       ·intro st hst ac w3 hg hG hd K hK
        dsimp only at hst hG hK
        have f5:=hd 5 (by simp) _ rfl _ rfl
        (try simp [Act.eval] at f5)
        go_simp
        exact hK _ _ (Below.refl _ _) rfl
       ·intro st hst ac w3 hg hG hd K hK
        dsimp only at hst hG hK
        have f6:=hd 6 (by simp) _ rfl _ rfl
        (try simp [Act.eval] at f6)
        go_simp
        exact hK _ _ (Below.refl _ _) rfl
       ·intro st hst ac w3 hg hG hd K hK
        dsimp only at hst hG hK
        have f4:=hd 4 (by simp) _ rfl _ rfl
        have f7:=hd 7 (by simp) _ rfl _ rfl
        simp [Act.eval] at f4 f7
        go_simp
        rw [if_pos (by omega)]
        go_simp
        exact hK _ _ (Below.refl _ _) rfl
       ·intro st hst ac w3 hg hG hd K hK
        dsimp only at hst hG hK
        simp only [List.mem_cons,List.not_mem_nil,or_false] at hst
        subst hst
        have kk:=(heap_cell (p:=⟨go,m,none⟩) (hG.2.2.1 go hgo.2 (fun q=>by omega) (fun q=>by omega))).trans HGo.out
        have zz:=Nat.lt_of_lt_of_le hgo.2 hG.2.1
        clear hG
        have f8:=hd 8 (by simp) _ rfl _ rfl
        (try simp [Act.eval] at f8)
        go_simp
        exact hK _ _ (Below.refl _ _) rfl
       ·intro st hst ac w3 hg hG hd K hK
        dsimp only at hst hG hK
        simp only [List.mem_cons,List.not_mem_nil,or_false] at hst
        subst hst
        have hX:=HX7.out
        have hX3:Blk w3 xb TKd #[.slice A0 kl c0,.int .i64 (pp:Int)]:=(hG.2.2.1 xb hX.lt (fun q=>by omega) (fun q=>by omega)).trans hX
        have kk:=hX3.cell 0
        have kk1:=hX3.cell 1
        have zz:=hX3.lt
        simp at kk kk1
        clear hG hX hX3
        have k13:=hg.kp 13 (by simp)
        (try simp [Act.eval] at k13)
        go_simp
        exact hK _ _ (Below.refl _ _) rfl
       ·intro st hst ac w3 hg hG hd K hK
        dsimp only at hst hG hK
        have f10:=hd 10 (by simp) _ rfl _ rfl
        simp [Act.eval] at f10
        go_simp
        exact hK _ _ (al_below w3 _) (fun _=>⟨_,rfl,Blk.new _ _ _⟩)
       ·intro st st' hmv ac w3 hg hG hd K hK
        simp only [List.mem_cons,Prod.mk.injEq,List.not_mem_nil,or_false] at hmv
        obtain ⟨rfl,rfl⟩:=hmv
        dsimp only at hG hK
        have f9:=hd 9 (by simp) _ rfl _ rfl
        obtain ⟨gl,f11,hbl⟩:=hd 11 (by simp) _ rfl _ rfl rfl
        refine wp_append_any w3 (.tmp 74) (.tmp 76) 75 rfl w.heap.size TKd i0 _ 2 32 Try.underlying75 HI0.out HZ0.out hz1 hz2 rfl (by omega) vlT nl xs f9 (row_keep HXO.out (fun j hj=>hG.2.2.1 j (HXO.out.lt j hj).2 (fun q=>by omega) (fun q=>by omega))) w3.heap.size (some ⟨gl,0,none⟩) 1 1 [.slice A0 kl c0,.int .i64 (pp:Int)] f11 (reads_blk hbl rfl rfl) (by intro u hu; simp at hu; rcases hu with rfl | rfl <;> rfl) (by unfold maxLen; omega) (by omega) hG.1.size ?_
        intro v' w' ho hgb hoo
        exact hK _ _ (by decide) (hG.appended (v:=v') (fun k hk=>(HXO.out.lt k hk).1) hgb) (fun _=>⟨ho,hoo.imp id (fun e=>⟨_,e,hG.2.1⟩)⟩)
       ·intro st hst ac w3 hg hG hd K hK
        dsimp only at hst hG hK
        have f0:=hd 0 (by simp) _ rfl _ rfl
        have f3:=hd 3 (by simp) _ rfl _ rfl
        simp [Act.eval] at f0 f3
        go_simp
        rw [if_pos (by omega)]
        go_simp
        exact hK _ _ (Below.refl _ _) rfl
       ·intro st st' hmv ac w3 hg hG hd K hK
        simp only [List.mem_cons,Prod.mk.injEq,List.not_mem_nil,or_false] at hmv
        obtain ⟨rfl,rfl⟩:=hmv
        dsimp only at hG hK
        have f13:=hd 13 (by simp) _ rfl _ rfl
        have h12:=hd 12 (by simp) _ rfl _ rfl
        obtain ⟨v8,hv8⟩:∃ v8,ac.eval (.tmp 77) = v8:=⟨_,rfl⟩
        rw [hv8] at h12
        obtain ⟨A8,c8,rfl,hc8⟩:=own_slice (h12 rfl).1
        have zz:=Nat.lt_of_lt_of_le hgo.2 hG.2.1
        have kk:=(heap_cell (p:=⟨go,m,none⟩) (hG.2.2.1 go hgo.2 (fun _ e=>HLst.out go e rfl) (fun q=>by omega))).trans HGo.out
        have ff:=(hG.row HMO.out HLst.out).frozenAt m
        have HG:=hide hG
        have H12:=hide h12
        clear hG h12
        simp [Act.eval] at f13 hv8
        go_simp
        exact hK undef _ (by decide) (HG.out.stored H12.out (by decide) HMO.out HML.out HXL.out HNL.out HIT.out HLst.out) trivial
      case gu=>intro s w1 w2 hG hu; exact hG.below hu
      case g0=>exact ⟨(HB7.out).drew,Nat.le_refl _,fun _ _ _ _=>rfl,fun e=>by omega⟩
      case fin=>
       intro f9 w9 hG hall
       clear hall
       obtain ⟨v9,hM9⟩:=hG.done HM.out (by decide) HDm.out
       have HM9:=hide hM9
       have HB9:=hide hG.1
       clear hG hM9
       simp only [fillF,List.map_cons,List.map_nil,List.foldl_cons,List.foldl_nil,Act.put,List.setIfInBounds_toArray,List.set_cons_zero,List.set_cons_succ]
       go_wp2_with fail
       refine ⟨⟨j + 1,0 + (5 + kl),m + 1,c6,some ⟨go,0,none⟩,dT,curT ++ [y],rfl,by push_cast; first | rfl | simp,by push_cast; rfl,by omega,by omega,by omega,hide (by unfold sumZ; rw [List.map_append,List.sum_append]; show sumZ szK curT + _ = _; rw [HSum.out,← HSZ.out]; simp),hide (by rw [HFN.out,HStep.out]),HB9,hide (.inr ⟨by simp,by rw [HDm.out],_,_,HM9.out⟩),hide (by rw [List.length_append,List.length_singleton]; have:=HCl.out; omega)⟩,?_⟩
       simp [intOf]
       omega
     ·have HRow:=hide hM.out
      have HM0:=hide hM
      rw [← hno2] at HRow
      have HN2:=hide hno2
      have hz:((no:Int) == 0) = false:=by simp; omega
      have HC0:=hide hc0
      clear hM hc0 hno2
      by_cases hnew:505 < 1 + s2 + (5 + kl) ∨ sh ≤ s2
      ·have HStep:=hide (cutStep_yes szK (share:=sh) (d:=d) (x:=y) HC0.out (by rw [HS.out,HSZ.out]; exact hnew))
       have HSum:=hide (show sumZ szK ([]:List Kd) = 0 from rfl)
       have HBr':=Below.refl w5.heap.size w5
       by_cases hbig:505 < 1 + s2 + (5 + kl)
       ·go_upto_region 18 with (at_builtin; refine wpList_append_any _ rfl (.tmp 62) (.tmp 63) _ rfl w.heap.size TKds i1 _ 1 24 Try.underlying127 HI1.out HZ1.out hy1 hy2 rfl (by omega) (.slice Ao no co) no (vd ++ [vl]) rfl (own_later HRow.out (al_below w5 _)) _ (some ⟨w5.heap.size,0,none⟩) 1 1 [.slice none 0 0] rfl (reads_blk (Blk.new w5 TKds _) rfl rfl) (by intro u hu; simp at hu; subst hu; rfl) (by unfold maxLen; omega) (by omega) (Nat.le_trans HB5.out.size (al_below w5 _).size) ?_; intro v' w7 ho hgb hoo; (obtain ⟨A6,c6,rfl,hc6⟩:=own_slice ho); have HO6:=hide ho; have HG6:=hide hgb; clear ho hgb hoo)
        obtain ⟨go,rfl,hgo1,hgo2,hgo3⟩:=own_form HO6.out
        have HX7:=hide (show Blk w7 xb TKd #[.slice A0 kl c0,.int .i64 (pp:Int)] from (HX5.out.alloc _).grown HG6.out (fun e=>own_blk_ne HRow.out HX5.out (by decide) e.symm))
        have HB7:=hide (show Below w.heap.size w w7 from (HB5.out.alloc HB5.out.size _).grown HG6.out (Nat.le_trans HB5.out.size (al_below w5 _).size) (fun k hk=>(HRow.out.lt k hk).1))
        obtain ⟨m,hmn⟩:∃ m,no = m:=⟨_,rfl⟩
        rw [hmn] at HO6 hgo3 hno
        obtain ⟨vdT,vlT,dT,curT,hM,hDm,hStep,hSum,hCl⟩:∃ vdT vlT dT curT,CutM KdR TKd TKds w F w7 (.slice (some ⟨go,0,none⟩) (m + 1) c6) vdT vlT dT curT ∧ dT.length = m ∧ cutStep szK sh (d,cur) y = (dT,curT ++ [y]) ∧ sumZ szK curT = 0 ∧ curT.length ≤ j:=by
         refine ⟨vd ++ [vl],.slice none 0 0,d ++ [cur],[],(HM0.out.below HBr').more (by decide) (al_below w5 _) HG6.out ?_,?_,HStep.out,rfl,by simp⟩
         ·have:=HO6.out
          rw [← hmn,HN2.out] at this
          rw [← hmn,HN2.out]
          exact this
         ·rw [List.length_append,List.length_singleton,← HN2.out,hmn]
        have HM:=hide hM; have HDm:=hide hDm; have HStep:=hide hStep; have HSum:=hide hSum; have HCl:=hide hCl
        clear hM hDm hStep hSum hCl
        rw [hmn]
        obtain ⟨xs,hxo,hxl⟩:=HM.out.last
        have HXO:=hide hxo
        have HXL:=hide hxl
        have HML:=hide (show vdT.length = m from by
         have:=HM.out.done
         have:=LR.len (fun a cs h=>PtR.one h) _ _ this
         rw [← HDm.out]
         omega)
        obtain ⟨nl,hnl⟩:∃ nl,curT.length = nl:=⟨_,rfl⟩
        have HNL:=hide hnl.symm
        rw [hnl] at HXO
        have hgo:=HM.out.out.lt go rfl
        have HLst:=hide (show ∀ g,vlT.ownBlock = some g → g ≠ go from fun g hg e=>by subst e; exact own_two hxo HM.out.out (by decide) hg rfl)
        clear hxo hxl hnl
        have HMO:=hide (show w7.ownsRow w.heap.size TKds 1 (.slice (some ⟨go,0,none⟩) (m + 1) c6) (m + 1) (vdT ++ [vlT]) from by
         have:=HM.out.out
         rwa [HDm.out] at this)
        have HGo:=hide (show w7.cell? ⟨go,m,none⟩ = some vlT from by
         have hc:=HMO.out.cellAt (cap:=c6) (g:=go) m (by omega)
         rw [hc,List.getElem?_append_right (by rw [HML.out]; exact Nat.le_refl _),HML.out]
         simp)
        have hmj:m ≤ 1000000000:=by omega
        have hwm:IntKind.i64.wrap (m:Int) = (m:Int):=by simp [IntKind.wrap,IntKind.bits,IntKind.signed]; omega
        have hnlj:nl ≤ j:=by rw [HNL.out]; exact HCl.out
        go_upto_region 19 with fail
        refine wp_region_dag (by kernel_rfl) (by kernel_rfl) 84 2
         [⟨some 65,[0,1,2],[],[],[],[],fun _ _ v _=>v = .slice (some ⟨go,0,none⟩) (m + 1) c6⟩,
          ⟨some 66,[0,1,2],[],[],[],[],fun _ _ v _=>v = .slice (some ⟨go,0,none⟩) (m + 1) c6⟩,
          ⟨some 67,[0,1,2],[],[],[1],[],fun _ _ v _=>v = .int .i64 ((m:Int) + 1)⟩,
          ⟨some 68,[0,1,2],[],[],[2],[],fun _ _ v _=>v = .int .i64 (m:Int)⟩,
          ⟨some 69,[0,1,2],[],[],[],[],fun _ _ v _=>v = .slice (some ⟨go,0,none⟩) (m + 1) c6⟩,
          ⟨some 70,[0,1,2],[],[],[],[],fun _ _ v _=>v = .slice (some ⟨go,0,none⟩) (m + 1) c6⟩,
          ⟨some 71,[0,1,2],[],[],[5],[],fun _ _ v _=>v = .int .i64 ((m:Int) + 1)⟩,
          ⟨some 72,[0,1,2],[],[],[6],[],fun _ _ v _=>v = .int .i64 (m:Int)⟩,
          ⟨some 73,[0,1,2],[],[],[4,7],[],fun _ _ v _=>v = .pointer (some ⟨go,m,none⟩)⟩,
          ⟨some 74,[0],[],[],[8],[],fun _ _ v _=>v = vlT⟩,
          ⟨some 75,[0],[],[],[],[],fun _ _ v _=>v = .agg #[.slice A0 kl c0,.int .i64 (pp:Int)]⟩,
          ⟨some 76,[0],[],[],[10],[],fun st a v w'=>st = 0 → ∃ g,v = .slice (some ⟨g,0,none⟩) 1 1 ∧ Blk w' g TKd #[.slice A0 kl c0,.int .i64 (pp:Int)]⟩,
          ⟨some 77,[0],[(0,1)],[1,2],[9,11],[],fun st a v w'=>R12 TKd w w7 vlT nl (xs ++ [.slice A0 kl c0,.int .i64 (pp:Int)]) st v w'⟩,
          ⟨some 78,[0,1,2],[],[],[0,3],[],fun _ _ v _=>v = .pointer (some ⟨go,m,none⟩)⟩,
          ⟨none,[1],[(1,2)],[2],[12,13],[],fun _ _ _ _=>True⟩] (GC KdR TKd TKds w w7 F go c6 m vdT vlT curT y) (fun s s' _ _ _=>s < s') (fun _ w w'=>Below w.heap.size w w') ?gu ?ru ?put [65,66,67,68,69,70,71,72,73,74,75,76,77,78] rfl (by kernel_rfl) rfl ?g0 ?keep ?steps ?fin
        case ru=>
         intro e he s a v w w' hu hv
         simp only [List.mem_cons,List.not_mem_nil,or_false] at he
         rcases he with rfl | rfl | rfl | rfl | rfl | rfl | rfl | rfl | rfl | rfl | rfl | rfl | rfl | rfl | rfl
         all_goals first | exact hv | (intro h0; obtain ⟨g,e,hb⟩:=hv h0; exact ⟨g,e,hb.below hu hb.lt⟩) | (intro h0; obtain ⟨h1,h2⟩:=hv h0; exact ⟨own_later h1 hu,h2⟩)
        case put=>
         intro e he s a d u v w hnd hv
         simp only [List.mem_cons,List.not_mem_nil,or_false] at he
         rcases he with rfl | rfl | rfl | rfl | rfl | rfl | rfl | rfl | rfl | rfl | rfl | rfl | rfl | rfl | rfl
         all_goals first | exact hv
        case keep=>
         intro e he s s' a v w w' hsl hm ht hv
         simp only [List.mem_cons,List.not_mem_nil,or_false] at he
         rcases he with rfl | rfl | rfl | rfl | rfl | rfl | rfl | rfl | rfl | rfl | rfl | rfl | rfl | rfl | rfl
         all_goals first | exact hv | (intro h3; omega) | (intro h3; have:=hm rfl; simp at this; omega)
        case steps=>
         refine ⟨?_,?_,?_,?_,?_,?_,?_,?_,?_,?_,?_,?_,?_,?_,?_,trivial⟩
         ·intro st hst ac w3 hg hG hd K hK
          dsimp only at hst hG hK
          exact op_move _ rfl (hK _ _ (Below.refl _ _) (hg.kp 5 (by simp)))
         ·intro st hst ac w3 hg hG hd K hK
          dsimp only at hst hG hK
          exact op_move _ rfl (hK _ _ (Below.refl _ _) (hg.kp 5 (by simp)))
         ·intro st hst ac w3 hg hG hd K hK
          dsimp only at hst hG hK
          have f1:=hd 1 (by simp) _ rfl _ rfl
          (try simp [Act.eval] at f1)
          go_simp
          exact hK _ _ (Below.refl _ _) rfl
         ·intro st hst ac w3 hg hG hd K hK
          dsimp only at hst hG hK
          have f2:=hd 2 (by simp) _ rfl _ rfl
          (try simp [Act.eval] at f2)
          go_simp
          exact hK _ _ (Below.refl _ _) rfl
         ·intro st hst ac w3 hg hG hd K hK
          dsimp only at hst hG hK
          exact op_move _ rfl (hK _ _ (Below.refl _ _) (hg.kp 5 (by simp)))
         ·intro st hst ac w3 hg hG hd K hK
          dsimp only at hst hG hK
          exact op_move _ rfl (hK _ _ (Below.refl _ _) (hg.kp 5 (by simp)))
         ·intro st hst ac w3 hg hG hd K hK
          dsimp only at hst hG hK
          have f5:=hd 5 (by simp) _ rfl _ rfl
          (try simp [Act.eval] at f5)
          go_simp
          exact hK _ _ (Below.refl _ _) rfl
         ·intro st hst ac w3 hg hG hd K hK
          dsimp only at hst hG hK
          have f6:=hd 6 (by simp) _ rfl _ rfl
          (try simp [Act.eval] at f6)
          go_simp
          exact hK _ _ (Below.refl _ _) rfl
         ·intro st hst ac w3 hg hG hd K hK
          dsimp only at hst hG hK
          have f4:=hd 4 (by simp) _ rfl _ rfl
          have f7:=hd 7 (by simp) _ rfl _ rfl
          simp [Act.eval] at f4 f7
          go_simp
          rw [if_pos (by omega)]
          go_simp
          exact hK _ _ (Below.refl _ _) rfl
         ·intro st hst ac w3 hg hG hd K hK
          dsimp only at hst hG hK
          simp only [List.mem_cons,List.not_mem_nil,or_false] at hst
          subst hst
          have kk:=(heap_cell (p:=⟨go,m,none⟩) (hG.2.2.1 go hgo.2 (fun q=>by omega) (fun q=>by omega))).trans HGo.out
          have zz:=Nat.lt_of_lt_of_le hgo.2 hG.2.1
          clear hG
          have f8:=hd 8 (by simp) _ rfl _ rfl
          (try simp [Act.eval] at f8)
          go_simp
          exact hK _ _ (Below.refl _ _) rfl
         ·intro st hst ac w3 hg hG hd K hK
          dsimp only at hst hG hK
          simp only [List.mem_cons,List.not_mem_nil,or_false] at hst
          subst hst
          have hX:=HX7.out
          have hX3:Blk w3 xb TKd #[.slice A0 kl c0,.int .i64 (pp:Int)]:=(hG.2.2.1 xb hX.lt (fun q=>by omega) (fun q=>by omega)).trans hX
          have kk:=hX3.cell 0
          have kk1:=hX3.cell 1
          have zz:=hX3.lt
          simp at kk kk1
          clear hG hX hX3
          have k13:=hg.kp 13 (by simp)
          (try simp [Act.eval] at k13)
          go_simp
          exact hK _ _ (Below.refl _ _) rfl
         ·intro st hst ac w3 hg hG hd K hK
          dsimp only at hst hG hK
          have f10:=hd 10 (by simp) _ rfl _ rfl
          simp [Act.eval] at f10
          go_simp
          exact hK _ _ (al_below w3 _) (fun _=>⟨_,rfl,Blk.new _ _ _⟩)
         ·intro st st' hmv ac w3 hg hG hd K hK
          simp only [List.mem_cons,Prod.mk.injEq,List.not_mem_nil,or_false] at hmv
          obtain ⟨rfl,rfl⟩:=hmv
          dsimp only at hG hK
          have f9:=hd 9 (by simp) _ rfl _ rfl
          obtain ⟨gl,f11,hbl⟩:=hd 11 (by simp) _ rfl _ rfl rfl
          refine wp_append_any w3 (.tmp 74) (.tmp 76) 75 rfl w.heap.size TKd i0 _ 2 32 Try.underlying75 HI0.out HZ0.out hz1 hz2 rfl (by omega) vlT nl xs f9 (row_keep HXO.out (fun j hj=>hG.2.2.1 j (HXO.out.lt j hj).2 (fun q=>by omega) (fun q=>by omega))) w3.heap.size (some ⟨gl,0,none⟩) 1 1 [.slice A0 kl c0,.int .i64 (pp:Int)] f11 (reads_blk hbl rfl rfl) (by intro u hu; simp at hu; rcases hu with rfl | rfl <;> rfl) (by unfold maxLen; omega) (by omega) hG.1.size ?_
          intro v' w' ho hgb hoo
          exact hK _ _ (by decide) (hG.appended (v:=v') (fun k hk=>(HXO.out.lt k hk).1) hgb) (fun _=>⟨ho,hoo.imp id (fun e=>⟨_,e,hG.2.1⟩)⟩)
         ·intro st hst ac w3 hg hG hd K hK
          dsimp only at hst hG hK
          have f0:=hd 0 (by simp) _ rfl _ rfl
          have f3:=hd 3 (by simp) _ rfl _ rfl
          simp [Act.eval] at f0 f3
          go_simp
          rw [if_pos (by omega)]
          go_simp
          exact hK _ _ (Below.refl _ _) rfl
         ·intro st st' hmv ac w3 hg hG hd K hK
          simp only [List.mem_cons,Prod.mk.injEq,List.not_mem_nil,or_false] at hmv
          obtain ⟨rfl,rfl⟩:=hmv
          dsimp only at hG hK
          have f13:=hd 13 (by simp) _ rfl _ rfl
          have h12:=hd 12 (by simp) _ rfl _ rfl
          obtain ⟨v8,hv8⟩:∃ v8,ac.eval (.tmp 77) = v8:=⟨_,rfl⟩
          rw [hv8] at h12
          obtain ⟨A8,c8,rfl,hc8⟩:=own_slice (h12 rfl).1
          have zz:=Nat.lt_of_lt_of_le hgo.2 hG.2.1
          have kk:=(heap_cell (p:=⟨go,m,none⟩) (hG.2.2.1 go hgo.2 (fun _ e=>HLst.out go e rfl) (fun q=>by omega))).trans HGo.out
          have ff:=(hG.row HMO.out HLst.out).frozenAt m
          have HG:=hide hG
          have H12:=hide h12
          clear hG h12
          simp [Act.eval] at f13 hv8
          go_simp
          exact hK undef _ (by decide) (HG.out.stored H12.out (by decide) HMO.out HML.out HXL.out HNL.out HIT.out HLst.out) trivial
        case gu=>intro s w1 w2 hG hu; exact hG.below hu
        case g0=>exact ⟨(HB7.out).drew,Nat.le_refl _,fun _ _ _ _=>rfl,fun e=>by omega⟩
        case fin=>
         intro f9 w9 hG hall
         clear hall
         obtain ⟨v9,hM9⟩:=hG.done HM.out (by decide) HDm.out
         have HM9:=hide hM9
         have HB9:=hide hG.1
         clear hG hM9
         simp only [fillF,List.map_cons,List.map_nil,List.foldl_cons,List.foldl_nil,Act.put,List.setIfInBounds_toArray,List.set_cons_zero,List.set_cons_succ]
         go_wp2_with fail
         refine ⟨⟨j + 1,0 + (5 + kl),m + 1,c6,some ⟨go,0,none⟩,dT,curT ++ [y],rfl,by push_cast; first | rfl | simp,by push_cast; rfl,by omega,by omega,by omega,hide (by unfold sumZ; rw [List.map_append,List.sum_append]; show sumZ szK curT + _ = _; rw [HSum.out,← HSZ.out]; simp),hide (by rw [HFN.out,HStep.out]),HB9,hide (.inr ⟨by simp,by rw [HDm.out],_,_,HM9.out⟩),hide (by rw [List.length_append,List.length_singleton]; have:=HCl.out; omega)⟩,?_⟩
         simp [intOf]
         omega
       ·have hshr:sh ≤ s2:=by omega
        go_upto_region 18 with (at_builtin; refine wpList_append_any _ rfl (.tmp 62) (.tmp 63) _ rfl w.heap.size TKds i1 _ 1 24 Try.underlying127 HI1.out HZ1.out hy1 hy2 rfl (by omega) (.slice Ao no co) no (vd ++ [vl]) rfl (own_later HRow.out (al_below w5 _)) _ (some ⟨w5.heap.size,0,none⟩) 1 1 [.slice none 0 0] rfl (reads_blk (Blk.new w5 TKds _) rfl rfl) (by intro u hu; simp at hu; subst hu; rfl) (by unfold maxLen; omega) (by omega) (Nat.le_trans HB5.out.size (al_below w5 _).size) ?_; intro v' w7 ho hgb hoo; (obtain ⟨A6,c6,rfl,hc6⟩:=own_slice ho); have HO6:=hide ho; have HG6:=hide hgb; clear ho hgb hoo)
        obtain ⟨go,rfl,hgo1,hgo2,hgo3⟩:=own_form HO6.out
        have HX7:=hide (show Blk w7 xb TKd #[.slice A0 kl c0,.int .i64 (pp:Int)] from (HX5.out.alloc _).grown HG6.out (fun e=>own_blk_ne HRow.out HX5.out (by decide) e.symm))
        have HB7:=hide (show Below w.heap.size w w7 from (HB5.out.alloc HB5.out.size _).grown HG6.out (Nat.le_trans HB5.out.size (al_below w5 _).size) (fun k hk=>(HRow.out.lt k hk).1))
        obtain ⟨m,hmn⟩:∃ m,no = m:=⟨_,rfl⟩
        rw [hmn] at HO6 hgo3 hno
        obtain ⟨vdT,vlT,dT,curT,hM,hDm,hStep,hSum,hCl⟩:∃ vdT vlT dT curT,CutM KdR TKd TKds w F w7 (.slice (some ⟨go,0,none⟩) (m + 1) c6) vdT vlT dT curT ∧ dT.length = m ∧ cutStep szK sh (d,cur) y = (dT,curT ++ [y]) ∧ sumZ szK curT = 0 ∧ curT.length ≤ j:=by
         refine ⟨vd ++ [vl],.slice none 0 0,d ++ [cur],[],(HM0.out.below HBr').more (by decide) (al_below w5 _) HG6.out ?_,?_,HStep.out,rfl,by simp⟩
         ·have:=HO6.out
          rw [← hmn,HN2.out] at this
          rw [← hmn,HN2.out]
          exact this
         ·rw [List.length_append,List.length_singleton,← HN2.out,hmn]
        have HM:=hide hM; have HDm:=hide hDm; have HStep:=hide hStep; have HSum:=hide hSum; have HCl:=hide hCl
        clear hM hDm hStep hSum hCl
        rw [hmn]
        obtain ⟨xs,hxo,hxl⟩:=HM.out.last
        have HXO:=hide hxo
        have HXL:=hide hxl
        have HML:=hide (show vdT.length = m from by
         have:=HM.out.done
         have:=LR.len (fun a cs h=>PtR.one h) _ _ this
         rw [← HDm.out]
         omega)
        obtain ⟨nl,hnl⟩:∃ nl,curT.length = nl:=⟨_,rfl⟩
        have HNL:=hide hnl.symm
        rw [hnl] at HXO
        have hgo:=HM.out.out.lt go rfl
        have HLst:=hide (show ∀ g,vlT.ownBlock = some g → g ≠ go from fun g hg e=>by subst e; exact own_two hxo HM.out.out (by decide) hg rfl)
        clear hxo hxl hnl
        have HMO:=hide (show w7.ownsRow w.heap.size TKds 1 (.slice (some ⟨go,0,none⟩) (m + 1) c6) (m + 1) (vdT ++ [vlT]) from by
         have:=HM.out.out
         rwa [HDm.out] at this)
        have HGo:=hide (show w7.cell? ⟨go,m,none⟩ = some vlT from by
         have hc:=HMO.out.cellAt (cap:=c6) (g:=go) m (by omega)
         rw [hc,List.getElem?_append_right (by rw [HML.out]; exact Nat.le_refl _),HML.out]
         simp)
        have hmj:m ≤ 1000000000:=by omega
        have hwm:IntKind.i64.wrap (m:Int) = (m:Int):=by simp [IntKind.wrap,IntKind.bits,IntKind.signed]; omega
        have hnlj:nl ≤ j:=by rw [HNL.out]; exact HCl.out
        go_upto_region 19 with fail
        refine wp_region_dag (by kernel_rfl) (by kernel_rfl) 84 2
         [⟨some 65,[0,1,2],[],[],[],[],fun _ _ v _=>v = .slice (some ⟨go,0,none⟩) (m + 1) c6⟩,
          ⟨some 66,[0,1,2],[],[],[],[],fun _ _ v _=>v = .slice (some ⟨go,0,none⟩) (m + 1) c6⟩,
          ⟨some 67,[0,1,2],[],[],[1],[],fun _ _ v _=>v = .int .i64 ((m:Int) + 1)⟩,
          ⟨some 68,[0,1,2],[],[],[2],[],fun _ _ v _=>v = .int .i64 (m:Int)⟩,
          ⟨some 69,[0,1,2],[],[],[],[],fun _ _ v _=>v = .slice (some ⟨go,0,none⟩) (m + 1) c6⟩,
          ⟨some 70,[0,1,2],[],[],[],[],fun _ _ v _=>v = .slice (some ⟨go,0,none⟩) (m + 1) c6⟩,
          ⟨some 71,[0,1,2],[],[],[5],[],fun _ _ v _=>v = .int .i64 ((m:Int) + 1)⟩,
          ⟨some 72,[0,1,2],[],[],[6],[],fun _ _ v _=>v = .int .i64 (m:Int)⟩,
          ⟨some 73,[0,1,2],[],[],[4,7],[],fun _ _ v _=>v = .pointer (some ⟨go,m,none⟩)⟩,
          ⟨some 74,[0],[],[],[8],[],fun _ _ v _=>v = vlT⟩,
          ⟨some 75,[0],[],[],[],[],fun _ _ v _=>v = .agg #[.slice A0 kl c0,.int .i64 (pp:Int)]⟩,
          ⟨some 76,[0],[],[],[10],[],fun st a v w'=>st = 0 → ∃ g,v = .slice (some ⟨g,0,none⟩) 1 1 ∧ Blk w' g TKd #[.slice A0 kl c0,.int .i64 (pp:Int)]⟩,
          ⟨some 77,[0],[(0,1)],[1,2],[9,11],[],fun st a v w'=>R12 TKd w w7 vlT nl (xs ++ [.slice A0 kl c0,.int .i64 (pp:Int)]) st v w'⟩,
          ⟨some 78,[0,1,2],[],[],[0,3],[],fun _ _ v _=>v = .pointer (some ⟨go,m,none⟩)⟩,
          ⟨none,[1],[(1,2)],[2],[12,13],[],fun _ _ _ _=>True⟩] (GC KdR TKd TKds w w7 F go c6 m vdT vlT curT y) (fun s s' _ _ _=>s < s') (fun _ w w'=>Below w.heap.size w w') ?gu ?ru ?put [65,66,67,68,69,70,71,72,73,74,75,76,77,78] rfl (by kernel_rfl) rfl ?g0 ?keep ?steps ?fin
        case ru=>
         intro e he s a v w w' hu hv
         simp only [List.mem_cons,List.not_mem_nil,or_false] at he
         rcases he with rfl | rfl | rfl | rfl | rfl | rfl | rfl | rfl | rfl | rfl | rfl | rfl | rfl | rfl | rfl
         all_goals first | exact hv | (intro h0; obtain ⟨g,e,hb⟩:=hv h0; exact ⟨g,e,hb.below hu hb.lt⟩) | (intro h0; obtain ⟨h1,h2⟩:=hv h0; exact ⟨own_later h1 hu,h2⟩)
        case put=>
         intro e he s a d u v w hnd hv
         simp only [List.mem_cons,List.not_mem_nil,or_false] at he
         rcases he with rfl | rfl | rfl | rfl | rfl | rfl | rfl | rfl | rfl | rfl | rfl | rfl | rfl | rfl | rfl
         all_goals first | exact hv
        case keep=>
         intro e he s s' a v w w' hsl hm ht hv
         simp only [List.mem_cons,List.not_mem_nil,or_false] at he
         rcases he with rfl | rfl | rfl | rfl | rfl | rfl | rfl | rfl | rfl | rfl | rfl | rfl | rfl | rfl | rfl
         all_goals first | exact hv | (intro h3; omega) | (intro h3; have:=hm rfl; simp at this; omega)
        case steps=>
         refine ⟨?_,?_,?_,?_,?_,?_,?_,?_,?_,?_,?_,?_,?_,?_,?_,trivial⟩
         ·intro st hst ac w3 hg hG hd K hK
          dsimp only at hst hG hK
          exact op_move _ rfl (hK _ _ (Below.refl _ _) (hg.kp 5 (by simp)))
         ·intro st hst ac w3 hg hG hd K hK
          dsimp only at hst hG hK
          exact op_move _ rfl (hK _ _ (Below.refl _ _) (hg.kp 5 (by simp)))
         ·intro st hst ac w3 hg hG hd K hK
          dsimp only at hst hG hK
          have f1:=hd 1 (by simp) _ rfl _ rfl
          (try simp [Act.eval] at f1)
          go_simp
          exact hK _ _ (Below.refl _ _) rfl
         ·intro st hst ac w3 hg hG hd K hK
          dsimp only at hst hG hK
          have f2:=hd 2 (by simp) _ rfl _ rfl
          (try simp [Act.eval] at f2)
          go_simp
          exact hK _ _ (Below.refl _ _) rfl
         ·intro st hst ac w3 hg hG hd K hK
          dsimp only at hst hG hK
          exact op_move _ rfl (hK _ _ (Below.refl _ _) (hg.kp 5 (by simp)))
         ·intro st hst ac w3 hg hG hd K hK
          dsimp only at hst hG hK
          exact op_move _ rfl (hK _ _ (Below.refl _ _) (hg.kp 5 (by simp)))
         ·intro st hst ac w3 hg hG hd K hK
          dsimp only at hst hG hK
          have f5:=hd 5 (by simp) _ rfl _ rfl
          (try simp [Act.eval] at f5)
          go_simp
          exact hK _ _ (Below.refl _ _) rfl
         ·intro st hst ac w3 hg hG hd K hK
          dsimp only at hst hG hK
          have f6:=hd 6 (by simp) _ rfl _ rfl
          (try simp [Act.eval] at f6)
          go_simp
          exact hK _ _ (Below.refl _ _) rfl
         ·intro st hst ac w3 hg hG hd K hK
          dsimp only at hst hG hK
          have f4:=hd 4 (by simp) _ rfl _ rfl
          have f7:=hd 7 (by simp) _ rfl _ rfl
          simp [Act.eval] at f4 f7
          go_simp
          rw [if_pos (by omega)]
          go_simp
          exact hK _ _ (Below.refl _ _) rfl
         ·intro st hst ac w3 hg hG hd K hK
          dsimp only at hst hG hK
          simp only [List.mem_cons,List.not_mem_nil,or_false] at hst
          subst hst
          have kk:=(heap_cell (p:=⟨go,m,none⟩) (hG.2.2.1 go hgo.2 (fun q=>by omega) (fun q=>by omega))).trans HGo.out
          have zz:=Nat.lt_of_lt_of_le hgo.2 hG.2.1
          clear hG
          have f8:=hd 8 (by simp) _ rfl _ rfl
          (try simp [Act.eval] at f8)
          go_simp
          exact hK _ _ (Below.refl _ _) rfl
         ·intro st hst ac w3 hg hG hd K hK
          dsimp only at hst hG hK
          simp only [List.mem_cons,List.not_mem_nil,or_false] at hst
          subst hst
          have hX:=HX7.out
          have hX3:Blk w3 xb TKd #[.slice A0 kl c0,.int .i64 (pp:Int)]:=(hG.2.2.1 xb hX.lt (fun q=>by omega) (fun q=>by omega)).trans hX
          have kk:=hX3.cell 0
          have kk1:=hX3.cell 1
          have zz:=hX3.lt
          simp at kk kk1
          clear hG hX hX3
          have k13:=hg.kp 13 (by simp)
          (try simp [Act.eval] at k13)
          go_simp
          exact hK _ _ (Below.refl _ _) rfl
         ·intro st hst ac w3 hg hG hd K hK
          dsimp only at hst hG hK
          have f10:=hd 10 (by simp) _ rfl _ rfl
          simp [Act.eval] at f10
          go_simp
          exact hK _ _ (al_below w3 _) (fun _=>⟨_,rfl,Blk.new _ _ _⟩)
         ·intro st st' hmv ac w3 hg hG hd K hK
          simp only [List.mem_cons,Prod.mk.injEq,List.not_mem_nil,or_false] at hmv
          obtain ⟨rfl,rfl⟩:=hmv
          dsimp only at hG hK
          have f9:=hd 9 (by simp) _ rfl _ rfl
          obtain ⟨gl,f11,hbl⟩:=hd 11 (by simp) _ rfl _ rfl rfl
          refine wp_append_any w3 (.tmp 74) (.tmp 76) 75 rfl w.heap.size TKd i0 _ 2 32 Try.underlying75 HI0.out HZ0.out hz1 hz2 rfl (by omega) vlT nl xs f9 (row_keep HXO.out (fun j hj=>hG.2.2.1 j (HXO.out.lt j hj).2 (fun q=>by omega) (fun q=>by omega))) w3.heap.size (some ⟨gl,0,none⟩) 1 1 [.slice A0 kl c0,.int .i64 (pp:Int)] f11 (reads_blk hbl rfl rfl) (by intro u hu; simp at hu; rcases hu with rfl | rfl <;> rfl) (by unfold maxLen; omega) (by omega) hG.1.size ?_
          intro v' w' ho hgb hoo
          exact hK _ _ (by decide) (hG.appended (v:=v') (fun k hk=>(HXO.out.lt k hk).1) hgb) (fun _=>⟨ho,hoo.imp id (fun e=>⟨_,e,hG.2.1⟩)⟩)
         ·intro st hst ac w3 hg hG hd K hK
          dsimp only at hst hG hK
          have f0:=hd 0 (by simp) _ rfl _ rfl
          have f3:=hd 3 (by simp) _ rfl _ rfl
          simp [Act.eval] at f0 f3
          go_simp
          rw [if_pos (by omega)]
          go_simp
          exact hK _ _ (Below.refl _ _) rfl
         ·intro st st' hmv ac w3 hg hG hd K hK
          simp only [List.mem_cons,Prod.mk.injEq,List.not_mem_nil,or_false] at hmv
          obtain ⟨rfl,rfl⟩:=hmv
          dsimp only at hG hK
          have f13:=hd 13 (by simp) _ rfl _ rfl
          have h12:=hd 12 (by simp) _ rfl _ rfl
          obtain ⟨v8,hv8⟩:∃ v8,ac.eval (.tmp 77) = v8:=⟨_,rfl⟩
          rw [hv8] at h12
          obtain ⟨A8,c8,rfl,hc8⟩:=own_slice (h12 rfl).1
          have zz:=Nat.lt_of_lt_of_le hgo.2 hG.2.1
          have kk:=(heap_cell (p:=⟨go,m,none⟩) (hG.2.2.1 go hgo.2 (fun _ e=>HLst.out go e rfl) (fun q=>by omega))).trans HGo.out
          have ff:=(hG.row HMO.out HLst.out).frozenAt m
          have HG:=hide hG
          have H12:=hide h12
          clear hG h12
          simp [Act.eval] at f13 hv8
          go_simp
          exact hK undef _ (by decide) (HG.out.stored H12.out (by decide) HMO.out HML.out HXL.out HNL.out HIT.out HLst.out) trivial
        case gu=>intro s w1 w2 hG hu; exact hG.below hu
        case g0=>exact ⟨(HB7.out).drew,Nat.le_refl _,fun _ _ _ _=>rfl,fun e=>by omega⟩
        case fin=>
         intro f9 w9 hG hall
         clear hall
         obtain ⟨v9,hM9⟩:=hG.done HM.out (by decide) HDm.out
         have HM9:=hide hM9
         have HB9:=hide hG.1
         clear hG hM9
         simp only [fillF,List.map_cons,List.map_nil,List.foldl_cons,List.foldl_nil,Act.put,List.setIfInBounds_toArray,List.set_cons_zero,List.set_cons_succ]
         go_wp2_with fail
         refine ⟨⟨j + 1,0 + (5 + kl),m + 1,c6,some ⟨go,0,none⟩,dT,curT ++ [y],rfl,by push_cast; first | rfl | simp,by push_cast; rfl,by omega,by omega,by omega,hide (by unfold sumZ; rw [List.map_append,List.sum_append]; show sumZ szK curT + _ = _; rw [HSum.out,← HSZ.out]; simp),hide (by rw [HFN.out,HStep.out]),HB9,hide (.inr ⟨by simp,by rw [HDm.out],_,_,HM9.out⟩),hide (by rw [List.length_append,List.length_singleton]; have:=HCl.out; omega)⟩,?_⟩
         simp [intOf]
         omega
      ·have HStep:=hide (cutStep_no szK (share:=sh) (d:=d) (x:=y) HC0.out (by rw [HS.out,HSZ.out]; exact hnew))
       have hbig:¬ 505 < 1 + s2 + (5 + kl):=by omega
       have hshr:s2 < sh:=by omega
       obtain ⟨m,hm⟩:∃ m,d.length = m:=⟨_,rfl⟩
       have HDm:=hide hm
       obtain rfl:no = m + 1:=by have:=HN2.out; omega
       have HO5:=hide (show w5.ownsRow w.heap.size TKds 1 (.slice Ao (m + 1) co) (m + 1) (vd ++ [vl]) from HRow.out)
       obtain ⟨go,rfl,hgo1,hgo2,hgo3⟩:=own_form HO5.out
       obtain ⟨vdT,vlT,dT,curT,hM,hDm,hStep,hSum,hCl⟩:∃ vdT vlT dT curT,CutM KdR TKd TKds w F w5 (.slice (some ⟨go,0,none⟩) (m + 1) co) vdT vlT dT curT ∧ dT.length = m ∧ cutStep szK sh (d,cur) y = (dT,curT ++ [y]) ∧ sumZ szK curT = s2 ∧ curT.length ≤ j:=⟨_,_,_,_,HM0.out,hm,HStep.out,HS.out,HL.out⟩
       have HM:=hide hM; have HDm:=hide hDm; have HStep:=hide hStep; have HSum:=hide hSum; have HCl:=hide hCl
       have HX7:=HX5
       have HB7:=HB5
       clear hM hDm hStep hSum hCl hm hnew
       have hzm:((m:Int) + 1 == 0) = false:=by simp; omega
       obtain ⟨xs,hxo,hxl⟩:=HM.out.last
       have HXO:=hide hxo
       have HXL:=hide hxl
       have HML:=hide (show vdT.length = m from by
        have:=HM.out.done
        have:=LR.len (fun a cs h=>PtR.one h) _ _ this
        rw [← HDm.out]
        omega)
       obtain ⟨nl,hnl⟩:∃ nl,curT.length = nl:=⟨_,rfl⟩
       have HNL:=hide hnl.symm
       rw [hnl] at HXO
       have hgo:=HM.out.out.lt go rfl
       have HLst:=hide (show ∀ g,vlT.ownBlock = some g → g ≠ go from fun g hg e=>by subst e; exact own_two hxo HM.out.out (by decide) hg rfl)
       clear hxo hxl hnl
       have HMO:=hide (show w5.ownsRow w.heap.size TKds 1 (.slice (some ⟨go,0,none⟩) (m + 1) co) (m + 1) (vdT ++ [vlT]) from by
        have:=HM.out.out
        rwa [HDm.out] at this)
       have HGo:=hide (show w5.cell? ⟨go,m,none⟩ = some vlT from by
        have hc:=HMO.out.cellAt (cap:=co) (g:=go) m (by omega)
        rw [hc,List.getElem?_append_right (by rw [HML.out]; exact Nat.le_refl _),HML.out]
        simp)
       have hmj:m ≤ 1000000000:=by omega
       have hwm:IntKind.i64.wrap (m:Int) = (m:Int):=by simp [IntKind.wrap,IntKind.bits,IntKind.signed]; omega
       have hnlj:nl ≤ j:=by rw [HNL.out]; exact HCl.out
       go_upto_region 19 with fail
       refine wp_region_dag (by kernel_rfl) (by kernel_rfl) 84 2
        [⟨some 65,[0,1,2],[],[],[],[],fun _ _ v _=>v = .slice (some ⟨go,0,none⟩) (m + 1) co⟩,
         ⟨some 66,[0,1,2],[],[],[],[],fun _ _ v _=>v = .slice (some ⟨go,0,none⟩) (m + 1) co⟩,
         ⟨some 67,[0,1,2],[],[],[1],[],fun _ _ v _=>v = .int .i64 ((m:Int) + 1)⟩,
         ⟨some 68,[0,1,2],[],[],[2],[],fun _ _ v _=>v = .int .i64 (m:Int)⟩,
         ⟨some 69,[0,1,2],[],[],[],[],fun _ _ v _=>v = .slice (some ⟨go,0,none⟩) (m + 1) co⟩,
         ⟨some 70,[0,1,2],[],[],[],[],fun _ _ v _=>v = .slice (some ⟨go,0,none⟩) (m + 1) co⟩,
         ⟨some 71,[0,1,2],[],[],[5],[],fun _ _ v _=>v = .int .i64 ((m:Int) + 1)⟩,
         ⟨some 72,[0,1,2],[],[],[6],[],fun _ _ v _=>v = .int .i64 (m:Int)⟩,
         ⟨some 73,[0,1,2],[],[],[4,7],[],fun _ _ v _=>v = .pointer (some ⟨go,m,none⟩)⟩,
         ⟨some 74,[0],[],[],[8],[],fun _ _ v _=>v = vlT⟩,
         ⟨some 75,[0],[],[],[],[],fun _ _ v _=>v = .agg #[.slice A0 kl c0,.int .i64 (pp:Int)]⟩,
         ⟨some 76,[0],[],[],[10],[],fun st a v w'=>st = 0 → ∃ g,v = .slice (some ⟨g,0,none⟩) 1 1 ∧ Blk w' g TKd #[.slice A0 kl c0,.int .i64 (pp:Int)]⟩,
         ⟨some 77,[0],[(0,1)],[1,2],[9,11],[],fun st a v w'=>R12 TKd w w5 vlT nl (xs ++ [.slice A0 kl c0,.int .i64 (pp:Int)]) st v w'⟩,
         ⟨some 78,[0,1,2],[],[],[0,3],[],fun _ _ v _=>v = .pointer (some ⟨go,m,none⟩)⟩,
         ⟨none,[1],[(1,2)],[2],[12,13],[],fun _ _ _ _=>True⟩] (GC KdR TKd TKds w w5 F go co m vdT vlT curT y) (fun s s' _ _ _=>s < s') (fun _ w w'=>Below w.heap.size w w') ?gu ?ru ?put [65,66,67,68,69,70,71,72,73,74,75,76,77,78] rfl (by kernel_rfl) rfl ?g0 ?keep ?steps ?fin
       case ru=>
        intro e he s a v w w' hu hv
        simp only [List.mem_cons,List.not_mem_nil,or_false] at he
        rcases he with rfl | rfl | rfl | rfl | rfl | rfl | rfl | rfl | rfl | rfl | rfl | rfl | rfl | rfl | rfl
        all_goals first | exact hv | (intro h0; obtain ⟨g,e,hb⟩:=hv h0; exact ⟨g,e,hb.below hu hb.lt⟩) | (intro h0; obtain ⟨h1,h2⟩:=hv h0; exact ⟨own_later h1 hu,h2⟩)
       case put=>
        intro e he s a d u v w hnd hv
        simp only [List.mem_cons,List.not_mem_nil,or_false] at he
        rcases he with rfl | rfl | rfl | rfl | rfl | rfl | rfl | rfl | rfl | rfl | rfl | rfl | rfl | rfl | rfl
        all_goals first | exact hv
       case keep=>
        intro e he s s' a v w w' hsl hm ht hv
        simp only [List.mem_cons,List.not_mem_nil,or_false] at he
        rcases he with rfl | rfl | rfl | rfl | rfl | rfl | rfl | rfl | rfl | rfl | rfl | rfl | rfl | rfl | rfl
        all_goals first | exact hv | (intro h3; omega) | (intro h3; have:=hm rfl; simp at this; omega)
       case steps=>
        refine ⟨?_,?_,?_,?_,?_,?_,?_,?_,?_,?_,?_,?_,?_,?_,?_,trivial⟩
        ·intro st hst ac w3 hg hG hd K hK
         dsimp only at hst hG hK
         exact op_move _ rfl (hK _ _ (Below.refl _ _) (hg.kp 5 (by simp)))
        ·intro st hst ac w3 hg hG hd K hK
         dsimp only at hst hG hK
         exact op_move _ rfl (hK _ _ (Below.refl _ _) (hg.kp 5 (by simp)))
        ·intro st hst ac w3 hg hG hd K hK
         dsimp only at hst hG hK
         have f1:=hd 1 (by simp) _ rfl _ rfl
         (try simp [Act.eval] at f1)
         go_simp
         exact hK _ _ (Below.refl _ _) rfl
        ·intro st hst ac w3 hg hG hd K hK
         dsimp only at hst hG hK
         have f2:=hd 2 (by simp) _ rfl _ rfl
         (try simp [Act.eval] at f2)
         go_simp
         exact hK _ _ (Below.refl _ _) rfl
        ·intro st hst ac w3 hg hG hd K hK
         dsimp only at hst hG hK
         exact op_move _ rfl (hK _ _ (Below.refl _ _) (hg.kp 5 (by simp)))
        ·intro st hst ac w3 hg hG hd K hK
         dsimp only at hst hG hK
         exact op_move _ rfl (hK _ _ (Below.refl _ _) (hg.kp 5 (by simp)))
        ·intro st hst ac w3 hg hG hd K hK
         dsimp only at hst hG hK
         have f5:=hd 5 (by simp) _ rfl _ rfl
         (try simp [Act.eval] at f5)
         go_simp
         exact hK _ _ (Below.refl _ _) rfl
        ·intro st hst ac w3 hg hG hd K hK
         dsimp only at hst hG hK
         have f6:=hd 6 (by simp) _ rfl _ rfl
         (try simp [Act.eval] at f6)
         go_simp
         exact hK _ _ (Below.refl _ _) rfl
        ·intro st hst ac w3 hg hG hd K hK
         dsimp only at hst hG hK
         have f4:=hd 4 (by simp) _ rfl _ rfl
         have f7:=hd 7 (by simp) _ rfl _ rfl
         simp [Act.eval] at f4 f7
         go_simp
         rw [if_pos (by omega)]
         go_simp
         exact hK _ _ (Below.refl _ _) rfl
        ·intro st hst ac w3 hg hG hd K hK
         dsimp only at hst hG hK
         simp only [List.mem_cons,List.not_mem_nil,or_false] at hst
         subst hst
         have kk:=(heap_cell (p:=⟨go,m,none⟩) (hG.2.2.1 go hgo.2 (fun q=>by omega) (fun q=>by omega))).trans HGo.out
         have zz:=Nat.lt_of_lt_of_le hgo.2 hG.2.1
         clear hG
         have f8:=hd 8 (by simp) _ rfl _ rfl
         (try simp [Act.eval] at f8)
         go_simp
         exact hK _ _ (Below.refl _ _) rfl
        ·intro st hst ac w3 hg hG hd K hK
         dsimp only at hst hG hK
         simp only [List.mem_cons,List.not_mem_nil,or_false] at hst
         subst hst
         have hX:=HX7.out
         have hX3:Blk w3 xb TKd #[.slice A0 kl c0,.int .i64 (pp:Int)]:=(hG.2.2.1 xb hX.lt (fun q=>by omega) (fun q=>by omega)).trans hX
         have kk:=hX3.cell 0
         have kk1:=hX3.cell 1
         have zz:=hX3.lt
         simp at kk kk1
         clear hG hX hX3
         have k13:=hg.kp 13 (by simp)
         (try simp [Act.eval] at k13)
         go_simp
         exact hK _ _ (Below.refl _ _) rfl
        ·intro st hst ac w3 hg hG hd K hK
         dsimp only at hst hG hK
         have f10:=hd 10 (by simp) _ rfl _ rfl
         simp [Act.eval] at f10
         go_simp
         exact hK _ _ (al_below w3 _) (fun _=>⟨_,rfl,Blk.new _ _ _⟩)
        ·intro st st' hmv ac w3 hg hG hd K hK
         simp only [List.mem_cons,Prod.mk.injEq,List.not_mem_nil,or_false] at hmv
         obtain ⟨rfl,rfl⟩:=hmv
         dsimp only at hG hK
         have f9:=hd 9 (by simp) _ rfl _ rfl
         obtain ⟨gl,f11,hbl⟩:=hd 11 (by simp) _ rfl _ rfl rfl
         refine wp_append_any w3 (.tmp 74) (.tmp 76) 75 rfl w.heap.size TKd i0 _ 2 32 Try.underlying75 HI0.out HZ0.out hz1 hz2 rfl (by omega) vlT nl xs f9 (row_keep HXO.out (fun j hj=>hG.2.2.1 j (HXO.out.lt j hj).2 (fun q=>by omega) (fun q=>by omega))) w3.heap.size (some ⟨gl,0,none⟩) 1 1 [.slice A0 kl c0,.int .i64 (pp:Int)] f11 (reads_blk hbl rfl rfl) (by intro u hu; simp at hu; rcases hu with rfl | rfl <;> rfl) (by unfold maxLen; omega) (by omega) hG.1.size ?_
         intro v' w' ho hgb hoo
         exact hK _ _ (by decide) (hG.appended (v:=v') (fun k hk=>(HXO.out.lt k hk).1) hgb) (fun _=>⟨ho,hoo.imp id (fun e=>⟨_,e,hG.2.1⟩)⟩)
        ·intro st hst ac w3 hg hG hd K hK
         dsimp only at hst hG hK
         have f0:=hd 0 (by simp) _ rfl _ rfl
         have f3:=hd 3 (by simp) _ rfl _ rfl
         simp [Act.eval] at f0 f3
         go_simp
         rw [if_pos (by omega)]
         go_simp
         exact hK _ _ (Below.refl _ _) rfl
        ·intro st st' hmv ac w3 hg hG hd K hK
         simp only [List.mem_cons,Prod.mk.injEq,List.not_mem_nil,or_false] at hmv
         obtain ⟨rfl,rfl⟩:=hmv
         dsimp only at hG hK
         have f13:=hd 13 (by simp) _ rfl _ rfl
         have h12:=hd 12 (by simp) _ rfl _ rfl
         obtain ⟨v8,hv8⟩:∃ v8,ac.eval (.tmp 77) = v8:=⟨_,rfl⟩
         rw [hv8] at h12
         obtain ⟨A8,c8,rfl,hc8⟩:=own_slice (h12 rfl).1
         have zz:=Nat.lt_of_lt_of_le hgo.2 hG.2.1
         have kk:=(heap_cell (p:=⟨go,m,none⟩) (hG.2.2.1 go hgo.2 (fun _ e=>HLst.out go e rfl) (fun q=>by omega))).trans HGo.out
         have ff:=(hG.row HMO.out HLst.out).frozenAt m
         have HG:=hide hG
         have H12:=hide h12
         clear hG h12
         simp [Act.eval] at f13 hv8
         go_simp
         exact hK undef _ (by decide) (HG.out.stored H12.out (by decide) HMO.out HML.out HXL.out HNL.out HIT.out HLst.out) trivial
       case gu=>intro s w1 w2 hG hu; exact hG.below hu
       case g0=>exact ⟨(HB7.out).drew,Nat.le_refl _,fun _ _ _ _=>rfl,fun e=>by omega⟩
       case fin=>
        intro f9 w9 hG hall
        clear hall
        obtain ⟨v9,hM9⟩:=hG.done HM.out (by decide) HDm.out
        have HM9:=hide hM9
        have HB9:=hide hG.1
        clear hG hM9
        simp only [fillF,List.map_cons,List.map_nil,List.foldl_cons,List.foldl_nil,Act.put,List.setIfInBounds_toArray,List.set_cons_zero,List.set_cons_succ]
        go_wp2_with fail
        refine ⟨⟨j + 1,s2 + (5 + kl),m + 1,co,some ⟨go,0,none⟩,dT,curT ++ [y],rfl,by push_cast; first | rfl | simp,by push_cast; rfl,by omega,by omega,by omega,hide (by unfold sumZ; rw [List.map_append,List.sum_append]; show sumZ szK curT + _ = _; rw [HSum.out,← HSZ.out]; simp),hide (by rw [HFN.out,HStep.out]),HB9,hide (.inr ⟨by simp,by rw [HDm.out],_,_,HM9.out⟩),hide (by rw [List.length_append,List.length_singleton]; have:=HCl.out; omega)⟩,?_⟩
        simp [intOf]
        omega
    ·obtain rfl:q = j:=by omega
     have HFo2:=hide (show is.foldl (cutStep szK sh) ([],[]) = (d,cur) from by have:=HFo.out; rwa [← HQ.out,List.take_length] at this)
     go_wp2_with fail
     go_ret
     refine ⟨_,rfl,?_,HB.out⟩
     have hcf:cutF szK is = cutOut (d,cur):=by
      unfold cutF
      rw [HS0.out,HSH.out,HFo2.out]
     rw [hcf]
     rcases HC.out with ⟨e1,e2,e3,e4,e5⟩ | ⟨hc0,hno2,vd,vl,hM⟩
     ·subst e1 e2 e3 e4 e5
      exact ⟨[],World.ownsRow_nil _ _ _ _,rfl⟩
     ·cases cur with
      | nil=>exact absurd rfl hc0
      | cons y l=>
       subst hno2
       exact ⟨vd ++ [vl],by simp only [cutOut]; rw [List.length_append,List.length_singleton]; exact hM.out,LR.app (LR.one ⟨vl,rfl,hM.last⟩) _ _ hM.done⟩
end Go.Proofs.Ytkolacaceaamoaa
