/- The tree: read of a leaf's page. -/
import Derived.Test.YtkolacaceaamoaaKMa
import Derived.BigQuiet
/- The tree: read of a leaf's page. -/
set_option linter.unusedSimpArgs false
set_option linter.unusedVariables false
namespace Go.Proofs.Ytkolacaceaamoaa
open Go.RowKit
abbrev TTr:TypeId:=93
theorem tit_inf:∃ i,Try.prog.info? TIt = some i ∧ i.zero = some (.agg #[.slice none 0 0,.slice none 0 0]) ∧ i.size = 2 ∧ i.bytes = 48:=by
 have h:(Try.prog.info? TIt).map (fun i=>(i.zero,i.size,i.bytes)) = some (some (.agg #[.slice none 0 0,.slice none 0 0]),2,48):=by kernel_rfl
 cases hi:Try.prog.info? TIt with
 | none=>rw [hi] at h; cases h
 | some i=>rw [hi] at h; simp only [Option.map_some,Option.some.injEq,Prod.mk.injEq] at h; exact ⟨i,rfl,h.1,h.2.1,h.2.2⟩
theorem own_slice {w:World} {base n k:Nat} {e:TypeId} {v:Value} {xs:List Value} (h:w.ownsRow base e k v n xs):∃ A c,v = .slice A n c ∧ n ≤ c:=by
 rcases h.2 with ⟨e,h0⟩ | ⟨g,cap,cur,e,_,_,hc,_⟩
 ·exact ⟨none,0,by rw [e,h0],by omega⟩
 ·exact ⟨_,cap,e,hc⟩
theorem own_some {w:World} {base n:Nat} {e:TypeId} {v:Value} {l:Cn} (h:w.ownsRow base T8 1 v n (cs8 l)) (h0:0 < n):∃ g c,v = .slice (some ⟨g,0,none⟩) n c ∧ n ≤ c ∧ base ≤ g ∧ RB w w.heap.size (some ⟨g,0,none⟩) n l:=by
 rcases h.2 with ⟨e,h1⟩ | ⟨g,cap,cur,e,hb,_,hc,_⟩
 ·omega
 ·exact ⟨g,cap,e,hc,hb,Reads.of_own (by rw [e] at h; exact h)⟩
theorem sumI_take {is:List It} {j:Nat} (h:j < is.length):sumI (is.take (j + 1)) = sumI (is.take j) + szI is[j]:=by
 unfold sumI
 rw [List.take_succ_eq_append_getElem h,List.map_append,List.sum_append]
 rfl
theorem sumI_le (is:List It) (j:Nat):sumI (is.take j) ≤ sumI is:=by
 have:sumI is = sumI (is.take j) + sumI (is.drop j):=by
  unfold sumI
  conv=>lhs; rw [← List.take_append_drop j is]
  rw [List.map_append,List.sum_append]
 omega
theorem drop_at {is:List It} {j:Nat} (h:j < is.length):(ndB is []).drop (1 + sumI (is.take j)) = itB is[j] ++ (is.drop (j + 1)).flatMap itB:=by
 unfold ndB
 rw [Nat.add_comm,List.drop_succ_cons]
 simp only [List.flatMap_nil,List.append_nil]
 conv=>lhs; arg 2; rw [← List.take_append_drop j is,List.flatMap_append]
 rw [← flatI_len (is.take j),List.drop_left,List.drop_eq_getElem_cons h,List.flatMap_cons]
theorem drop_val {is:List It} {j:Nat} (h:j < is.length):(ndB is []).drop (1 + sumI (is.take j) + 1 + is[j].k.length) = UInt8.ofNat is[j].v.length :: (is[j].v ++ (is.drop (j + 1)).flatMap itB):=by
 rw [Nat.add_assoc (1 + _),← List.drop_drop,drop_at h]
 unfold itB
 rw [List.cons_append,Nat.add_comm 1,List.drop_succ_cons,List.append_assoc,List.drop_left]
 rfl
theorem w64_pos {q:Nat} (h:0 < q) (h2:q ≤ 600):(wrap64 (q:Int) == 0) = false:=by
 have e:wrap64 (q:Int) = (q:Int):=by unfold wrap64; omega
 rw [e,beq_eq_false_iff_ne]
 omega
theorem len_sumI:∀ l:List It,l.length ≤ sumI l
 | []=>by simp [sumI]
 | a :: l=>by
  have ih:=len_sumI l
  unfold sumI szI at *
  simp only [List.map_cons,List.sum_cons,List.length_cons]
  omega
theorem part_at {w:World} {gb n cap at_:Nat} {l k rest:Cn} {x:Int} (hx:x = (at_:Int)) (hr:RB w w.heap.size (some ⟨gb,0,none⟩) n l) (hcap:n ≤ cap) (hn:n ≤ 60000) (hat:l.drop at_ = UInt8.ofNat k.length :: (k ++ rest)) (hk:k.length < 256) :
  Calls Try.prog 44 #[.slice (some ⟨gb,0,none⟩) n cap,.int .i64 x] w fun e w'=>
   ∃ v,e = .returned (.tuple #[v,.int .i64 ((at_ + 1 + k.length:Nat):Int),.bool true]) ∧ w'.ownsRow w.heap.size T8 1 v k.length (cs8 k) ∧ Below w.heap.size w w':=by
 subst hx
 exact part_ok hr hcap hn hat hk
theorem reads_blk {w:World} {g k n:Nat} {t:TypeId} {cs:Array Value} {xs:List Value} (h:Blk w g t cs) (hx:xs = cs.toList) (hn:xs.length = n * k):Reads w w.heap.size k (some ⟨g,0,none⟩) n xs:=by
 refine ⟨hn,fun _=>⟨_,rfl,h.lt,fun j u hu=>?_⟩⟩
 have e:=h.cell j
 rw [hx] at hu
 rw [show (⟨g,0,none⟩:Addr).add j = ⟨g,j,none⟩ by simp [Addr.add]; exact fun h=>h.symm,e]
 simpa using hu
theorem RB.head {w:World} {B gb n:Nat} {l:Cn} (h:RB w B (some ⟨gb,0,none⟩) n l) {x:UInt8} {t:Cn} (e:l = x :: t):w.cell? ⟨gb,0,none⟩ = some (.int .u8 (x.toNat:Int)):=by
 have hl:=RB.len h
 subst e
 obtain ⟨ad,e,_,hc⟩:=RB.at_ h (k:=0) (by rw [← hl]; simp) (by simp)
 injection e with e
 subst e
 simpa [Addr.add] using hc
set_option maxRecDepth 100000 in
set_option maxHeartbeats 2000000 in
theorem read_leaf {w:World} {F:Nat → Prop} {pb sb db n:Nat} {left:Int} {S:Int → Cn} {L:List (Int × Cn)} {N:Nat} {seq root frm:Int} {st:Cn} {tb:Nat} (h:Pg w F pb sb db n left S L N seq root frm st)
  (ht:Blk w tb TTr #[.pointer (some ⟨pb,0,none⟩)]) (x:Int) (hx:pgB n x = true) (is:List It) (h0:is ≠ []) (hok:∀ i ∈ is,itOk i) (hsz:(ndB is []).length ≤ 505) (hc:nowC S L x = sealC 2 (ndB is [])) :
  Calls Try.prog 27 #[.pointer (some ⟨tb,0,none⟩),.int .i64 x] w fun e w'=>
   (∃ g,e = .returned (.tuple #[.pointer (some ⟨g,0,none⟩),.int .i64 0]) ∧ NdR w' (fun j=>w.heap.size ≤ j) g is []) ∧ Pg w' F pb sb db n left S L N seq root frm st ∧ Fr (PF F pb sb) w w':=by
 have HP:=hide h
 have HCC:=hide hc
 have HOK:=hide hok
 have kt:=ht.cell; have ft:=ht.frozen; have zt:=ht.lt
 have hlen:=ndB_len is []
 have HLEN:=hide hlen
 clear h ht hc hok
 obtain ⟨i0,hi0,hz0,hz1,hz2⟩:=tit_inf
 have HI0:=hide hi0
 have HZ0:=hide hz0
 clear hi0 hz0
 go_enter Try.func27,Try.ntmps27
 go_upto_region 2 with (go_at_call 43; (refine (pread_ok HP.out x hx (ndB is []) hsz HCC.out).mono ?_); rintro e w1 ⟨⟨v,rfl,ho⟩,hp,hf⟩; have HO1:=hide ho; have HP1:=hide hp; have HF1:=hide hf; clear ho hp hf)
 clear kt ft zt
 obtain ⟨gb,cb,rfl,hcb,hgb,hrb⟩:=own_some (e:=T8) HO1.out (by rw [hlen]; omega)
 have HRB:=hide hrb
 obtain ⟨d,hd⟩:∃ d,ndB is [] = d:=⟨_,rfl⟩
 have HD:=hide hd
 obtain ⟨m,hm⟩:∃ m,d.length = m:=⟨_,rfl⟩
 rw [hd,hm] at HRB hlen hcb hsz ⊢
 have hm1:1 ≤ m:=by omega
 have HML:=hide (show m = 1 + sumI is from by rw [hlen]; rfl)
 clear hrb HO1 hd hm hlen
 go_upto_region 5 with fail
 obtain ⟨w2,hw2⟩:∃ y,w1.alloc (.cells #[.slice none 0 0,.slice none 0 0] TNd) = y:=⟨_,rfl⟩
 obtain ⟨g,hg⟩:∃ g,w1.heap.size = g:=⟨_,rfl⟩
 have HS:=hide (show RsG ItR TIt (fun v=>#[v,.slice none 0 0]) w1 w2 g (.slice none 0 0) [] from
  ⟨hw2 ▸ al_below w1 _,hg ▸ hw2 ▸ Blk.new _ _ _,hg ▸ Nat.le_refl _,(fun e=>by cases e),[],World.ownsRow_nil _ _ _ _,rfl⟩)
 have hg':w.heap.size ≤ w1.heap.size:=HF1.out.size
 rw [hg,hw2]
 clear hw2
 go_wp2_with fail
 go_loopw [9] (fun iv wr=>∃ (j p:Nat) (v:Value),iv = .int .i64 (p:Int) ∧ j ≤ is.length ∧ Hid (1 + sumI (is.take j) = p) ∧ Hid (RsG ItR TIt (fun v=>#[v,.slice none 0 0]) w1 wr g v (is.take j))) (fun iv _=>m - (intOf iv).toNat)
 case atStart=>exact ⟨0,1,_,by go_num,by omega,hide rfl,HS⟩
 case round=>
  clear HS
  obtain ⟨j,p,v,rfl,hj,HP0,HS⟩:=hrel
  have HRr:=hide ((HRB.out.below HS.out.bel).more HS.out.bel.size)
  have hpm:p ≤ m:=by have:=sumI_le is j; have:=HP0.out; have:=HML.out; omega
  by_cases hlt:j < is.length
  ·have HKI:=hide (HOK.out is[j] (List.getElem_mem hlt))
   have HDA:=hide (show d.drop p = UInt8.ofNat is[j].k.length :: (is[j].k ++ (UInt8.ofNat is[j].v.length :: (is[j].v ++ (is.drop (j + 1)).flatMap itB))) from by
    rw [← HD.out,← HP0.out,drop_at hlt]
    unfold itB
    rw [List.cons_append,List.append_assoc,List.cons_append])
   have HDV:=hide (show d.drop (p + 1 + is[j].k.length) = UInt8.ofNat is[j].v.length :: (is[j].v ++ (is.drop (j + 1)).flatMap itB) from by rw [← HD.out,← HP0.out,drop_val hlt])
   have HNX:=hide (show 1 + sumI (is.take (j + 1)) = p + 1 + is[j].k.length + 1 + is[j].v.length from by rw [sumI_take hlt,← HP0.out]; unfold szI; omega)
   have hpl:p < m:=by
    have:=sumI_take hlt
    have:=sumI_le is (j + 1)
    have:=HP0.out
    have:=HML.out
    unfold szI at *
    omega
   have HTK:=hide (List.take_succ_eq_append_getElem hlt)
   obtain ⟨y,hy⟩:∃ y,is[j] = y:=⟨_,rfl⟩
   rw [hy] at HKI HDA HDV HNX HTK
   clear hy
   obtain ⟨kl,hkl⟩:∃ kl,y.k.length = kl:=⟨_,rfl⟩
   have hk1:1 ≤ kl:=hkl ▸ HKI.out.1
   have hk2:kl ≤ 32:=hkl ▸ HKI.out.2.1
   have HKL:=hide hkl
   clear hkl
   have kz:((kl:Int) == 0) = false:=by simp; omega
   go_upto_region 8 with (go_at_call 44; (refine (part_ok HRr.out hcb (by omega) HDA.out (by rw [HKL.out]; omega)).mono ?_); (rw [HKL.out]); rintro e w3 ⟨vk,rfl,ho,hb⟩; have HOK3:=hide ho; have HB3:=hide hb; clear ho hb)
   obtain ⟨Ak,ck,rfl,hck⟩:=own_slice HOK3.out
   have hd0:∃ t,d = 0 :: t:=⟨_,by rw [← HD.out]; unfold ndB; rw [if_pos rfl]⟩
   obtain ⟨t0,hd0⟩:=hd0
   have HR3:=hide ((HRr.out.below HB3.out).more HB3.out.size)
   have kb:=RB.head HR3.out hd0
   have zb:gb < w3.heap.size:=by
    obtain ⟨ad,e,hb,_⟩:=RB.at_ HR3.out (k:=0) (by omega) (by have:=RB.len HR3.out; omega)
    injection e with e
    subst e
    exact hb
   clear hd0
   go_upto_region 16 with fail
   clear kb zb kz
   obtain ⟨vl,hvl⟩:∃ vl,y.v.length = vl:=⟨_,rfl⟩
   have hv1:vl ≤ 128:=hvl ▸ HKI.out.2.2
   have HVL:=hide hvl
   rw [hvl] at HNX
   rw [HKL.out] at HDV HNX
   clear hvl
   go_upto_region 17 with (go_at_call 44; (refine (part_at (at_:=p + 1 + kl) (by simp) HR3.out hcb (by omega) HDV.out (by rw [HVL.out]; omega)).mono ?_); (rw [HVL.out]); rintro e w4 ⟨vv,rfl,ho,hb⟩; have HOV4:=hide ho; have HB4:=hide hb; clear ho hb)
   obtain ⟨Av,cv,rfl,hcv⟩:=own_slice HOV4.out
   have hbb:Below wr.heap.size wr w4:=HB3.out.trans (HB4.out.mono HB3.out.size)
   have HBB:=hide hbb
   have HS4:=hide (HS.out.below @ItR.keep hbb)
   have kg:=HS4.out.blk.cell; have fg:=HS4.out.blk.frozen; have zg:=HS4.out.blk.lt
   clear hbb
   obtain ⟨xs,hxo,hxl⟩:=HS.out.row
   have HXO:=hide hxo
   have HXL:=hide hxl
   have htl:(is.take j).length = j:=by rw [List.length_take]; omega
   rw [htl] at HXO
   have HTL:=hide htl
   clear hxo hxl htl
   have hj6:j ≤ 600:=by
    have:=len_sumI is
    have:=HML.out
    omega
   have HA4:=hide (show ItR (w4.alloc (.cells #[.slice Ak kl ck,.slice Av vl cv] TIt)) (fun j=>wr.heap.size ≤ j ∧ j < (w4.alloc (.cells #[.slice Ak kl ck,.slice Av vl cv] TIt)).heap.size) y [.slice Ak kl ck,.slice Av vl cv] from by
    have hs3:=HB3.out.size
    have hs4:=HB4.out.size
    refine ⟨_,_,rfl,?_,?_⟩
    ·have:=BS.of_own (l:=y.k) (by rw [HKL.out]; exact HOK3.out)
     exact this.keep (fun j hj hlt=>((al_below w4 _).block j (Nat.lt_of_lt_of_le hlt hs4)).trans (HB4.out.block j hlt)) (fun j hj hlt=>⟨hj.1,by simp; omega⟩)
    ·have:=BS.of_own (l:=y.v) (by rw [HVL.out]; exact HOV4.out)
     exact this.keep (fun j hj hlt=>(al_below w4 _).block j hlt) (fun j hj hlt=>⟨by omega,by simp; omega⟩))
   have HBA:=hide (show Below wr.heap.size wr (w4.alloc (.cells #[.slice Ak kl ck,.slice Av vl cv] TIt)) from HBB.out.alloc HBB.out.size _)
   go_upto_region 20 with (at_builtin; refine wpList_append_any _ rfl (.tmp 88) (.tmp 92) _ rfl w1.heap.size TIt i0 _ 2 48 Try.underlying32 HI0.out HZ0.out hz1 hz2 rfl (by omega) v j xs rfl (own_later HXO.out HBA.out) _ (some ⟨w4.heap.size,0,none⟩) 1 1 [.slice Ak kl ck,.slice Av vl cv] rfl (reads_blk (Blk.new w4 TIt _) rfl rfl) (by intro u hu; simp at hu; rcases hu with rfl | rfl <;> rfl) (by unfold maxLen; omega) (by omega) (Nat.le_trans HS.out.bel.size HBA.out.size) ?_; intro v' w5 ho hgb hoo; (obtain ⟨A5,c5,rfl,hc5⟩:=own_slice ho); have HO5:=hide ho; have HG5:=hide hgb; have HOO5:=hide hoo; have HB5:=hide (((HS.out.blk.below HBA.out HS.out.blk.lt).grown hgb (fun e=>HS.out.ng e.symm))); clear ho hgb hoo kg fg zg; have kg:=HB5.out.cell; have fg:=HB5.out.frozen; have zg:=HB5.out.lt)
   obtain ⟨w6,hw6⟩:∃ y,w5.setCell ⟨g,0,none⟩ (.slice A5 (j + 1) c5) = y:=⟨_,rfl⟩
   have HS6:=hide (show RsG ItR TIt (fun v=>#[v,.slice none 0 0]) w1 w6 g (.slice A5 (j + 1) c5) (is.take j ++ [y]) from
    RsG.push @ItR.keep HS.out HBA.out (xs:=xs) ⟨by rw [HTL.out]; exact HXO.out,HXL.out⟩ HA4.out (by rw [HTL.out]; exact HO5.out) HG5.out HOO5.out (fun h=>hw6 ▸ h.setCell (p:=⟨g,0,none⟩) HS.out.ge _) (fun i hi=>hw6 ▸ Below.heap_setCell _ _ _ _ hi) (fun h=>hw6 ▸ h.set_ 0 _))
   rw [← HTK.out] at HS6
   rw [hw6]
   clear hw6 kg fg zg HS HS4 HB5 HO5 HG5 HOO5 HA4 HBA HXO HXL HBB
   go_wp2_with fail
   go_roundw
   case rel=>exact ⟨j + 1,p + 1 + kl + 1 + vl,_,by go_num,by omega,HNX,HS6⟩
   case measure=>simp [intOf]; have:=HNX.out; have:=sumI_le is (j + 1); have:=HML.out; omega
  ·obtain rfl:j = is.length:=by omega
   have HTI:=hide (show is.take is.length = is from List.take_length)
   rw [HTI.out] at HS HP0
   obtain rfl:p = m:=by have:=HP0.out; have:=HML.out; omega
   obtain ⟨xs,hxo,hxl⟩:=HS.out.row
   obtain ⟨Ai,ci,rfl,hci⟩:=own_slice hxo
   have hl1:0 < is.length:=List.length_pos_iff.2 h0
   obtain ⟨q,hq⟩:∃ q,is.length = q:=⟨_,rfl⟩
   have kg:=HS.out.blk.cell; have fg:=HS.out.blk.frozen; have zg:=HS.out.blk.lt
   have HSL:=hide (HS.out.sl @ItR.keep)
   rw [hq] at kg hl1 hci ⊢
   have HQ:=hide hq
   have hq6:q ≤ 600:=by
    have:=len_sumI is
    have:=HML.out
    omega
   have d5:(wrap64 (q:Int) == 0) = false:=w64_pos hl1 hq6
   clear hxo hxl hq
   go_upto_region 21 with fail
   go_quiet (fail)
   obtain ⟨w9,hw9⟩:∃ y,wr.drewN nq = y:=⟨_,rfl⟩
   have HB9:=hide (show Below wr.heap.size wr w9 from hw9 ▸ below_drewN (Below.refl _ _) nq)
   rw [hw9]
   clear hw9 kg fg zg
   go_wp2_with fail
   have hbw:Below w1.heap.size w1 w9:=HS.out.bel.trans (HB9.out.mono HS.out.bel.size)
   refine bodyPost_ret (v:=.tuple #[.pointer (some ⟨g,0,none⟩),.int .i64 0]) (by simp (maxDischargeDepth:=9) [results,Try.results27,go_sem]; done) rfl ⟨⟨g,rfl,?_⟩,HP1.out.below hbw,HF1.out.trans (Fr.low hbw) (fun _ _ h=>h)⟩
   refine ⟨.slice Ai q ci,.slice none 0 0,?_,Nat.le_trans hg' (hg ▸ HS.out.ge),?_,SL.nil _ _⟩
   ·have:=HS.out.blk.below HB9.out HS.out.blk.lt
    rwa [HQ.out] at this
   ·have:=HSL.out.keep @ItR.keep (F':=fun j=>w.heap.size ≤ j) (fun j _ hj=>HB9.out.block j hj) (fun j hj _=>Nat.le_trans hg' hj)
    rwa [HQ.out] at this
end Go.Proofs.Ytkolacaceaamoaa
/- The tree: read of an inner page. -/
namespace Go.Proofs.Ytkolacaceaamoaa
open Go.RowKit
theorem tkd_inf:∃ i,Try.prog.info? TKd = some i ∧ i.zero = some (.agg #[.slice none 0 0,.int .i64 0]) ∧ i.size = 2 ∧ i.bytes = 32:=by
 have h:(Try.prog.info? TKd).map (fun i=>(i.zero,i.size,i.bytes)) = some (some (.agg #[.slice none 0 0,.int .i64 0]),2,32):=by kernel_rfl
 cases hi:Try.prog.info? TKd with
 | none=>rw [hi] at h; cases h
 | some i=>rw [hi] at h; simp only [Option.map_some,Option.some.injEq,Prod.mk.injEq] at h; exact ⟨i,rfl,h.1,h.2.1,h.2.2⟩
theorem sumK_take {is:List Kd} {j:Nat} (h:j < is.length):sumK (is.take (j + 1)) = sumK (is.take j) + szK is[j]:=by
 unfold sumK
 rw [List.take_succ_eq_append_getElem h,List.map_append,List.sum_append]
 rfl
theorem sumK_le (is:List Kd) (j:Nat):sumK (is.take j) ≤ sumK is:=by
 have:sumK is = sumK (is.take j) + sumK (is.drop j):=by
  unfold sumK
  conv=>lhs; rw [← List.take_append_drop j is]
  rw [List.map_append,List.sum_append]
 omega
theorem len_sumK:∀ l:List Kd,l.length ≤ sumK l
 | []=>by simp [sumK]
 | a :: l=>by
  have ih:=len_sumK l
  unfold sumK szK at *
  simp only [List.map_cons,List.sum_cons,List.length_cons]
  omega
theorem kdrop_at {is:List Kd} {j:Nat} (h:j < is.length):(ndB [] is).drop (1 + sumK (is.take j)) = kdB is[j] ++ (is.drop (j + 1)).flatMap kdB:=by
 unfold ndB
 rw [Nat.add_comm,List.drop_succ_cons]
 simp only [List.flatMap_nil,List.nil_append]
 conv=>lhs; arg 2; rw [← List.take_append_drop j is,List.flatMap_append]
 rw [← flatK_len (is.take j),List.drop_left,List.drop_eq_getElem_cons h,List.flatMap_cons]
theorem kdrop_val {is:List Kd} {j:Nat} (h:j < is.length):(ndB [] is).drop (1 + sumK (is.take j) + 1 + is[j].k.length) = beN is[j].p 4 4 ++ (is.drop (j + 1)).flatMap kdB:=by
 rw [Nat.add_assoc (1 + _),← List.drop_drop,kdrop_at h]
 unfold kdB
 rw [List.cons_append,Nat.add_comm 1,List.drop_succ_cons,List.append_assoc,List.drop_left]
theorem num_at {A:Option Addr} {n c:Nat} {l:Cn} {i:Nat} {w:World} {x:Int} (hx:x = (i:Int)) (hr:RB w w.heap.size A n l) (hc:n ≤ c) (hn:n ≤ 60000) (hk:1 ≤ 4 ∧ 4 ≤ 7) (hi:i + 4 ≤ n) :
  Calls Try.prog 45 #[.slice A n c,.int .i64 x,.int .i64 4] w fun e w'=>e = .returned (.tuple #[.int .i64 (evN ((l.drop i).take 4):Int),.int .i64 0]) ∧ Below w.heap.size w w':=by
 subst hx
 exact num_any A n c l i 4 w hr hc hn hk hi
set_option maxRecDepth 100000 in
set_option maxHeartbeats 2000000 in
theorem read_inner {w:World} {F:Nat → Prop} {pb sb db n:Nat} {left:Int} {S:Int → Cn} {L:List (Int × Cn)} {N:Nat} {seq root frm:Int} {st:Cn} {tb:Nat} (h:Pg w F pb sb db n left S L N seq root frm st)
  (ht:Blk w tb TTr #[.pointer (some ⟨pb,0,none⟩)]) (x:Int) (hx:pgB n x = true) (is:List Kd) (h0:is ≠ []) (hok:∀ i ∈ is,kdOk i) (hsz:(ndB [] is).length ≤ 505) (hc:nowC S L x = sealC 2 (ndB [] is)) :
  Calls Try.prog 27 #[.pointer (some ⟨tb,0,none⟩),.int .i64 x] w fun e w'=>
   (∃ g,e = .returned (.tuple #[.pointer (some ⟨g,0,none⟩),.int .i64 0]) ∧ NdR w' (fun j=>w.heap.size ≤ j) g [] is) ∧ Pg w' F pb sb db n left S L N seq root frm st ∧ Fr (PF F pb sb) w w':=by
 have HP:=hide h
 have HCC:=hide hc
 have HOK:=hide hok
 have kt:=ht.cell; have ft:=ht.frozen; have zt:=ht.lt
 have hlen:=ndB_len [] is
 have HLEN:=hide hlen
 clear h ht hc hok
 obtain ⟨i0,hi0,hz0,hz1,hz2⟩:=tkd_inf
 have HI0:=hide hi0
 have HZ0:=hide hz0
 clear hi0 hz0
 go_enter Try.func27,Try.ntmps27
 go_upto_region 2 with (go_at_call 43; (refine (pread_ok HP.out x hx (ndB [] is) hsz HCC.out).mono ?_); rintro e w1 ⟨⟨v,rfl,ho⟩,hp,hf⟩; have HO1:=hide ho; have HP1:=hide hp; have HF1:=hide hf; clear ho hp hf)
 clear kt ft zt
 obtain ⟨gb,cb,rfl,hcb,hgb,hrb⟩:=own_some (e:=T8) HO1.out (by rw [hlen]; omega)
 have HRB:=hide hrb
 obtain ⟨d,hd⟩:∃ d,ndB [] is = d:=⟨_,rfl⟩
 have HD:=hide hd
 obtain ⟨m,hm⟩:∃ m,d.length = m:=⟨_,rfl⟩
 rw [hd,hm] at HRB hlen hcb hsz ⊢
 have hm1:1 ≤ m:=by omega
 have HML:=hide (show m = 1 + sumK is from by rw [hlen]; simp [sumI])
 clear hrb HO1 hd hm hlen
 go_upto_region 5 with fail
 obtain ⟨w2,hw2⟩:∃ y,w1.alloc (.cells #[.slice none 0 0,.slice none 0 0] TNd) = y:=⟨_,rfl⟩
 obtain ⟨g,hg⟩:∃ g,w1.heap.size = g:=⟨_,rfl⟩
 have HS:=hide (show RsG KdR TKd (fun v=>#[.slice none 0 0,v]) w1 w2 g (.slice none 0 0) [] from
  ⟨hw2 ▸ al_below w1 _,hg ▸ hw2 ▸ Blk.new _ _ _,hg ▸ Nat.le_refl _,(fun e=>by cases e),[],World.ownsRow_nil _ _ _ _,rfl⟩)
 have hg':w.heap.size ≤ w1.heap.size:=HF1.out.size
 rw [hg,hw2]
 clear hw2
 go_wp2_with fail
 go_loopw [9] (fun iv wr=>∃ (j p:Nat) (v:Value),iv = .int .i64 (p:Int) ∧ j ≤ is.length ∧ Hid (1 + sumK (is.take j) = p) ∧ Hid (RsG KdR TKd (fun v=>#[.slice none 0 0,v]) w1 wr g v (is.take j))) (fun iv _=>m - (intOf iv).toNat)
 case atStart=>exact ⟨0,1,_,by go_num,by omega,hide rfl,HS⟩
 case round=>
  clear HS
  obtain ⟨j,p,v,rfl,hj,HP0,HS⟩:=hrel
  have HRr:=hide ((HRB.out.below HS.out.bel).more HS.out.bel.size)
  have hpm:p ≤ m:=by have:=sumK_le is j; have:=HP0.out; have:=HML.out; omega
  by_cases hlt:j < is.length
  ·have HKI:=hide (HOK.out is[j] (List.getElem_mem hlt))
   have HDA:=hide (show d.drop p = UInt8.ofNat is[j].k.length :: (is[j].k ++ (beN is[j].p 4 4 ++ (is.drop (j + 1)).flatMap kdB)) from by
    rw [← HD.out,← HP0.out,kdrop_at hlt]
    unfold kdB
    rw [List.cons_append,List.append_assoc])
   have HDV:=hide (show evN ((d.drop (p + 1 + is[j].k.length)).take 4) = is[j].p from by
    rw [← HD.out,← HP0.out,kdrop_val hlt,List.take_append_of_le_length (by rw [beN_len]; omega),List.take_of_length_le (by rw [beN_len]; omega)]
    exact evN_beN (by have:=(HOK.out is[j] (List.getElem_mem hlt)).2.2.2; omega))
   have HNX:=hide (show 1 + sumK (is.take (j + 1)) = p + 1 + is[j].k.length + 4 from by rw [sumK_take hlt,← HP0.out]; unfold szK; omega)
   have hpl:p < m:=by
    have:=sumK_take hlt
    have:=sumK_le is (j + 1)
    have:=HP0.out
    have:=HML.out
    unfold szK at *
    omega
   have HTK:=hide (List.take_succ_eq_append_getElem hlt)
   obtain ⟨y,hy⟩:∃ y,is[j] = y:=⟨_,rfl⟩
   rw [hy] at HKI HDA HDV HNX HTK
   clear hy
   obtain ⟨kl,hkl⟩:∃ kl,y.k.length = kl:=⟨_,rfl⟩
   have hk1:1 ≤ kl:=hkl ▸ HKI.out.1
   have hk2:kl ≤ 32:=hkl ▸ HKI.out.2.1
   obtain ⟨pg,hpg⟩:∃ pg,y.p = pg:=⟨_,rfl⟩
   have HPG:=hide hpg
   rw [hpg] at HDV
   clear hpg
   have HKL:=hide hkl
   clear hkl
   have kz:((kl:Int) == 0) = false:=by simp; omega
   go_upto_region 8 with (go_at_call 44; (refine (part_ok HRr.out hcb (by omega) HDA.out (by rw [HKL.out]; omega)).mono ?_); (rw [HKL.out]); rintro e w3 ⟨vk,rfl,ho,hb⟩; have HOK3:=hide ho; have HB3:=hide hb; clear ho hb)
   obtain ⟨Ak,ck,rfl,hck⟩:=own_slice HOK3.out
   have hd0:∃ t,d = 1 :: t:=⟨_,by rw [← HD.out]; unfold ndB; rw [if_neg h0]⟩
   obtain ⟨t0,hd0⟩:=hd0
   have HR3:=hide ((HRr.out.below HB3.out).more HB3.out.size)
   have kb:=RB.head HR3.out hd0
   have zb:gb < w3.heap.size:=by
    obtain ⟨ad,e,hb,_⟩:=RB.at_ HR3.out (k:=0) (by omega) (by have:=RB.len HR3.out; omega)
    injection e with e
    subst e
    exact hb
   clear hd0
   rw [HKL.out] at HDV HNX
   go_upto_region 11 with fail
   clear kb zb kz
   have hp4:p + 1 + kl + 4 ≤ m:=by have:=HNX.out; have:=sumK_le is (j + 1); have:=HML.out; omega
   go_upto_region 14 with (go_at_call 45; (refine (num_at (i:=p + 1 + kl) (by simp) HR3.out hcb (by omega) (by omega) hp4).mono ?_); (rw [HDV.out]); rintro e w4 ⟨rfl,hb⟩; have HB4:=hide hb; clear hb)
   have hbb:Below wr.heap.size wr w4:=HB3.out.trans (HB4.out.mono HB3.out.size)
   have HBB:=hide hbb
   have HS4:=hide (HS.out.below @KdR.keep hbb)
   have kg:=HS4.out.blk.cell; have fg:=HS4.out.blk.frozen; have zg:=HS4.out.blk.lt
   clear hbb
   obtain ⟨xs,hxo,hxl⟩:=HS.out.row
   have HXO:=hide hxo
   have HXL:=hide hxl
   have htl:(is.take j).length = j:=by rw [List.length_take]; omega
   rw [htl] at HXO
   have HTL:=hide htl
   clear hxo hxl htl
   have hj6:j ≤ 600:=by
    have:=len_sumK is
    have:=HML.out
    omega
   have HA4:=hide (show KdR (w4.alloc (.cells #[.slice Ak kl ck,.int .i64 (pg:Int)] TKd)) (fun j=>wr.heap.size ≤ j ∧ j < (w4.alloc (.cells #[.slice Ak kl ck,.int .i64 (pg:Int)] TKd)).heap.size) y [.slice Ak kl ck,.int .i64 (pg:Int)] from by
    have hs3:=HB3.out.size
    have hs4:=HB4.out.size
    refine ⟨_,by rw [HPG.out],?_⟩
    have:=BS.of_own (l:=y.k) (by rw [HKL.out]; exact HOK3.out)
    exact this.keep (fun j hj hlt=>((al_below w4 _).block j (Nat.lt_of_lt_of_le hlt hs4)).trans (HB4.out.block j hlt)) (fun j hj hlt=>⟨hj.1,by simp; omega⟩))
   have HBA:=hide (show Below wr.heap.size wr (w4.alloc (.cells #[.slice Ak kl ck,.int .i64 (pg:Int)] TKd)) from HBB.out.alloc HBB.out.size _)
   go_upto_region 15 with (at_builtin; refine wpList_append_any _ rfl (.tmp 65) (.tmp 69) _ rfl w1.heap.size TKd i0 _ 2 32 Try.underlying75 HI0.out HZ0.out hz1 hz2 rfl (by omega) v j xs rfl (own_later HXO.out HBA.out) _ (some ⟨w4.heap.size,0,none⟩) 1 1 [.slice Ak kl ck,.int .i64 (pg:Int)] rfl (reads_blk (Blk.new w4 TKd _) rfl rfl) (by intro u hu; simp at hu; rcases hu with rfl | rfl <;> rfl) (by unfold maxLen; omega) (by omega) (Nat.le_trans HS.out.bel.size HBA.out.size) ?_; intro v' w5 ho hgb hoo; (obtain ⟨A5,c5,rfl,hc5⟩:=own_slice ho); have HO5:=hide ho; have HG5:=hide hgb; have HOO5:=hide hoo; have HB5:=hide (((HS.out.blk.below HBA.out HS.out.blk.lt).grown hgb (fun e=>HS.out.ng e.symm))); clear ho hgb hoo kg fg zg; have kg:=HB5.out.cell; have fg:=HB5.out.frozen; have zg:=HB5.out.lt)
   obtain ⟨w6,hw6⟩:∃ y,w5.setCell ⟨g,1,none⟩ (.slice A5 (j + 1) c5) = y:=⟨_,rfl⟩
   have HS6:=hide (show RsG KdR TKd (fun v=>#[.slice none 0 0,v]) w1 w6 g (.slice A5 (j + 1) c5) (is.take j ++ [y]) from
    RsG.push @KdR.keep HS.out HBA.out (xs:=xs) ⟨by rw [HTL.out]; exact HXO.out,HXL.out⟩ HA4.out (by rw [HTL.out]; exact HO5.out) HG5.out HOO5.out (fun h=>hw6 ▸ h.setCell (p:=⟨g,1,none⟩) HS.out.ge _) (fun i hi=>hw6 ▸ Below.heap_setCell _ _ _ _ hi) (fun h=>hw6 ▸ h.set_ 1 _))
   rw [← HTK.out] at HS6
   rw [hw6]
   clear hw6 kg fg zg HS HS4 HB5 HO5 HG5 HOO5 HA4 HBA HXO HXL HBB
   go_wp2_with fail
   go_roundw
   case rel=>exact ⟨j + 1,p + 1 + kl + 4,_,by go_num,by omega,HNX,HS6⟩
   case measure=>simp [intOf]; have:=HNX.out; have:=sumK_le is (j + 1); have:=HML.out; omega
  ·obtain rfl:j = is.length:=by omega
   have HTI:=hide (show is.take is.length = is from List.take_length)
   rw [HTI.out] at HS HP0
   obtain rfl:p = m:=by have:=HP0.out; have:=HML.out; omega
   obtain ⟨xs,hxo,hxl⟩:=HS.out.row
   obtain ⟨Ai,ci,rfl,hci⟩:=own_slice hxo
   have hl1:0 < is.length:=List.length_pos_iff.2 h0
   obtain ⟨q,hq⟩:∃ q,is.length = q:=⟨_,rfl⟩
   have kg:=HS.out.blk.cell; have fg:=HS.out.blk.frozen; have zg:=HS.out.blk.lt
   have HSL:=hide (HS.out.sl @KdR.keep)
   rw [hq] at kg hl1 hci ⊢
   have HQ:=hide hq
   have hq6:q ≤ 600:=by
    have:=len_sumK is
    have:=HML.out
    omega
   have d5:(wrap64 (q:Int) == 0) = false:=w64_pos hl1 hq6
   clear hxo hxl hq
   go_upto_region 21 with fail
   go_quiet (fail)
   obtain ⟨w9,hw9⟩:∃ y,wr.drewN nq = y:=⟨_,rfl⟩
   have HB9:=hide (show Below wr.heap.size wr w9 from hw9 ▸ below_drewN (Below.refl _ _) nq)
   rw [hw9]
   clear hw9 kg fg zg
   go_wp2_with fail
   have hbw:Below w1.heap.size w1 w9:=HS.out.bel.trans (HB9.out.mono HS.out.bel.size)
   refine bodyPost_ret (v:=.tuple #[.pointer (some ⟨g,0,none⟩),.int .i64 0]) (by simp (maxDischargeDepth:=9) [results,Try.results27,go_sem]; done) rfl ⟨⟨g,rfl,?_⟩,HP1.out.below hbw,HF1.out.trans (Fr.low hbw) (fun _ _ h=>h)⟩
   refine ⟨.slice none 0 0,.slice Ai q ci,?_,Nat.le_trans hg' (hg ▸ HS.out.ge),SL.nil _ _,?_⟩
   ·have:=HS.out.blk.below HB9.out HS.out.blk.lt
    rwa [HQ.out] at this
   ·have:=HSL.out.keep @KdR.keep (F':=fun j=>w.heap.size ≤ j) (fun j _ hj=>HB9.out.block j hj) (fun j hj _=>Nat.le_trans hg' hj)
    rwa [HQ.out] at this
end Go.Proofs.Ytkolacaceaamoaa
