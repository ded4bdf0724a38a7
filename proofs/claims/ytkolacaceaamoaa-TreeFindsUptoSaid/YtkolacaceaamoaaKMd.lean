/- The tree: binary search. -/
import Derived.Test.YtkolacaceaamoaaKMc
/- The tree: binary search. -/
set_option linter.unusedSimpArgs false
set_option linter.unusedVariables false
namespace Go.Proofs.Ytkolacaceaamoaa
open Go.RowKit
/-- How the key at a place compares. -/
def cmpK (l:List Cn) (key:Cn) (i:Nat):Int:=Lib.compareBytes (l.getD i []) key
/-- What a search answers. -/
def FoundAt (l:List Cn) (key:Cn) (k:Nat) (f:Bool):Prop:=k ≤ l.length ∧ (0 < k → cmpK l key (k - 1) < 0) ∧ (k < l.length → 0 ≤ cmpK l key k) ∧ f = decide (k < l.length ∧ cmpK l key k = 0)
theorem getD_map {is:List It} {j:Nat} (h:j < is.length):(is.map It.k).getD j [] = is[j].k:=by
 simp [List.getD,h]
set_option maxRecDepth 100000 in
set_option maxHeartbeats 2000000 in
theorem search_items {w:World} {vl vk:Value} {is:List It} {key:Cn} (h:SL ItR w (fun j=>j < w.heap.size) vl is) (hk:BSw w vk key) (hl:is.length ≤ 100000) :
  Calls Try.prog 30 #[vl,vk,.func (.func 31) #[] #[]] w fun e w'=>∃ (k:Nat) (f:Bool),e = .returned (.tuple #[.int .i64 (k:Int),.bool f]) ∧ FoundAt (is.map It.k) key k f ∧ Below w.heap.size w w':=by
 obtain ⟨Ai,ci,xs,rfl,hci,hri,hli⟩:=h
 have HRI:=hide hri
 have HLI:=hide hli
 have HK:=hide hk
 obtain ⟨q,hq⟩:∃ q,is.length = q:=⟨_,rfl⟩
 have HQ:=hide hq
 rw [hq] at hci hl HRI ⊢
 clear hri hli hk hq
 go_enter Try.func30,Try.ntmps30
 go_wp2_with fail
 go_loopw [9,10] (fun bx iv wr=>∃ i j:Nat,bx = .int .i64 (i:Int) ∧ iv = .int .i64 (j:Int) ∧ i ≤ j ∧ j ≤ q ∧ Hid (0 < i → cmpK (is.map It.k) key (i - 1) < 0) ∧ Hid (j < q → 0 ≤ cmpK (is.map It.k) key j) ∧ Hid (Below w.heap.size w wr)) (fun bx iv _=>(intOf iv).toNat - (intOf bx).toNat)
 case atStart=>exact ⟨0,q,by go_num,rfl,by omega,by omega,hide (fun h=>absurd h (by omega)),hide (fun h=>absurd h (by omega)),hide (Below.refl _ _)⟩
 case round=>
  obtain ⟨i,j,rfl,rfl,hij,hjq,HI,HJ,HB⟩:=hrel
  by_cases hlt:i < j
  ·go_upto_region 5 with fail
   obtain ⟨m,hm⟩:∃ m,(i + j) / 2 = m:=⟨_,rfl⟩
   have em:((i:Int) + (j:Int)) / 2 = (m:Int):=by omega
   have hm1:i ≤ m ∧ m < j:=by omega
   rw [em]
   clear em hm
   obtain ⟨ad,hA,had,hcell⟩:=HRI.out.2 (by omega)
   subst hA
   have hj':m < is.length:=by rw [HQ.out]; omega
   obtain ⟨cs,hit,hcs⟩:=LR.at_ (k:=2) (fun a cs h=>h.two) is xs HLI.out m hj'
   obtain ⟨a0,a1,rfl,hk,hv⟩:=hit
   obtain ⟨Ak,ck,rfl,hck,hrk⟩:=hk
   obtain ⟨Av,cv,rfl,hcv,hrv⟩:=hv
   have HBK:=hide (show BSw wr (.slice Ak is[m].k.length ck) is[m].k from BS.later ⟨Ak,ck,rfl,hck,hrk⟩ HB.out)
   have HCK:=hide (show cmpK (is.map It.k) key m = Lib.compareBytes is[m].k key by unfold cmpK; rw [getD_map hj'])
   have HKW:=hide (HK.out.later HB.out)
   have hc2:w.cell? (ad.add (m * 2)) = some (.slice Ak is[m].k.length ck) ∧ w.cell? ⟨(ad.add (m * 2)).block,(ad.add (m * 2)).off + 1,none⟩ = some (.slice Av is[m].v.length cv):=by
    have q0:=hcell (m * 2 + 0) _ (hcs 0 (by omega))
    have q1:=hcell (m * 2 + 1) _ (hcs 1 (by omega))
    exact two_cells (by simpa using q0) q1
   clear hrk hrv hcs hcell
   obtain ⟨y,hy⟩:∃ y,is[m] = y:=⟨_,rfl⟩
   rw [hy] at HBK HCK hc2 hck hcv
   clear hy
   obtain ⟨kl,hkl⟩:∃ kl,y.k.length = kl:=⟨_,rfl⟩
   obtain ⟨vl,hvl⟩:∃ vl,y.v.length = vl:=⟨_,rfl⟩
   rw [hkl] at HBK hc2 hck
   rw [hvl] at hc2 hcv
   clear hkl hvl
   have k0:=(HB.out.cell (show (ad.add (m * 2)).block < w.heap.size by rw [block_of_add]; exact had)).trans hc2.1
   have k1:=(HB.out.cell (p:=⟨(ad.add (m * 2)).block,(ad.add (m * 2)).off + 1,none⟩) (show (ad.add (m * 2)).block < w.heap.size by rw [block_of_add]; exact had)).trans hc2.2
   have zz0:ad.block < wr.heap.size:=Nat.lt_of_lt_of_le had HB.out.size
   have hjc:m ≤ ci:=by omega
   have hjc2:m < ci:=by omega
   clear hc2
   obtain ⟨c,hc⟩:∃ c,Lib.compareBytes y.k key = c:=⟨_,rfl⟩
   rw [hc] at HCK
   by_cases hneg:c < 0
   ·go_wp2_with (go_at_call 31; (refine (byKey_any HBK.out HKW.out ⟨_,_,_,rfl⟩).mono ?_); rintro e w2 ⟨rfl,hb⟩; rw [hc]; have HB2:=hide (HB.out.trans (hb.mono HB.out.size)); clear hb k0 k1 zz0)
    refine ⟨⟨m + 1,j,by push_cast; rfl,rfl,by omega,by omega,hide (fun _=>by rw [Nat.add_sub_cancel,HCK.out]; exact hneg),HJ,HB2⟩,?_⟩
    simp [intOf]
    omega
   ·go_wp2_with (go_at_call 31; (refine (byKey_any HBK.out HKW.out ⟨_,_,_,rfl⟩).mono ?_); rintro e w2 ⟨rfl,hb⟩; rw [hc]; have HB2:=hide (HB.out.trans (hb.mono HB.out.size)); clear hb k0 k1 zz0)
    refine ⟨⟨i,m,rfl,rfl,by omega,by omega,HI,hide (fun _=>by rw [HCK.out]; omega),HB2⟩,?_⟩
    simp [intOf]
    omega
  ·obtain rfl:i = j:=by omega
   go_upto_region 8 with fail
   by_cases hiq:i < q
   ·obtain ⟨ad,hA,had,hcell⟩:=HRI.out.2 (by omega)
    subst hA
    have hj':i < is.length:=by rw [HQ.out]; omega
    obtain ⟨cs,hit,hcs⟩:=LR.at_ (k:=2) (fun a cs h=>h.two) is xs HLI.out i hj'
    obtain ⟨a0,a1,rfl,hk,hv⟩:=hit
    obtain ⟨Ak,ck,rfl,hck,hrk⟩:=hk
    obtain ⟨Av,cv,rfl,hcv,hrv⟩:=hv
    have HBK:=hide (show BSw wr (.slice Ak is[i].k.length ck) is[i].k from BS.later ⟨Ak,ck,rfl,hck,hrk⟩ HB.out)
    have HCK:=hide (show cmpK (is.map It.k) key i = Lib.compareBytes is[i].k key by unfold cmpK; rw [getD_map hj'])
    have HKW:=hide (HK.out.later HB.out)
    have hc2:w.cell? (ad.add (i * 2)) = some (.slice Ak is[i].k.length ck) ∧ w.cell? ⟨(ad.add (i * 2)).block,(ad.add (i * 2)).off + 1,none⟩ = some (.slice Av is[i].v.length cv):=by
     have q0:=hcell (i * 2 + 0) _ (hcs 0 (by omega))
     have q1:=hcell (i * 2 + 1) _ (hcs 1 (by omega))
     exact two_cells (by simpa using q0) q1
    clear hrk hrv hcs hcell
    obtain ⟨y,hy⟩:∃ y,is[i] = y:=⟨_,rfl⟩
    rw [hy] at HBK HCK hc2 hck hcv
    clear hy
    obtain ⟨kl,hkl⟩:∃ kl,y.k.length = kl:=⟨_,rfl⟩
    obtain ⟨vl,hvl⟩:∃ vl,y.v.length = vl:=⟨_,rfl⟩
    rw [hkl] at HBK hc2 hck
    rw [hvl] at hc2 hcv
    clear hkl hvl
    have k0:=(HB.out.cell (show (ad.add (i * 2)).block < w.heap.size by rw [block_of_add]; exact had)).trans hc2.1
    have k1:=(HB.out.cell (p:=⟨(ad.add (i * 2)).block,(ad.add (i * 2)).off + 1,none⟩) (show (ad.add (i * 2)).block < w.heap.size by rw [block_of_add]; exact had)).trans hc2.2
    have zz0:ad.block < wr.heap.size:=Nat.lt_of_lt_of_le had HB.out.size
    have hjc:i ≤ ci:=by omega
    have hjc2:i < ci:=by omega
    clear hc2
    obtain ⟨c,hc⟩:∃ c,Lib.compareBytes y.k key = c:=⟨_,rfl⟩
    rw [hc] at HCK
    go_wp2_with (go_at_call 31; (refine (byKey_any HBK.out HKW.out ⟨_,_,_,rfl⟩).mono ?_); rintro e w2 ⟨rfl,hb⟩; rw [hc]; have HB2:=hide (HB.out.trans (hb.mono HB.out.size)); clear hb k0 k1 zz0)
    refine bodyPost_ret (v:=.tuple #[.int .i64 (i:Int),.bool (c == 0)]) (by simp (maxDischargeDepth:=9) [results,Try.results30,go_sem]; done) rfl ?_
    refine ⟨i,_,rfl,⟨by simpa [HQ.out] using hjq,HI.out,fun h=>HJ.out hiq,?_⟩,HB2.out⟩
    rw [HCK.out]
    by_cases h0:c = 0 <;> simp [HQ.out,hiq,h0]
   ·go_wp2_with fail
    refine bodyPost_ret (v:=.tuple #[.int .i64 (i:Int),.bool false]) (by simp (maxDischargeDepth:=9) [results,Try.results30,go_sem]; done) rfl ?_
    refine ⟨i,_,rfl,⟨by simpa [HQ.out] using hjq,HI.out,fun h=>absurd h (by simpa [HQ.out] using hiq),?_⟩,HB.out⟩
    simp [HQ.out,hiq]
end Go.Proofs.Ytkolacaceaamoaa
/- The tree: binary search among kids. -/
namespace Go.Proofs.Ytkolacaceaamoaa
open Go.RowKit
theorem getD_mapK {is:List Kd} {j:Nat} (h:j < is.length):(is.map Kd.k).getD j [] = is[j].k:=by
 simp [List.getD,h]
set_option maxRecDepth 100000 in
set_option maxHeartbeats 2000000 in
theorem search_kids {w:World} {vl vk:Value} {is:List Kd} {key:Cn} (h:SL KdR w (fun j=>j < w.heap.size) vl is) (hk:BSw w vk key) (hl:is.length ≤ 100000) :
  Calls Try.prog 46 #[vl,vk,.func (.func 47) #[] #[]] w fun e w'=>∃ (k:Nat) (f:Bool),e = .returned (.tuple #[.int .i64 (k:Int),.bool f]) ∧ FoundAt (is.map Kd.k) key k f ∧ Below w.heap.size w w':=by
 obtain ⟨Ai,ci,xs,rfl,hci,hri,hli⟩:=h
 have HRI:=hide hri
 have HLI:=hide hli
 have HK:=hide hk
 obtain ⟨q,hq⟩:∃ q,is.length = q:=⟨_,rfl⟩
 have HQ:=hide hq
 rw [hq] at hci hl HRI ⊢
 clear hri hli hk hq
 go_enter Try.func46,Try.ntmps46
 go_wp2_with fail
 go_loopw [9,10] (fun bx iv wr=>∃ i j:Nat,bx = .int .i64 (i:Int) ∧ iv = .int .i64 (j:Int) ∧ i ≤ j ∧ j ≤ q ∧ Hid (0 < i → cmpK (is.map Kd.k) key (i - 1) < 0) ∧ Hid (j < q → 0 ≤ cmpK (is.map Kd.k) key j) ∧ Hid (Below w.heap.size w wr)) (fun bx iv _=>(intOf iv).toNat - (intOf bx).toNat)
 case atStart=>exact ⟨0,q,by go_num,rfl,by omega,by omega,hide (fun h=>absurd h (by omega)),hide (fun h=>absurd h (by omega)),hide (Below.refl _ _)⟩
 case round=>
  obtain ⟨i,j,rfl,rfl,hij,hjq,HI,HJ,HB⟩:=hrel
  by_cases hlt:i < j
  ·go_upto_region 5 with fail
   obtain ⟨m,hm⟩:∃ m,(i + j) / 2 = m:=⟨_,rfl⟩
   have em:((i:Int) + (j:Int)) / 2 = (m:Int):=by omega
   have hm1:i ≤ m ∧ m < j:=by omega
   rw [em]
   clear em hm
   obtain ⟨ad,hA,had,hcell⟩:=HRI.out.2 (by omega)
   subst hA
   have hj':m < is.length:=by rw [HQ.out]; omega
   obtain ⟨cs,hit,hcs⟩:=LR.at_ (k:=2) (fun a cs h=>h.two) is xs HLI.out m hj'
   obtain ⟨a0,rfl,hk⟩:=hit
   obtain ⟨Ak,ck,rfl,hck,hrk⟩:=hk
   have HBK:=hide (show BSw wr (.slice Ak is[m].k.length ck) is[m].k from BS.later ⟨Ak,ck,rfl,hck,hrk⟩ HB.out)
   have HCK:=hide (show cmpK (is.map Kd.k) key m = Lib.compareBytes is[m].k key by unfold cmpK; rw [getD_mapK hj'])
   have HKW:=hide (HK.out.later HB.out)
   have hc2:w.cell? (ad.add (m * 2)) = some (.slice Ak is[m].k.length ck) ∧ w.cell? ⟨(ad.add (m * 2)).block,(ad.add (m * 2)).off + 1,none⟩ = some (.int .i64 (is[m].p:Int)):=by
    have q0:=hcell (m * 2 + 0) _ (hcs 0 (by omega))
    have q1:=hcell (m * 2 + 1) _ (hcs 1 (by omega))
    exact two_cells (by simpa using q0) q1
   clear hrk hcs hcell
   obtain ⟨y,hy⟩:∃ y,is[m] = y:=⟨_,rfl⟩
   rw [hy] at HBK HCK hc2 hck
   clear hy
   obtain ⟨kl,hkl⟩:∃ kl,y.k.length = kl:=⟨_,rfl⟩
   rw [hkl] at HBK hc2 hck
   clear hkl
   have k0:=(HB.out.cell (show (ad.add (m * 2)).block < w.heap.size by rw [block_of_add]; exact had)).trans hc2.1
   have k1:=(HB.out.cell (p:=⟨(ad.add (m * 2)).block,(ad.add (m * 2)).off + 1,none⟩) (show (ad.add (m * 2)).block < w.heap.size by rw [block_of_add]; exact had)).trans hc2.2
   have zz0:ad.block < wr.heap.size:=Nat.lt_of_lt_of_le had HB.out.size
   have hjc:m ≤ ci:=by omega
   have hjc2:m < ci:=by omega
   clear hc2
   obtain ⟨c,hc⟩:∃ c,Lib.compareBytes y.k key = c:=⟨_,rfl⟩
   rw [hc] at HCK
   by_cases hneg:c < 0
   ·go_wp2_with (go_at_call 47; (refine (downCmp_any HBK.out HKW.out).mono ?_); rintro e w2 ⟨rfl,hb⟩; rw [hc]; have HB2:=hide (HB.out.trans (hb.mono HB.out.size)); clear hb k0 k1 zz0)
    refine ⟨⟨m + 1,j,by push_cast; rfl,rfl,by omega,by omega,hide (fun _=>by rw [Nat.add_sub_cancel,HCK.out]; exact hneg),HJ,HB2⟩,?_⟩
    simp [intOf]
    omega
   ·go_wp2_with (go_at_call 47; (refine (downCmp_any HBK.out HKW.out).mono ?_); rintro e w2 ⟨rfl,hb⟩; rw [hc]; have HB2:=hide (HB.out.trans (hb.mono HB.out.size)); clear hb k0 k1 zz0)
    refine ⟨⟨i,m,rfl,rfl,by omega,by omega,HI,hide (fun _=>by rw [HCK.out]; omega),HB2⟩,?_⟩
    simp [intOf]
    omega
  ·obtain rfl:i = j:=by omega
   go_upto_region 8 with fail
   by_cases hiq:i < q
   ·obtain ⟨ad,hA,had,hcell⟩:=HRI.out.2 (by omega)
    subst hA
    have hj':i < is.length:=by rw [HQ.out]; omega
    obtain ⟨cs,hit,hcs⟩:=LR.at_ (k:=2) (fun a cs h=>h.two) is xs HLI.out i hj'
    obtain ⟨a0,rfl,hk⟩:=hit
    obtain ⟨Ak,ck,rfl,hck,hrk⟩:=hk
    have HBK:=hide (show BSw wr (.slice Ak is[i].k.length ck) is[i].k from BS.later ⟨Ak,ck,rfl,hck,hrk⟩ HB.out)
    have HCK:=hide (show cmpK (is.map Kd.k) key i = Lib.compareBytes is[i].k key by unfold cmpK; rw [getD_mapK hj'])
    have HKW:=hide (HK.out.later HB.out)
    have hc2:w.cell? (ad.add (i * 2)) = some (.slice Ak is[i].k.length ck) ∧ w.cell? ⟨(ad.add (i * 2)).block,(ad.add (i * 2)).off + 1,none⟩ = some (.int .i64 (is[i].p:Int)):=by
     have q0:=hcell (i * 2 + 0) _ (hcs 0 (by omega))
     have q1:=hcell (i * 2 + 1) _ (hcs 1 (by omega))
     exact two_cells (by simpa using q0) q1
    clear hrk hcs hcell
    obtain ⟨y,hy⟩:∃ y,is[i] = y:=⟨_,rfl⟩
    rw [hy] at HBK HCK hc2 hck
    clear hy
    obtain ⟨kl,hkl⟩:∃ kl,y.k.length = kl:=⟨_,rfl⟩
    rw [hkl] at HBK hc2 hck
    clear hkl
    have k0:=(HB.out.cell (show (ad.add (i * 2)).block < w.heap.size by rw [block_of_add]; exact had)).trans hc2.1
    have k1:=(HB.out.cell (p:=⟨(ad.add (i * 2)).block,(ad.add (i * 2)).off + 1,none⟩) (show (ad.add (i * 2)).block < w.heap.size by rw [block_of_add]; exact had)).trans hc2.2
    have zz0:ad.block < wr.heap.size:=Nat.lt_of_lt_of_le had HB.out.size
    have hjc:i ≤ ci:=by omega
    have hjc2:i < ci:=by omega
    clear hc2
    obtain ⟨c,hc⟩:∃ c,Lib.compareBytes y.k key = c:=⟨_,rfl⟩
    rw [hc] at HCK
    go_wp2_with (go_at_call 47; (refine (downCmp_any HBK.out HKW.out).mono ?_); rintro e w2 ⟨rfl,hb⟩; rw [hc]; have HB2:=hide (HB.out.trans (hb.mono HB.out.size)); clear hb k0 k1 zz0)
    refine bodyPost_ret (v:=.tuple #[.int .i64 (i:Int),.bool (c == 0)]) (by simp (maxDischargeDepth:=9) [results,Try.results46,go_sem]; done) rfl ?_
    refine ⟨i,_,rfl,⟨by simpa [HQ.out] using hjq,HI.out,fun h=>HJ.out hiq,?_⟩,HB2.out⟩
    rw [HCK.out]
    by_cases h0:c = 0 <;> simp [HQ.out,hiq,h0]
   ·go_wp2_with fail
    refine bodyPost_ret (v:=.tuple #[.int .i64 (i:Int),.bool false]) (by simp (maxDischargeDepth:=9) [results,Try.results46,go_sem]; done) rfl ?_
    refine ⟨i,_,rfl,⟨by simpa [HQ.out] using hjq,HI.out,fun h=>absurd h (by simpa [HQ.out] using hiq),?_⟩,HB.out⟩
    simp [HQ.out,hiq]
end Go.Proofs.Ytkolacaceaamoaa
/- The tree: the kid whose part a key belongs to; Get. -/
namespace Go.Proofs.Ytkolacaceaamoaa
open Go.RowKit
/-- What down answers. -/
def DownAt (l:List Cn) (key:Cn) (k:Nat):Prop:=∃ k0 f,FoundAt l key k0 f ∧ k = if f = true then k0 else k0 - 1
theorem DownAt.lt {l:List Cn} {key:Cn} {k:Nat} (h:DownAt l key k) (h0:0 < l.length):k < l.length:=by
 obtain ⟨k0,f,⟨h1,_,_,h4⟩,e⟩:=h
 cases f with
 | true=>
  have:=h4.symm
  simp at this
  simp at e
  omega
 | false=>
  simp at e
  omega
set_option maxRecDepth 100000 in
theorem ndown_any {w:World} {g:Nat} {is:List It} {ks:List Kd} {vk:Value} {key:Cn} (h:NdR w (fun j=>j < w.heap.size) g is ks) (hk:BSw w vk key) (hl:ks.length ≤ 100000) :
  Calls Try.prog 29 #[.pointer (some ⟨g,0,none⟩),vk] w fun e w'=>∃ k:Nat,e = .returned (.int .i64 (k:Int)) ∧ DownAt (ks.map Kd.k) key k ∧ Below w.heap.size w w':=by
 obtain ⟨vi,vks,hb,_,_,h2⟩:=h
 have HS:=hide h2
 have HK:=hide hk
 have kg:=hb.cell 1; have fg:=hb.frozen; have zg:=hb.lt
 simp at kg
 clear hb h2 hk
 go_enter Try.func29,Try.ntmps29
 go_upto_region 2 with (go_at_call 46; (refine (search_kids HS.out HK.out hl).mono ?_); rintro e w2 ⟨k0,f,rfl,hf,hb⟩; have HF:=hide hf; have HB2:=hide hb; clear hf hb kg fg zg)
 have hk0:k0 ≤ 100000:=by
  have:=HF.out.1
  rw [List.length_map] at this
  omega
 cases f with
 | true=>
  go_wp2_with fail
  go_ret
  exact ⟨k0,rfl,⟨k0,true,HF.out,rfl⟩,HB2.out⟩
 | false=>
  by_cases h0:k0 = 0
  ·subst h0
   go_wp2_with fail
   go_ret
   exact ⟨0,rfl,⟨0,false,HF.out,rfl⟩,HB2.out⟩
  ·go_wp2_with fail
   go_ret
   exact ⟨k0 - 1,by rw [show ((k0 - 1:Nat):Int) = (k0:Int) - 1 by omega]; rfl,⟨k0,false,HF.out,rfl⟩,HB2.out⟩
end Go.Proofs.Ytkolacaceaamoaa
