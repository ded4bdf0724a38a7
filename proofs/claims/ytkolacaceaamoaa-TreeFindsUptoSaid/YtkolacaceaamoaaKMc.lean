/- The tree: bytes.Compare, the comparers, leaf, alive. -/
import Derived.Test.YtkolacaceaamoaaKMb
import Derived.Test.YtkolacaceaamoaaKM1
import Derived.Lib.BytesEntry
import Derived.OneCell
/- The tree: bytes.Compare, the comparers, leaf, alive. -/
set_option linter.unusedSimpArgs false
set_option linter.unusedVariables false
namespace Go.Proofs.Ytkolacaceaamoaa
open Go.RowKit
theorem bytes_back (l:Cn):Lib.bytesOf (l.map fun x=>(x.toNat:Int)) = l:=by
 induction l with
 | nil=>rfl
 | cons x l ih=>
  unfold Lib.bytesOf at ih ⊢
  simp only [List.map_cons,List.map_map] at ih ⊢
  rw [ih]
  simp
theorem run_bytesOf {P:Program} {w:World} {B:Nat} {A:Option Addr} {n c:Nat} {l:Cn} (h:RB w B A n l):(Extern.Bytes.bytesOf (.slice A n c)).run P w = .ok ⟨l.toArray⟩ w:=by
 have hl:=RB.len h
 rcases A with _ | ad
 ·have hn:n = 0:=by
   rcases Nat.eq_zero_or_pos n with q | q
   ·exact q
   ·obtain ⟨_,e,_⟩:=h.2 q
    cases e
  have:l = []:=List.eq_nil_of_length_eq_zero (hl.trans hn)
  subst this
  rfl
 ·have hc:∀ j x,(l.map fun x=>(x.toNat:Int))[j]? = some x → w.cell? (ad.add j) = some (.int .u8 x):=fun j x hj=>by
   have hj2:=(List.getElem?_eq_some_iff.1 hj).1
   rw [List.length_map] at hj2
   obtain ⟨ad',e,_,hk⟩:=RB.at_ h (k:=j) (by omega) hj2
   injection e with e
   subst e
   rw [hk]
   rw [List.getElem?_map,List.getElem?_eq_getElem hj2] at hj
   simp at hj
   rw [hj]
  have:=Lib.run_loadBytesX (P:=P) w (l.map fun x=>(x.toNat:Int)) ad .empty hc
  rw [List.length_map,hl,bytes_back] at this
  show (Extern.Bytes.loadBytes ad n .empty).run P w = _
  rw [this]
  congr 1
  apply ByteArray.ext
  show (#[]:Array UInt8) ++ l.toArray = l.toArray
  simp
theorem run_compare {P:Program} {w:World} {B B':Nat} {A A':Option Addr} {n c n' c':Nat} {l l':Cn} (h:RB w B A n l) (h':RB w B' A' n' l') :
  (Extern.BytealgCompare.compare #[.slice A n c,.slice A' n' c']).run P w = .ok (.int .i64 (Lib.compareBytes l l')) w:=by
 change Sem.run P (do pure (goInt (Extern.BytealgCompare.cmp (← Extern.Bytes.bytesOf (.slice A n c)) (← Extern.Bytes.bytesOf (.slice A' n' c'))))) w = _
 simp only [Sem.run_bind,Sem.run_pure,run_bytesOf h,run_bytesOf h',Result.andThen]
 rw [Lib.cmp_eq]
 rfl
set_option maxRecDepth 100000 in
theorem compare_any {w:World} {B B':Nat} {A A':Option Addr} {n c n' c':Nat} {l l':Cn} (h:RB w B A n l) (h':RB w B' A' n' l') :
  Calls Try.prog 26 #[.slice A n c,.slice A' n' c'] w fun e w'=>e = .returned (.int .i64 (Lib.compareBytes l l')) ∧ w' = w:=by
 go_enter Try.func26,Try.ntmps26
 go_wp2_with fail
 rw [run_callFunc_extern Try.func42 (by kernel_rfl) (by kernel_rfl) (by kernel_rfl) (e:=Extern.BytealgCompare.compare) (by kernel_rfl),run_compare h h']
 simp only [Result.andThen]
 rw [Oper.upon_value]
 go_wp2_with fail
 go_ret
 exact ⟨rfl,rfl⟩
abbrev BSw (w:World) (v:Value) (l:Cn):Prop:=BS w (fun j=>j < w.heap.size) v l
theorem BS.all {w:World} {F:Nat → Prop} {v:Value} {l:Cn} (h:BS w F v l):BSw w v l:=h.keep (fun _ _ _=>rfl) (fun _ _ h=>h)
theorem BS.later {w w':World} {v:Value} {l:Cn} (h:BSw w v l) (hb:Below w.heap.size w w'):BSw w' v l:=h.keep (fun j _ hj=>hb.block j hj) (fun j _ hj=>Nat.lt_of_lt_of_le hj hb.size)
theorem compare_bs {w:World} {v v':Value} {l l':Cn} (h:BSw w v l) (h':BSw w v' l') :
  Calls Try.prog 26 #[v,v'] w fun e w'=>e = .returned (.int .i64 (Lib.compareBytes l l')) ∧ w' = w:=by
 obtain ⟨A,c,rfl,_,hr⟩:=h
 obtain ⟨A',c',rfl,_,hr'⟩:=h'
 exact compare_any hr.rb hr'.rb
set_option maxRecDepth 100000 in
theorem byKey_any {w:World} {a b v':Value} {l l':Cn} (h:BSw w a l) (h':BSw w v' l') (hb2:∃ A n c,b = .slice A n c) :
  Calls Try.prog 31 #[.agg #[a,b],v'] w fun e w'=>e = .returned (.int .i64 (Lib.compareBytes l l')) ∧ Below w.heap.size w w':=by
 obtain ⟨A,c,rfl,hc1,hr1⟩:=h
 obtain ⟨A2,n2,c2,rfl⟩:=hb2
 have h:BSw w (.slice A l.length c) l:=⟨A,c,rfl,hc1,hr1⟩
 obtain ⟨w1,hw1⟩:∃ y,w.alloc (.cells #[.slice A l.length c,.slice A2 n2 c2] TIt) = y:=⟨_,rfl⟩
 have HB1:=hide (show Below w.heap.size w w1 from hw1 ▸ al_below w _)
 have HC1:=hide (show Blk w1 w.heap.size TIt #[.slice A l.length c,.slice A2 n2 c2] from hw1 ▸ Blk.new _ _ _)
 have HK:=hide (h.later HB1.out)
 have HK':=hide (h'.later HB1.out)
 have HW1:=hide hw1
 clear hw1 h h'
 go_enter Try.func31,Try.ntmps31
 go_upto_region 1 with fail
 rw [HW1.out]
 have kv:=HC1.out.cell; have fv:=HC1.out.frozen; have zv:=HC1.out.lt
 go_wp2_with (go_at_call 26; (refine (compare_bs HK.out HK'.out).mono ?_); rintro e w2 ⟨rfl,rfl⟩)
 go_ret
 exact ⟨rfl,HB1.out⟩
set_option maxRecDepth 100000 in
theorem downCmp_any {w:World} {a v':Value} {p:Int} {l l':Cn} (h:BSw w a l) (h':BSw w v' l') :
  Calls Try.prog 47 #[.agg #[a,.int .i64 p],v'] w fun e w'=>e = .returned (.int .i64 (Lib.compareBytes l l')) ∧ Below w.heap.size w w':=by
 obtain ⟨A,c,rfl,hc1,hr1⟩:=h
 have h:BSw w (.slice A l.length c) l:=⟨A,c,rfl,hc1,hr1⟩
 obtain ⟨w1,hw1⟩:∃ y,w.alloc (.cells #[.slice A l.length c,.int .i64 p] TKd) = y:=⟨_,rfl⟩
 have HB1:=hide (show Below w.heap.size w w1 from hw1 ▸ al_below w _)
 have HC1:=hide (show Blk w1 w.heap.size TKd #[.slice A l.length c,.int .i64 p] from hw1 ▸ Blk.new _ _ _)
 have HK:=hide (h.later HB1.out)
 have HK':=hide (h'.later HB1.out)
 have HW1:=hide hw1
 clear hw1 h h'
 go_enter Try.func47,Try.ntmps47
 go_upto_region 1 with fail
 rw [HW1.out]
 have kv:=HC1.out.cell; have fv:=HC1.out.frozen; have zv:=HC1.out.lt
 go_wp2_with (go_at_call 26; (refine (compare_bs HK.out HK'.out).mono ?_); rintro e w2 ⟨rfl,rfl⟩)
 go_ret
 exact ⟨rfl,HB1.out⟩
theorem SL.slice {α:Type} {R:World → (Nat → Prop) → α → List Value → Prop} {w:World} {F:Nat → Prop} {v:Value} {l:List α} (h:SL R w F v l):∃ A c,v = .slice A l.length c ∧ l.length ≤ c:=by
 obtain ⟨A,c,_,e,hc,_⟩:=h
 exact ⟨A,c,e,hc.1⟩
theorem leaf_any {w:World} {F:Nat → Prop} {g:Nat} {is:List It} {ks:List Kd} (h:NdR w F g is ks) :
  Calls Try.prog 28 #[.pointer (some ⟨g,0,none⟩)] w fun e w'=>e = .returned (.bool (decide (ks = []))) ∧ w' = w:=by
 obtain ⟨vi,vk,hb,_,h1,h2⟩:=h
 obtain ⟨A,c,rfl,_⟩:=h1.slice
 obtain ⟨A2,c2,rfl,_⟩:=h2.slice
 have kv:=hb.cell; have fv:=hb.frozen; have zv:=hb.lt
 have HD:=hide (show ((ks.length:Int) == 0) = decide (ks = []) from by cases ks <;> simp; omega)
 go_enter Try.func28,Try.ntmps28
 go_wp2_with fail
 go_ret
 exact ⟨by rw [← HD.out]; rfl,rfl⟩
theorem talive_ok {w:World} {tb pb:Nat} (h:Blk w tb TTr #[.pointer (some ⟨pb,0,none⟩)]) :
  Calls Try.prog 23 #[.pointer (some ⟨tb,0,none⟩)] w fun e w'=>e = .returned (.int .i64 0) ∧ w' = w:=by
 have kv:=h.cell; have fv:=h.frozen; have zv:=h.lt
 go_enter Try.func23,Try.ntmps23
 go_wp2_with fail
 go_ret
 exact ⟨rfl,rfl⟩
end Go.Proofs.Ytkolacaceaamoaa
/- The tree: a node as bytes. -/
namespace Go.Proofs.Ytkolacaceaamoaa
open Go.RowKit
theorem own_ne {w:World} {base n k:Nat} {e:TypeId} {v:Value} {xs:List Value} {g:Nat} {t:TypeId} {cs:Array Value} (h:w.ownsRow base e k v n xs) (hb:Blk w g t cs) (ht:t ≠ e):some g ≠ v.ownBlock:=by
 intro q
 rcases h.2 with ⟨e1,_⟩ | ⟨g',cap,cur,e1,_,hh,_⟩
 ·rw [e1] at q; cases q
 ·rw [e1] at q
  injection q with q
  subst q
  have e2:some (Obj.cells cs t (0,0)) = some (Obj.cells cur e (0,0)):=hb.symm.trans hh
  injection e2 with e2
  injection e2 with _ e2 _
  exact ht e2
/-- While bytes are put behind bytes. -/
def GB (w0:World) (xb:Nat) (T:TypeId) (cs:Array Value) (bv:Value) (n:Nat) (l:Cn) (st:Nat) (w':World):Prop:=Below w0.heap.size w0 w' ∧ Blk w' xb T cs ∧ (st ≤ 1 → w'.ownsRow w0.heap.size T8 1 bv n (cs8 l))
theorem GB.al {w0 w:World} {xb:Nat} {T:TypeId} {cs:Array Value} {bv:Value} {n:Nat} {l:Cn} (h:GB w0 xb T cs bv n l 0 w) (o:Obj):GB w0 xb T cs bv n l 1 (w.alloc o):=
 ⟨bal h.1 o,h.2.1.alloc o,fun _=>own_later (h.2.2 (by decide)) (al_below w o)⟩
theorem GB.app {w0 w w':World} {xb:Nat} {T:TypeId} {cs:Array Value} {bv v:Value} {n m:Nat} {l l':Cn} {st st':Nat} (h:GB w0 xb T cs bv n l st w) (ho:w.ownsRow w0.heap.size T8 1 v m (cs8 l')) (hT:T ≠ T8) (hg:w.grownBy w' v.ownBlock) (h2:1 < st'):GB w0 xb T cs bv n l st' w':=
 ⟨h.1.grown hg h.1.size (fun k e=>own_block ho k e),h.2.1.grown hg (own_ne ho h.2.1 hT),fun q=>absurd q (by omega)⟩
theorem app_cs (l m:Cn) (n:Nat):cs8 l ++ cs8 m = cs8 (l ++ m):=(cs8_append l m).symm
theorem spot_none {w:World} {p:Addr} {v:Value} (h:w.cell? p = some v):p.spot = none:=by
 unfold World.cell? at h
 split at h
 ·cases hs:p.spot with
  | none=>rfl
  | some s=>rw [hs] at h; simp at h
 ·cases h
theorem add_plain (q:Addr) (j:Nat) (h:q.spot = none):(⟨q.block,q.off + j,none⟩:Addr) = q.add j:=by
 unfold Addr.add
 split
 ·next e=>subst e; cases q; simp at h ⊢; exact h.symm
 ·rfl
theorem two_cells {w:World} {ad:Addr} {o:Nat} {v0 v1:Value} (h0:w.cell? (ad.add o) = some v0) (h1:w.cell? (ad.add (o + 1)) = some v1):w.cell? (ad.add o) = some v0 ∧ w.cell? ⟨(ad.add o).block,(ad.add o).off + 1,none⟩ = some v1:=by
 have hs:=spot_none h0
 rw [add_plain _ 1 hs,add_of_add]
 exact ⟨h0,h1⟩
theorem byte_arr (k:Nat) (hk:k < 256):(#[.int .u8 (k:Int)]:Array Value) = (cs8 [UInt8.ofNat k]).toArray:=by
 have:(UInt8.ofNat k).toNat = k:=by simp; omega
 simp [cs8,u8v,this]
theorem own_lt {w:World} {base n k:Nat} {e:TypeId} {v:Value} {xs:List Value} (h:w.ownsRow base e k v n xs) (g:Nat) (hg:v.ownBlock = some g):g < w.heap.size:=by
 rcases h.2 with ⟨e,_⟩ | ⟨g',cap,cur,e,_,hh,_⟩
 ·rw [e] at hg; cases hg
 ·rw [e] at hg
  injection hg with hg
  subst hg
  exact lt_of_block hh
theorem own_head {w:World} {base n:Nat} {v:Value} {x:UInt8} {l:Cn} (h:w.ownsRow base T8 1 v n (cs8 (x :: l))):∃ g c,v = .slice (some ⟨g,0,none⟩) n c ∧ 0 < n ∧ n ≤ c ∧ base ≤ g ∧ w.cell? ⟨g,0,none⟩ = some (u8v x) ∧ w.frozen? ⟨g,0,none⟩ = false ∧ g < w.heap.size ∧
  ∀ y:UInt8,(w.setCell ⟨g,0,none⟩ (u8v y)).ownsRow base T8 1 v n (cs8 (y :: l)) ∧ w.grownBy (w.setCell ⟨g,0,none⟩ (u8v y)) (some g):=by
 have hn:0 < n:=by
  have:=h.1
  simp [cs8] at this
  omega
 obtain ⟨g,c,rfl,hc,hb,_⟩:=own_some (e:=T8) h hn
 refine ⟨g,c,rfl,hn,hc,hb,?_,h.frozenAt 0,own_lt h g rfl,fun y=>?_⟩
 ·rw [h.cellAt 0 (by omega)]
  rfl
 ·have:=h.stored 0 (u8v y)
  simpa [cs8] using this
/-- The first byte. -/
def hdB (j:Nat):UInt8:=if j = 0 then 0 else 1
set_option maxRecDepth 100000 in
set_option maxHeartbeats 4000000 in
theorem nbytes_any {w:World} {g:Nat} {is:List It} {ks:List Kd} (h:NdR w (fun j=>j < w.heap.size) g is ks) (hok:∀ i ∈ is,itOk i) (hkd:∀ i ∈ ks,kdOk i) (hsz:(ndB is ks).length ≤ 50000) :
  Calls Try.prog 73 #[.pointer (some ⟨g,0,none⟩)] w fun e w'=>∃ v,e = .returned v ∧ w'.ownsRow w.heap.size T8 1 v (ndB is ks).length (cs8 (ndB is ks)) ∧ Below w.heap.size w w':=by
 obtain ⟨vi,vk,hb,_,h1,h2⟩:=h
 obtain ⟨Ai,ci,xs,rfl,hci,hri,hli⟩:=h1
 obtain ⟨A2,c2,xs2,rfl,hc2,hr2,hl2⟩:=h2
 obtain ⟨i0,hi0,hz0,hz1,hz2⟩:=info_parts u8_info
 have HI0:=hide hi0
 have HZ0:=hide hz0
 have HBN:=hide hb
 have HRI:=hide hri
 have HLI:=hide hli
 have HOK:=hide hok
 have HSZ:=hide hsz
 have kg:=hb.cell; have fg:=hb.frozen; have zg:=hb.lt
 obtain ⟨q,hq⟩:∃ q,is.length = q:=⟨_,rfl⟩
 rw [hq] at kg hci HRI
 have HQ:=hide hq
 have HR2:=hide hr2
 have HL2:=hide hl2
 have HKD:=hide hkd
 clear hi0 hz0 hb hri hli hok hsz hr2 hl2 hq hkd
 go_enter Try.func73,Try.ntmps73
 go_upto_region 2 with fail
 obtain ⟨w1,hw1⟩:∃ y,w.alloc (.cells #[.int .u8 0] T8) = y:=⟨_,rfl⟩
 have HB1:=hide (show Below w.heap.size w w1 from hw1 ▸ al_below w _)
 have HO1:=hide (show w1.ownsRow w.heap.size T8 1 (.slice (some ⟨w.heap.size,0,none⟩) 1 1) (1 + sumI (is.take 0)) (cs8 (0 :: (is.take 0).flatMap itB)) from hw1 ▸ World.ownsRow_lit w #[.int .u8 0] 1 (Nat.le_refl _) (by unfold maxLen; omega) rfl)
 have HN1:=hide (HBN.out.below HB1.out HBN.out.lt)
 rw [hw1]
 clear kg fg zg hw1
 have kg:=HN1.out.cell; have fg:=HN1.out.frozen; have zg:=HN1.out.lt
 go_upto_region 3 with fail
 clear kg fg zg
 go_wp2_with fail
 go_loopw [3,14] (fun bx iv wr=>∃ (j:Nat) (bv:Value),iv = .int .i64 (j:Int) ∧ j ≤ q ∧ bv = bx ∧ Hid (wr.ownsRow w.heap.size T8 1 bv (1 + sumI (is.take j)) (cs8 (0 :: (is.take j).flatMap itB))) ∧ Hid (Below w.heap.size w wr)) (fun _ iv _=>q - (intOf iv).toNat)
 case atStart=>exact ⟨0,_,by go_num,by omega,rfl,HO1,HB1⟩
 case round=>
  clear HO1 HB1
  obtain ⟨j,bv,rfl,hj,hbv,HO,HB⟩:=hrel
  subst hbv
  by_cases hlt:j < q
  ·obtain ⟨ad,hA,had,hcell⟩:=HRI.out.2 (by omega)
   subst hA
   obtain ⟨cs,hit,hcs⟩:=LR.at_ (k:=2) (fun a cs h=>h.two) is xs HLI.out j (by rw [HQ.out]; exact hlt)
   obtain ⟨a0,a1,rfl,hk,hv⟩:=hit
   have hj':j < is.length:=by rw [HQ.out]; exact hlt
   obtain ⟨Ak,ck,rfl,hck,hrk⟩:=hk
   obtain ⟨Av,cv,rfl,hcv,hrv⟩:=hv
   have HRAk:=hide (show RB w w.heap.size Ak is[j].k.length is[j].k from hrk.rb)
   have HRAv:=hide (show RB w w.heap.size Av is[j].v.length is[j].v from hrv.rb)
   have HKI:=hide (HOK.out is[j] (List.getElem_mem hj'))
   have HTK:=hide (show is.take (j + 1) = is.take j ++ [is[j]] from List.take_succ_eq_append_getElem hj')
   have HSM:=hide (show sumI (is.take (j + 1)) = sumI (is.take j) + szI is[j] from sumI_take hj')
   have HSL:=hide (sumI_le is (j + 1))
   have hc2:w.cell? (ad.add (j * 2)) = some (.slice Ak is[j].k.length ck) ∧ w.cell? ⟨(ad.add (j * 2)).block,(ad.add (j * 2)).off + 1,none⟩ = some (.slice Av is[j].v.length cv):=by
    have q0:=hcell (j * 2 + 0) _ (hcs 0 (by omega))
    have q1:=hcell (j * 2 + 1) _ (hcs 1 (by omega))
    exact two_cells (by simpa using q0) q1
   clear hrk hrv hcs hcell
   obtain ⟨y,hy⟩:∃ y,is[j] = y:=⟨_,rfl⟩
   rw [hy] at HRAk HRAv HKI HTK HSM hc2 hck hcv
   clear hy
   obtain ⟨kl,hkl⟩:∃ kl,y.k.length = kl:=⟨_,rfl⟩
   obtain ⟨vl,hvl⟩:∃ vl,y.v.length = vl:=⟨_,rfl⟩
   have hk2:kl ≤ 32:=hkl ▸ HKI.out.2.1
   have hv2:vl ≤ 128:=hvl ▸ HKI.out.2.2
   have HY:=hide (And.intro hkl hvl)
   rw [hkl] at HRAk hc2 hck
   rw [hvl] at HRAv hc2 hcv
   clear hkl hvl
   have k0:=(HB.out.cell (show (ad.add (j * 2)).block < w.heap.size by rw [block_of_add]; exact had)).trans hc2.1
   have k1:=(HB.out.cell (p:=⟨(ad.add (j * 2)).block,(ad.add (j * 2)).off + 1,none⟩) (show (ad.add (j * 2)).block < w.heap.size by rw [block_of_add]; exact had)).trans hc2.2
   have zz0:ad.block < wr.heap.size:=Nat.lt_of_lt_of_le had HB.out.size
   have hjc:j ≤ ci:=by omega
   have hjc2:j < ci:=by omega
   clear hc2
   go_upto_region 5 with fail
   clear k0 k1 zz0
   obtain ⟨xb,hxb⟩:∃ xb,wr.heap.size = xb:=⟨_,rfl⟩
   obtain ⟨w2,hw2⟩:∃ y,wr.alloc (.cells #[.slice Ak kl ck,.slice Av vl cv] TIt) = y:=⟨_,rfl⟩
   have HX2:=hide (show Blk w2 xb TIt #[.slice Ak kl ck,.slice Av vl cv] from hxb ▸ hw2 ▸ Blk.new _ _ _)
   have HB2:=hide (show Below w.heap.size w w2 from hw2 ▸ HB.out.alloc HB.out.size _)
   obtain ⟨l,hl⟩:∃ l,0 :: (is.take j).flatMap itB = l:=⟨_,rfl⟩
   obtain ⟨n,hn⟩:∃ n,1 + sumI (is.take j) = n:=⟨_,rfl⟩
   have HL:=hide hl
   have HN:=hide hn
   rw [hl,hn] at HO
   have HO2:=hide (show w2.ownsRow w.heap.size T8 1 bv n (cs8 l) from hw2 ▸ own_later HO.out (al_below wr _))
   have hn5:n + 1 + kl + 1 + vl ≤ 60000:=by
    have:=HSZ.out
    rw [ndB_len] at this
    have h1:=HSM.out
    have h2:=HSL.out
    have h3:=HY.out
    unfold szI at h1
    omega
   have e8:IntKind.u8.wrap (kl:Int) = (kl:Int):=by simp [IntKind.wrap,IntKind.bits,IntKind.signed]; omega
   have e9:IntKind.u8.wrap (vl:Int) = (vl:Int):=by simp [IntKind.wrap,IntKind.bits,IntKind.signed]; omega
   rw [hxb,hw2]
   clear hxb hw2 hl hn HO HB
   refine wp_region_stageW (by kernel_rfl) (by kernel_rfl) 66 3
    [⟨some 18,false,0,3,fun _ v _=>v = bv⟩,
     ⟨some 19,false,0,3,fun _ v _=>v = .pointer (some ⟨xb,0,none⟩)⟩,
     ⟨some 20,false,0,3,fun _ v _=>v = .slice Ak kl ck⟩,
     ⟨some 21,false,0,3,fun _ v _=>v = .int .i64 (kl:Int)⟩,
     ⟨some 22,false,0,3,fun _ v _=>v = .int .u8 (kl:Int)⟩,
     ⟨some 23,true,0,0,fun st v w'=>st = 1 → ∃ g1,v = .slice (some ⟨g1,0,none⟩) 1 1 ∧ Blk w' g1 T8 (cs8 [UInt8.ofNat kl]).toArray⟩,
     ⟨some 24,true,1,1,fun st v w'=>st = 2 → w'.ownsRow w.heap.size T8 1 v (n + 1) (cs8 (l ++ [UInt8.ofNat kl]))⟩,
     ⟨some 25,false,0,3,fun _ v _=>v = .pointer (some ⟨xb,0,none⟩)⟩,
     ⟨some 26,false,0,3,fun _ v _=>v = .slice Ak kl ck⟩,
     ⟨some 27,true,2,2,fun st v w'=>st = 3 → w'.ownsRow w.heap.size T8 1 v (n + 1 + kl) (cs8 (l ++ [UInt8.ofNat kl] ++ y.k))⟩,
     ⟨some 3,false,3,3,fun st v w'=>st = 3 → w'.ownsRow w.heap.size T8 1 v (n + 1 + kl) (cs8 (l ++ [UInt8.ofNat kl] ++ y.k))⟩] (fun st w'=>GB w xb TIt #[.slice Ak kl ck,.slice Av vl cv] bv n (l) st w') (fun _ _ _=>True) [18,19,20,21,22,23,24,25,26,27,3] rfl (by kernel_rfl) rfl ?g0 ?keep ?steps ?fin
   case keep=>
    intro e he s v w w' hm hlo hsM ht hv
    simp only [List.mem_cons,List.not_mem_nil,or_false] at he
    rcases he with rfl | rfl | rfl | rfl | rfl | rfl | rfl | rfl | rfl | rfl | rfl
    all_goals first | exact hv | (intro h3; have:=hm rfl; simp only [] at this; omega) | (exfalso; dsimp only at hlo; omega) | (intro h3; exfalso; have:=hm rfl; dsimp only at this; omega)
   case steps=>
    refine ⟨?_,?_,?_,?_,?_,?_,?_,?_,?_,?_,?_,trivial⟩
    ·intro st hlo hhi ac w3 hg hG hd ho K hK
     dsimp only at hlo hhi hG hK
     rw [if_pos (by rfl)]
     exact op_move _ rfl (hK _ (ho 10 3 (by decide) rfl (by kernel_rfl)))
    ·intro st hlo hhi ac w3 hg hG hd ho K hK
     dsimp only at hlo hhi hG hK
     rw [if_pos (by rfl)]
     have k5:=hg.kp 5 (by simp)
     (try simp [Act.eval] at k5)
     go_simp
     exact hK _ rfl
    ·intro st hlo hhi ac w3 hg hG hd ho K hK
     dsimp only at hlo hhi hG hK
     rw [if_pos (by rfl)]
     have kk:=hG.2.1.cell
     have zz:=hG.2.1.lt
     clear hG
     have f1:=hd ⟨1,.data⟩ (by simp) rfl _ rfl _ rfl
     (try simp [Act.eval] at f1)
     go_simp
     exact hK _ rfl
    ·intro st hlo hhi ac w3 hg hG hd ho K hK
     dsimp only at hlo hhi hG hK
     rw [if_pos (by rfl)]
     have f2:=hd ⟨2,.data⟩ (by simp) rfl _ rfl _ rfl
     (try simp [Act.eval] at f2)
     go_simp
     exact hK _ rfl
    ·intro st hlo hhi ac w3 hg hG hd ho K hK
     dsimp only at hlo hhi hG hK
     rw [if_pos (by rfl)]
     have f3:=hd ⟨3,.data⟩ (by simp) rfl _ rfl _ rfl
     (try simp [Act.eval] at f3)
     go_simp
     exact hK _ rfl
    ·intro ac w3 hg hG hd ho K hK
     dsimp only [Nat.zero_add,Nat.reduceAdd] at hG hK
     rw [if_pos (by rfl)]
     have f4:=hd ⟨4,.data⟩ (by simp) rfl _ rfl _ rfl
     have HG:=hide hG
     clear hG
     simp [Act.eval] at f4
     go_simp
     exact hK _ _ trivial (HG.out.al _) (fun _=>⟨_,rfl,byte_arr kl (by omega) ▸ Blk.new w3 T8 _⟩)
    ·intro ac w3 hg hG hd ho K hK
     dsimp only [Nat.zero_add,Nat.reduceAdd] at hG hK
     rw [if_pos (by rfl)]
     have f0:=hd ⟨0,.data⟩ (by simp) rfl _ rfl _ rfl
     obtain ⟨g1,f5,hbl⟩:=hd ⟨5,.data⟩ (by simp) rfl _ rfl _ rfl rfl
     refine wp_append_any w3 (.tmp 18) (.tmp 23) 38 rfl w.heap.size T8 i0 _ 1 1 Try.underlying38 HI0.out HZ0.out hz1 hz2 rfl (by omega) bv (n) (cs8 (l)) f0 (hG.2.2 (by decide)) w3.heap.size (some ⟨g1,0,none⟩) 1 1 (cs8 [UInt8.ofNat kl]) f5 (reads_blk hbl rfl rfl) (cs8_one _) (by unfold maxLen; omega) (by omega) hG.1.size ?_
     intro v' w' ho hgb hoo
     exact hK _ _ trivial (hG.app (hG.2.2 (by decide)) (by decide) hgb (by decide)) (fun _=>by rw [← app_cs _ _ 0]; exact ho)
    ·intro st hlo hhi ac w3 hg hG hd ho K hK
     dsimp only at hlo hhi hG hK
     rw [if_pos (by rfl)]
     have k5:=hg.kp 5 (by simp)
     (try simp [Act.eval] at k5)
     go_simp
     exact hK _ rfl
    ·intro st hlo hhi ac w3 hg hG hd ho K hK
     dsimp only at hlo hhi hG hK
     rw [if_pos (by rfl)]
     have kk:=hG.2.1.cell
     have zz:=hG.2.1.lt
     clear hG
     have f7:=hd ⟨7,.data⟩ (by simp) rfl _ rfl _ rfl
     (try simp [Act.eval] at f7)
     go_simp
     exact hK _ rfl
    ·intro ac w3 hg hG hd ho K hK
     dsimp only [Nat.zero_add,Nat.reduceAdd] at hG hK
     rw [if_pos (by rfl)]
     have f8:=hd ⟨8,.data⟩ (by simp) rfl _ rfl _ rfl
     have ho6:=hd ⟨6,.data⟩ (by simp) rfl _ rfl _ rfl rfl
     obtain ⟨v6,hv6⟩:∃ v6,ac.eval (.tmp 24) = v6:=⟨_,rfl⟩
     rw [hv6] at ho6
     refine wp_append_any w3 (.tmp 24) (.tmp 26) 38 rfl w.heap.size T8 i0 _ 1 1 Try.underlying38 HI0.out HZ0.out hz1 hz2 rfl (by omega) v6 (n + 1) _ hv6 ho6 w.heap.size Ak kl ck (cs8 y.k) f8 (HRAk.out.below hG.1) (cs8_one _) (by unfold maxLen; omega) (by omega) hG.1.size ?_
     intro v' w' ho hgb hoo
     exact hK _ _ trivial (hG.app ho6 (by decide) hgb (by decide)) (fun _=>by rw [← app_cs _ _ 0]; exact ho)
    ·intro st hlo hhi ac w3 hg hG hd ho K hK
     dsimp only at hlo hhi hG hK
     rw [if_pos (by rfl)]
     exact op_assign _ rfl (hK _ (hd ⟨9,.data⟩ (by simp) rfl _ rfl _ rfl))
   case g0=>exact ⟨HB2.out.trans ((Below.refl _ _).drew),HX2.out,fun _=>HO2.out⟩
   case fin=>
    intro f9 w5 hG hall
    obtain ⟨b5,hb5⟩:∃ b5,f9 3 = b5:=⟨_,rfl⟩
    have HO5:=hide (show w5.ownsRow w.heap.size T8 1 b5 (n + 1 + kl) (cs8 (l ++ [UInt8.ofNat kl] ++ y.k)) from hb5 ▸ hall _ (List.mem_of_getElem? (i:=10) rfl) 3 rfl rfl)
    have HX5:=hide hG.2.1
    have HB5:=hide hG.1
    clear hall hG HX2 HB2 HO2
    simp only [fillF,List.map_cons,List.map_nil,List.foldl_cons,List.foldl_nil,Act.put,List.setIfInBounds_toArray,List.set_cons_zero,List.set_cons_succ]
    rw [hb5]
    clear hb5
    obtain ⟨l5,hl5⟩:∃ l5,l ++ [UInt8.ofNat kl] ++ y.k = l5:=⟨_,rfl⟩
    obtain ⟨n5,hn5'⟩:∃ n5,n + 1 + kl = n5:=⟨_,rfl⟩
    have HL5:=hide hl5
    have HN5:=hide hn5'
    rw [hl5,hn5'] at HO5
    have hm5:n5 + 1 + vl ≤ 60000:=by omega
    clear hl5 hn5' hn5
    go_upto_region 6 with fail
    refine wp_region_stageW (by kernel_rfl) (by kernel_rfl) 66 3
     [⟨some 28,false,0,3,fun _ v _=>v = b5⟩,
      ⟨some 29,false,0,3,fun _ v _=>v = .pointer (some ⟨xb,1,none⟩)⟩,
      ⟨some 30,false,0,3,fun _ v _=>v = .slice Av vl cv⟩,
      ⟨some 31,false,0,3,fun _ v _=>v = .int .i64 (vl:Int)⟩,
      ⟨some 32,false,0,3,fun _ v _=>v = .int .u8 (vl:Int)⟩,
      ⟨some 33,true,0,0,fun st v w'=>st = 1 → ∃ g1,v = .slice (some ⟨g1,0,none⟩) 1 1 ∧ Blk w' g1 T8 (cs8 [UInt8.ofNat vl]).toArray⟩,
      ⟨some 34,true,1,1,fun st v w'=>st = 2 → w'.ownsRow w.heap.size T8 1 v (n5 + 1) (cs8 (l5 ++ [UInt8.ofNat vl]))⟩,
      ⟨some 35,false,0,3,fun _ v _=>v = .pointer (some ⟨xb,1,none⟩)⟩,
      ⟨some 36,false,0,3,fun _ v _=>v = .slice Av vl cv⟩,
      ⟨some 37,true,2,2,fun st v w'=>st = 3 → w'.ownsRow w.heap.size T8 1 v (n5 + 1 + vl) (cs8 (l5 ++ [UInt8.ofNat vl] ++ y.v))⟩,
      ⟨some 3,false,3,3,fun st v w'=>st = 3 → w'.ownsRow w.heap.size T8 1 v (n5 + 1 + vl) (cs8 (l5 ++ [UInt8.ofNat vl] ++ y.v))⟩] (fun st w'=>GB w xb TIt #[.slice Ak kl ck,.slice Av vl cv] b5 n5 (l5) st w') (fun _ _ _=>True) [28,29,30,31,32,33,34,35,36,37,3] rfl (by kernel_rfl) rfl ?g0 ?keep ?steps ?fin
    case keep=>
     intro e he s v w w' hm hlo hsM ht hv
     simp only [List.mem_cons,List.not_mem_nil,or_false] at he
     rcases he with rfl | rfl | rfl | rfl | rfl | rfl | rfl | rfl | rfl | rfl | rfl
     all_goals first | exact hv | (intro h3; have:=hm rfl; simp only [] at this; omega) | (exfalso; dsimp only at hlo; omega) | (intro h3; exfalso; have:=hm rfl; dsimp only at this; omega)
    case steps=>
     refine ⟨?_,?_,?_,?_,?_,?_,?_,?_,?_,?_,?_,trivial⟩
     ·intro st hlo hhi ac w3 hg hG hd ho K hK
      dsimp only at hlo hhi hG hK
      rw [if_pos (by rfl)]
      exact op_move _ rfl (hK _ (ho 10 3 (by decide) rfl (by kernel_rfl)))
     ·intro st hlo hhi ac w3 hg hG hd ho K hK
      dsimp only at hlo hhi hG hK
      rw [if_pos (by rfl)]
      have k5:=hg.kp 5 (by simp)
      (try simp [Act.eval] at k5)
      go_simp
      exact hK _ rfl
     ·intro st hlo hhi ac w3 hg hG hd ho K hK
      dsimp only at hlo hhi hG hK
      rw [if_pos (by rfl)]
      have kk:=hG.2.1.cell
      have zz:=hG.2.1.lt
      clear hG
      have f1:=hd ⟨1,.data⟩ (by simp) rfl _ rfl _ rfl
      (try simp [Act.eval] at f1)
      go_simp
      exact hK _ rfl
     ·intro st hlo hhi ac w3 hg hG hd ho K hK
      dsimp only at hlo hhi hG hK
      rw [if_pos (by rfl)]
      have f2:=hd ⟨2,.data⟩ (by simp) rfl _ rfl _ rfl
      (try simp [Act.eval] at f2)
      go_simp
      exact hK _ rfl
     ·intro st hlo hhi ac w3 hg hG hd ho K hK
      dsimp only at hlo hhi hG hK
      rw [if_pos (by rfl)]
      have f3:=hd ⟨3,.data⟩ (by simp) rfl _ rfl _ rfl
      (try simp [Act.eval] at f3)
      go_simp
      exact hK _ rfl
     ·intro ac w3 hg hG hd ho K hK
      dsimp only [Nat.zero_add,Nat.reduceAdd] at hG hK
      rw [if_pos (by rfl)]
      have f4:=hd ⟨4,.data⟩ (by simp) rfl _ rfl _ rfl
      have HG:=hide hG
      clear hG
      simp [Act.eval] at f4
      go_simp
      exact hK _ _ trivial (HG.out.al _) (fun _=>⟨_,rfl,byte_arr vl (by omega) ▸ Blk.new w3 T8 _⟩)
     ·intro ac w3 hg hG hd ho K hK
      dsimp only [Nat.zero_add,Nat.reduceAdd] at hG hK
      rw [if_pos (by rfl)]
      have f0:=hd ⟨0,.data⟩ (by simp) rfl _ rfl _ rfl
      obtain ⟨g1,f5,hbl⟩:=hd ⟨5,.data⟩ (by simp) rfl _ rfl _ rfl rfl
      refine wp_append_any w3 (.tmp 28) (.tmp 33) 38 rfl w.heap.size T8 i0 _ 1 1 Try.underlying38 HI0.out HZ0.out hz1 hz2 rfl (by omega) b5 (n5) (cs8 (l5)) f0 (hG.2.2 (by decide)) w3.heap.size (some ⟨g1,0,none⟩) 1 1 (cs8 [UInt8.ofNat vl]) f5 (reads_blk hbl rfl rfl) (cs8_one _) (by unfold maxLen; omega) (by omega) hG.1.size ?_
      intro v' w' ho hgb hoo
      exact hK _ _ trivial (hG.app (hG.2.2 (by decide)) (by decide) hgb (by decide)) (fun _=>by rw [← app_cs _ _ 0]; exact ho)
     ·intro st hlo hhi ac w3 hg hG hd ho K hK
      dsimp only at hlo hhi hG hK
      rw [if_pos (by rfl)]
      have k5:=hg.kp 5 (by simp)
      (try simp [Act.eval] at k5)
      go_simp
      exact hK _ rfl
     ·intro st hlo hhi ac w3 hg hG hd ho K hK
      dsimp only at hlo hhi hG hK
      rw [if_pos (by rfl)]
      have kk:=hG.2.1.cell
      have zz:=hG.2.1.lt
      clear hG
      have f7:=hd ⟨7,.data⟩ (by simp) rfl _ rfl _ rfl
      (try simp [Act.eval] at f7)
      go_simp
      exact hK _ rfl
     ·intro ac w3 hg hG hd ho K hK
      dsimp only [Nat.zero_add,Nat.reduceAdd] at hG hK
      rw [if_pos (by rfl)]
      have f8:=hd ⟨8,.data⟩ (by simp) rfl _ rfl _ rfl
      have ho6:=hd ⟨6,.data⟩ (by simp) rfl _ rfl _ rfl rfl
      obtain ⟨v6,hv6⟩:∃ v6,ac.eval (.tmp 34) = v6:=⟨_,rfl⟩
      rw [hv6] at ho6
      refine wp_append_any w3 (.tmp 34) (.tmp 36) 38 rfl w.heap.size T8 i0 _ 1 1 Try.underlying38 HI0.out HZ0.out hz1 hz2 rfl (by omega) v6 (n5 + 1) _ hv6 ho6 w.heap.size Av vl cv (cs8 y.v) f8 (HRAv.out.below hG.1) (cs8_one _) (by unfold maxLen; omega) (by omega) hG.1.size ?_
      intro v' w' ho hgb hoo
      exact hK _ _ trivial (hG.app ho6 (by decide) hgb (by decide)) (fun _=>by rw [← app_cs _ _ 0]; exact ho)
     ·intro st hlo hhi ac w3 hg hG hd ho K hK
      dsimp only at hlo hhi hG hK
      rw [if_pos (by rfl)]
      exact op_assign _ rfl (hK _ (hd ⟨9,.data⟩ (by simp) rfl _ rfl _ rfl))
    case g0=>exact ⟨HB5.out.trans ((Below.refl _ _).drew),HX5.out,fun _=>HO5.out⟩
    case fin=>
     intro f6 w6 hG hall
     obtain ⟨b6,hb6⟩:∃ b6,f6 3 = b6:=⟨_,rfl⟩
     have HO6:=hide (show w6.ownsRow w.heap.size T8 1 b6 (n5 + 1 + vl) (cs8 (l5 ++ [UInt8.ofNat vl] ++ y.v)) from hb6 ▸ hall _ (List.mem_of_getElem? (i:=10) rfl) 3 rfl rfl)
     have HB6:=hide hG.1
     clear hall hG HX5 HB5 HO5
     simp only [fillF,List.map_cons,List.map_nil,List.foldl_cons,List.foldl_nil,Act.put,List.setIfInBounds_toArray,List.set_cons_zero,List.set_cons_succ]
     rw [hb6]
     clear hb6
     have HO7:=hide (show w6.ownsRow w.heap.size T8 1 b6 (1 + sumI (is.take (j + 1))) (cs8 (0 :: (is.take (j + 1)).flatMap itB)) from by
      have e1:1 + sumI (is.take (j + 1)) = n5 + 1 + vl:=by
       have h1:=HSM.out
       have h2:=HY.out
       have h3:=HN.out
       have h4:=HN5.out
       unfold szI at h1
       omega
      have e2:(0:UInt8) :: (is.take (j + 1)).flatMap itB = l5 ++ [UInt8.ofNat vl] ++ y.v:=by
       rw [HTK.out,List.flatMap_append,← HL5.out,← HL.out,← HY.out.1,← HY.out.2]
       simp [itB]
      rw [e1,e2]
      exact HO6.out)
     clear HO6 HL HN HL5 HN5 HSM HTK HY HKI HRAk HRAv
     have hjm:j + 1 ≤ 9223372036854775807:=by
      have:=hci.2
      unfold maxLen at this
      omega
     go_wp2_with fail
     go_roundw
     ·exact ⟨j + 1,_,by go_num,by omega,rfl,HO7,HB6⟩
     ·simp [intOf]
      omega
  ·have e0:j = q:=by omega
   subst e0
   have hq9:¬ j < is.length:=by rw [HQ.out]; omega
   have HN2:=hide (HBN.out.below HB.out HBN.out.lt)
   have kg:=HN2.out.cell 0; have kg1:=HN2.out.cell 1; have fg:=HN2.out.frozen; have zg:=HN2.out.lt
   simp at kg kg1
   obtain ⟨q2,hq2⟩:∃ q2,ks.length = q2:=⟨_,rfl⟩
   rw [hq2] at kg1 hc2 HR2
   have HQ2:=hide hq2
   obtain ⟨li,hli⟩:∃ li,is.flatMap itB = li:=⟨_,rfl⟩
   obtain ⟨ni,hni⟩:∃ ni,1 + sumI is = ni:=⟨_,rfl⟩
   have HLi:=hide hli
   have HNi:=hide hni
   have HS2:=hide (show wr.ownsRow w.heap.size T8 1 bv (ni + sumK (ks.take 0)) (cs8 (hdB 0 :: (li ++ (ks.take 0).flatMap kdB))) from by
    have:=HO.out
    rw [← HQ.out,List.take_length,hli,hni] at this
    simpa [sumK,hdB] using this)
   clear hq2 hli hni
   go_upto_region 9 with fail
   clear kg kg1 fg zg HRI HLI HOK HO
   obtain ⟨wb,hwb⟩:∃ wb,wr = wb:=⟨_,rfl⟩
   rw [hwb] at HB HS2 HN2 ⊢
   clear hwb
   go_loopw [3,44] (fun bx iv wr'=>∃ (i:Nat) (bv:Value),iv = .int .i64 (i:Int) ∧ i ≤ q2 ∧ bv = bx ∧ Hid (wr'.ownsRow w.heap.size T8 1 bv (ni + sumK (ks.take i)) (cs8 (hdB i :: (li ++ (ks.take i).flatMap kdB)))) ∧ Hid (Below w.heap.size w wr')) (fun _ iv _=>q2 - (intOf iv).toNat)
   case atStart=>exact ⟨0,_,by go_num,by omega,rfl,HS2,HB⟩
   case round=>
    clear HS2 HB
    obtain ⟨i,bv,rfl,hi2,hbv,HO,HB⟩:=hrel
    subst hbv
    by_cases hlt2:i < q2
    ·obtain ⟨ad,hA,had,hcell⟩:=HR2.out.2 (by omega)
     subst hA
     have hi':i < ks.length:=by rw [HQ2.out]; exact hlt2
     obtain ⟨cs,hit,hcs⟩:=LR.at_ (k:=2) (fun a cs h=>h.two) ks xs2 HL2.out i hi'
     obtain ⟨a0,rfl,hk⟩:=hit
     obtain ⟨Ak,ck,rfl,hck,hrk⟩:=hk
     have HRAk:=hide (show RB w w.heap.size Ak ks[i].k.length ks[i].k from hrk.rb)
     have HKI:=hide (HKD.out ks[i] (List.getElem_mem hi'))
     have HTK:=hide (show ks.take (i + 1) = ks.take i ++ [ks[i]] from List.take_succ_eq_append_getElem hi')
     have HSM:=hide (show sumK (ks.take (i + 1)) = sumK (ks.take i) + szK ks[i] from sumK_take hi')
     have HSL:=hide (sumK_le ks (i + 1))
     have hc3:w.cell? (ad.add (i * 2)) = some (.slice Ak ks[i].k.length ck) ∧ w.cell? ⟨(ad.add (i * 2)).block,(ad.add (i * 2)).off + 1,none⟩ = some (.int .i64 (ks[i].p:Int)):=by
      have q0:=hcell (i * 2 + 0) _ (hcs 0 (by omega))
      have q1:=hcell (i * 2 + 1) _ (hcs 1 (by omega))
      exact two_cells (by simpa using q0) q1
     clear hrk hcs hcell
     obtain ⟨y,hy⟩:∃ y,ks[i] = y:=⟨_,rfl⟩
     rw [hy] at HRAk HKI HTK HSM hc3 hck
     clear hy
     obtain ⟨kl,hkl⟩:∃ kl,y.k.length = kl:=⟨_,rfl⟩
     obtain ⟨pg,hpg⟩:∃ pg,y.p = pg:=⟨_,rfl⟩
     have hk2:kl ≤ 32:=hkl ▸ HKI.out.2.1
     have hp2:1 ≤ pg ∧ pg < 65536:=hpg ▸ HKI.out.2.2
     have HY:=hide (And.intro hkl hpg)
     rw [hkl] at HRAk hc3 hck
     rw [hpg] at hc3
     clear hkl hpg
     have k0:=(HB.out.cell (show (ad.add (i * 2)).block < w.heap.size by rw [block_of_add]; exact had)).trans hc3.1
     have k1:=(HB.out.cell (p:=⟨(ad.add (i * 2)).block,(ad.add (i * 2)).off + 1,none⟩) (show (ad.add (i * 2)).block < w.heap.size by rw [block_of_add]; exact had)).trans hc3.2
     have zz0:ad.block < wr.heap.size:=Nat.lt_of_lt_of_le had HB.out.size
     have hjc:i ≤ c2:=by omega
     have hjc2:i < c2:=by omega
     clear hc3
     go_upto_region 11 with fail
     clear k0 k1 zz0
     obtain ⟨xb,hxb⟩:∃ xb,wr.heap.size = xb:=⟨_,rfl⟩
     obtain ⟨w2,hw2⟩:∃ y,wr.alloc (.cells #[.slice Ak kl ck,.int .i64 (pg:Int)] TKd) = y:=⟨_,rfl⟩
     have HX2:=hide (show Blk w2 xb TKd #[.slice Ak kl ck,.int .i64 (pg:Int)] from hxb ▸ hw2 ▸ Blk.new _ _ _)
     have HB2:=hide (show Below w.heap.size w w2 from hw2 ▸ HB.out.alloc HB.out.size _)
     have HO2:=hide (show w2.ownsRow w.heap.size T8 1 bv (ni + sumK (ks.take i)) (cs8 (hdB i :: (li ++ (ks.take i).flatMap kdB))) from hw2 ▸ own_later HO.out (al_below wr _))
     rw [hxb,hw2]
     clear hxb hw2 HO HB
     obtain ⟨gb,cb,rfl,hn0,hncb,hgb,kb,fb,zb,hset⟩:=own_head HO2.out
     have HSet:=hide (hset 1)
     have HNE:=hide (show some xb ≠ some gb from own_ne HO2.out HX2.out (by decide))
     clear hset HO2
     go_upto_region 12 with fail
     clear kb fb zb
     have hm5:ni + sumK (ks.take i) + 1 + kl + 4 ≤ 60000:=by
      have:=HSZ.out
      rw [ndB_len] at this
      have h1:=HSM.out
      have h2:=HSL.out
      have h3:=HY.out
      have h4:=HNi.out
      unfold szK at h1
      omega
     obtain ⟨l3,hl3⟩:∃ l3,li ++ (ks.take i).flatMap kdB = l3:=⟨_,rfl⟩
     obtain ⟨n3,hn3⟩:∃ n3,ni + sumK (ks.take i) = n3:=⟨_,rfl⟩
     obtain ⟨bv,hbv⟩:∃ bv,Value.slice (some ⟨gb,0,none⟩) (ni + sumK (ks.take i)) cb = bv:=⟨_,rfl⟩
     have HL3:=hide hl3
     have HN3:=hide hn3
     rw [hn3] at hm5 hbv
     rw [hn3,hl3,hbv] at HSet
     rw [hn3,hbv]
     obtain ⟨w3,hw3⟩:∃ w3,w2.setCell ⟨gb,0,none⟩ (u8v 1) = w3:=⟨_,rfl⟩
     rw [hw3] at HSet
     have HO3:=hide HSet.out.1
     have HX3:=hide (show Blk w3 xb TKd #[.slice Ak kl ck,.int .i64 (pg:Int)] from HX2.out.grown HSet.out.2 HNE.out)
     have HB3:=hide (show Below w.heap.size w w3 from hw3 ▸ HB2.out.setCell (p:=⟨gb,0,none⟩) hgb _)
     have e8:IntKind.u8.wrap (kl:Int) = (kl:Int):=by simp [IntKind.wrap,IntKind.bits,IntKind.signed]; omega
     rw [show w2.setCell ⟨gb,0,none⟩ (.int .u8 1) = w3 from hw3]
     clear hw3 hl3 hn3 hbv HX2 HB2 HSet HNE
     refine wp_region_stageW (by kernel_rfl) (by kernel_rfl) 66 3
      [⟨some 50,false,0,3,fun _ v _=>v = bv⟩,
       ⟨some 51,false,0,3,fun _ v _=>v = .pointer (some ⟨xb,0,none⟩)⟩,
       ⟨some 52,false,0,3,fun _ v _=>v = .slice Ak kl ck⟩,
       ⟨some 53,false,0,3,fun _ v _=>v = .int .i64 (kl:Int)⟩,
       ⟨some 54,false,0,3,fun _ v _=>v = .int .u8 (kl:Int)⟩,
       ⟨some 55,true,0,0,fun st v w'=>st = 1 → ∃ g1,v = .slice (some ⟨g1,0,none⟩) 1 1 ∧ Blk w' g1 T8 (cs8 [UInt8.ofNat kl]).toArray⟩,
       ⟨some 56,true,1,1,fun st v w'=>st = 2 → w'.ownsRow w.heap.size T8 1 v (n3 + 1) (cs8 (1 :: l3 ++ [UInt8.ofNat kl]))⟩,
       ⟨some 57,false,0,3,fun _ v _=>v = .pointer (some ⟨xb,0,none⟩)⟩,
       ⟨some 58,false,0,3,fun _ v _=>v = .slice Ak kl ck⟩,
       ⟨some 59,true,2,2,fun st v w'=>st = 3 → w'.ownsRow w.heap.size T8 1 v (n3 + 1 + kl) (cs8 (1 :: l3 ++ [UInt8.ofNat kl] ++ y.k))⟩,
       ⟨some 3,false,3,3,fun st v w'=>st = 3 → w'.ownsRow w.heap.size T8 1 v (n3 + 1 + kl) (cs8 (1 :: l3 ++ [UInt8.ofNat kl] ++ y.k))⟩] (fun st w'=>GB w xb TKd #[.slice Ak kl ck,.int .i64 (pg:Int)] bv n3 (1 :: l3) st w') (fun _ _ _=>True) [50,51,52,53,54,55,56,57,58,59,3] rfl (by kernel_rfl) rfl ?g0 ?keep ?steps ?fin
     case keep=>
      intro e he s v w w' hm hlo hsM ht hv
      simp only [List.mem_cons,List.not_mem_nil,or_false] at he
      rcases he with rfl | rfl | rfl | rfl | rfl | rfl | rfl | rfl | rfl | rfl | rfl
      all_goals first | exact hv | (intro h3; have:=hm rfl; simp only [] at this; omega) | (exfalso; dsimp only at hlo; omega) | (intro h3; exfalso; have:=hm rfl; dsimp only at this; omega)
     case steps=>
      refine ⟨?_,?_,?_,?_,?_,?_,?_,?_,?_,?_,?_,trivial⟩
      ·intro st hlo hhi ac w3 hg hG hd ho K hK
       dsimp only at hlo hhi hG hK
       rw [if_pos (by rfl)]
       exact op_move _ rfl (hK _ (ho 10 3 (by decide) rfl (by kernel_rfl)))
      ·intro st hlo hhi ac w3 hg hG hd ho K hK
       dsimp only at hlo hhi hG hK
       rw [if_pos (by rfl)]
       have k7:=hg.kp 7 (by simp)
       (try simp [Act.eval] at k7)
       go_simp
       exact hK _ rfl
      ·intro st hlo hhi ac w3 hg hG hd ho K hK
       dsimp only at hlo hhi hG hK
       rw [if_pos (by rfl)]
       have kk:=hG.2.1.cell
       have zz:=hG.2.1.lt
       clear hG
       have f1:=hd ⟨1,.data⟩ (by simp) rfl _ rfl _ rfl
       (try simp [Act.eval] at f1)
       go_simp
       exact hK _ rfl
      ·intro st hlo hhi ac w3 hg hG hd ho K hK
       dsimp only at hlo hhi hG hK
       rw [if_pos (by rfl)]
       have f2:=hd ⟨2,.data⟩ (by simp) rfl _ rfl _ rfl
       (try simp [Act.eval] at f2)
       go_simp
       exact hK _ rfl
      ·intro st hlo hhi ac w3 hg hG hd ho K hK
       dsimp only at hlo hhi hG hK
       rw [if_pos (by rfl)]
       have f3:=hd ⟨3,.data⟩ (by simp) rfl _ rfl _ rfl
       (try simp [Act.eval] at f3)
       go_simp
       exact hK _ rfl
      ·intro ac w3 hg hG hd ho K hK
       dsimp only [Nat.zero_add,Nat.reduceAdd] at hG hK
       rw [if_pos (by rfl)]
       have f4:=hd ⟨4,.data⟩ (by simp) rfl _ rfl _ rfl
       have HG:=hide hG
       clear hG
       simp [Act.eval] at f4
       go_simp
       exact hK _ _ trivial (HG.out.al _) (fun _=>⟨_,rfl,byte_arr kl (by omega) ▸ Blk.new w3 T8 _⟩)
      ·intro ac w3 hg hG hd ho K hK
       dsimp only [Nat.zero_add,Nat.reduceAdd] at hG hK
       rw [if_pos (by rfl)]
       have f0:=hd ⟨0,.data⟩ (by simp) rfl _ rfl _ rfl
       obtain ⟨g1,f5,hbl⟩:=hd ⟨5,.data⟩ (by simp) rfl _ rfl _ rfl rfl
       refine wp_append_any w3 (.tmp 50) (.tmp 55) 38 rfl w.heap.size T8 i0 _ 1 1 Try.underlying38 HI0.out HZ0.out hz1 hz2 rfl (by omega) bv (n3) (cs8 (1 :: l3)) f0 (hG.2.2 (by decide)) w3.heap.size (some ⟨g1,0,none⟩) 1 1 (cs8 [UInt8.ofNat kl]) f5 (reads_blk hbl rfl rfl) (cs8_one _) (by unfold maxLen; omega) (by omega) hG.1.size ?_
       intro v' w' ho hgb hoo
       exact hK _ _ trivial (hG.app (hG.2.2 (by decide)) (by decide) hgb (by decide)) (fun _=>by rw [← app_cs _ _ 0]; exact ho)
      ·intro st hlo hhi ac w3 hg hG hd ho K hK
       dsimp only at hlo hhi hG hK
       rw [if_pos (by rfl)]
       have k7:=hg.kp 7 (by simp)
       (try simp [Act.eval] at k7)
       go_simp
       exact hK _ rfl
      ·intro st hlo hhi ac w3 hg hG hd ho K hK
       dsimp only at hlo hhi hG hK
       rw [if_pos (by rfl)]
       have kk:=hG.2.1.cell
       have zz:=hG.2.1.lt
       clear hG
       have f7:=hd ⟨7,.data⟩ (by simp) rfl _ rfl _ rfl
       (try simp [Act.eval] at f7)
       go_simp
       exact hK _ rfl
      ·intro ac w3 hg hG hd ho K hK
       dsimp only [Nat.zero_add,Nat.reduceAdd] at hG hK
       rw [if_pos (by rfl)]
       have f8:=hd ⟨8,.data⟩ (by simp) rfl _ rfl _ rfl
       have ho6:=hd ⟨6,.data⟩ (by simp) rfl _ rfl _ rfl rfl
       obtain ⟨v6,hv6⟩:∃ v6,ac.eval (.tmp 56) = v6:=⟨_,rfl⟩
       rw [hv6] at ho6
       refine wp_append_any w3 (.tmp 56) (.tmp 58) 38 rfl w.heap.size T8 i0 _ 1 1 Try.underlying38 HI0.out HZ0.out hz1 hz2 rfl (by omega) v6 (n3 + 1) _ hv6 ho6 w.heap.size Ak kl ck (cs8 y.k) f8 (HRAk.out.below hG.1) (cs8_one _) (by unfold maxLen; omega) (by omega) hG.1.size ?_
       intro v' w' ho hgb hoo
       exact hK _ _ trivial (hG.app ho6 (by decide) hgb (by decide)) (fun _=>by rw [← app_cs _ _ 0]; exact ho)
      ·intro st hlo hhi ac w3 hg hG hd ho K hK
       dsimp only at hlo hhi hG hK
       rw [if_pos (by rfl)]
       exact op_assign _ rfl (hK _ (hd ⟨9,.data⟩ (by simp) rfl _ rfl _ rfl))
     case g0=>exact ⟨HB3.out.trans ((Below.refl _ _).drew),HX3.out,fun _=>HO3.out⟩
     case fin=>
      intro f6 w6 hG hall
      obtain ⟨b6,hb6⟩:∃ b6,f6 3 = b6:=⟨_,rfl⟩
      have HO6:=hide (show w6.ownsRow w.heap.size T8 1 b6 (n3 + 1 + kl) (cs8 (1 :: l3 ++ [UInt8.ofNat kl] ++ y.k)) from hb6 ▸ hall _ (List.mem_of_getElem? (i:=10) rfl) 3 rfl rfl)
      have HB6:=hide hG.1
      have HX6:=hide hG.2.1
      clear hall hG HX3 HB3 HO3
      simp only [fillF,List.map_cons,List.map_nil,List.foldl_cons,List.foldl_nil,Act.put,List.setIfInBounds_toArray,List.set_cons_zero,List.set_cons_succ]
      rw [hb6]
      clear hb6
      obtain ⟨g6,c6,rfl,hc6,hg6,hr6⟩:=own_some (e:=T8) HO6.out (by omega)
      have HR6:=hide hr6
      clear hr6
      have kx:=HX6.out.cell 1; have fx:=HX6.out.frozen; have zx:=HX6.out.lt
      simp at kx
      have hjm:i + 1 ≤ 9223372036854775807:=by
       have:=hc2.2
       unfold maxLen at this
       omega
      go_wp2_with ((go_at_call 92; (refine (put_any (some ⟨g6,0,none⟩) (n3 + 1 + kl) c6 (1 :: l3 ++ [UInt8.ofNat kl] ++ y.k) pg 4 w6 HR6.out (by omega) (by omega) (by omega)).mono ?_); rintro e w7 ⟨v7,rfl,ho,hb⟩; have HO7:=hide (own_down ho HB6.out.size); have HB7:=hide (HB6.out.trans (hb.mono HB6.out.size)); clear ho hb kx fx zx))
      have HO8:=hide (show w7.ownsRow w.heap.size T8 1 v7 (ni + sumK (ks.take (i + 1))) (cs8 (hdB (i + 1) :: (li ++ (ks.take (i + 1)).flatMap kdB))) from by
       have e1:ni + sumK (ks.take (i + 1)) = n3 + 1 + kl + 4:=by
        have h1:=HSM.out
        have h2:=HY.out
        have h3:=HN3.out
        unfold szK at h1
        omega
       have e2:hdB (i + 1) :: (li ++ (ks.take (i + 1)).flatMap kdB) = 1 :: l3 ++ [UInt8.ofNat kl] ++ y.k ++ beN pg 4 4:=by
        rw [HTK.out,List.flatMap_append,← HL3.out,← HY.out.1,← HY.out.2]
        simp [kdB,hdB]
       rw [e1,e2]
       exact HO7.out)
      refine ⟨⟨i + 1,_,by go_num,by omega,rfl,HO8,HB7⟩,?_⟩
      simp [intOf]
      omega
    ·have e0:i = q2:=by omega
     subst e0
     go_wp2_with fail
     go_ret
     refine ⟨_,rfl,?_,HB.out⟩
     have e1:ndB is ks = hdB i :: (li ++ (ks.take i).flatMap kdB):=by
      rw [← HLi.out,← HQ2.out,List.take_length]
      unfold ndB hdB
      congr 1
      cases ks <;> simp
     have e2:(ndB is ks).length = ni + sumK (ks.take i):=by
      rw [ndB_len,← HNi.out,← HQ2.out,List.take_length]
     rw [e2,e1]
     exact HO.out
end Go.Proofs.Ytkolacaceaamoaa
