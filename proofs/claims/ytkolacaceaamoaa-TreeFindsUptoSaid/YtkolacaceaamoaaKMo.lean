/- The law's fresh and answers. -/
import Derived.Test.YtkolacaceaamoaaKMn
import Derived.Lib.SlBytesConst
import Derived.Lib.SmallJoins
set_option linter.unusedSimpArgs false
set_option linter.unusedVariables false
namespace Go.Proofs.Ytkolacaceaamoaa
open Go.RowKit
/-- Trees over a new disk. -/
structure FrT (w:World) (n tb:Nat) (c:Pct) (m:Pst) (w':World):Prop where
 pg:PgS w' c m
 cn:c.n = n
 tr:Blk w' tb TTr #[.pointer (some ⟨c.pb,0,none⟩)]
 nt:¬ PF m.F c.pb c.sb tb
 tl:w.heap.size ≤ tb
 pl:∀ j,PF m.F c.pb c.sb j → w.heap.size ≤ j
 n0:m.N = 0
 st:m.st = zeroSt n
 bel:Below w.heap.size w w'
set_option maxRecDepth 100000 in
theorem fresh_any (w:World) (n:Nat) (h4:4 ≤ n) (hn:n ≤ 60000) :
  Calls Try.prog 7 #[.int .i64 (n:Int)] w fun e w'=>∃ tb c m,e = .returned (.tuple #[.pointer (some ⟨tb,0,none⟩),.pointer (some ⟨c.pb,0,none⟩)]) ∧ FrT w n tb c m w':=by
 go_enter Try.func7,Try.ntmps7
 go_wp2_with (first | (go_at_call 18; (refine (tnew_any _ _).mono ?_); rintro e w3 ⟨tb,rfl,htb,hblk,hb⟩; have HT3:=hide hblk; have HB3:=hide hb; have HTB:=hide htb; clear hblk hb htb) | (go_at_call 20; (refine (popen_new (n:=n) HS1.out h4).mono ?_); rintro e w2 ⟨⟨pb,sb,rfl,hpb,hsb,hp⟩,hb⟩; have HP2:=hide hp; have HB2:=hide hb; have HPB:=hide (And.intro hpb hsb); clear hp hb hpb hsb) | (go_at_call 19; (refine (sec_new (n:Int) w (by omega)).mono ?_); rintro e w1 ⟨rfl,hs,hb⟩; have HS1:=hide hs; have HB1:=hide hb; clear hs hb))
 refine bodyPost_ret (v:=.tuple #[.pointer (some ⟨tb,0,none⟩),.pointer (some ⟨pb,0,none⟩)]) (by simp (maxDischargeDepth:=9) [results,Try.results7,go_sem]; done) rfl ⟨tb,⟨pb,sb,w.heap.size + 1,n,fun _=>zC,0,0⟩,⟨fun j=>w.heap.size ≤ j ∧ j < w1.heap.size,[],0,0,zeroSt n⟩,rfl,?_⟩
 have hs1:=HB1.out.size
 have hs2:=HB2.out.size
 have hpl:=HP2.out
 have hp2:∀ j,PF (fun j=>w.heap.size ≤ j ∧ j < w1.heap.size) pb sb j → w.heap.size ≤ j ∧ j < w2.heap.size:=fun j hj=>by
  rcases hj with hj | rfl | rfl
  ·omega
  ·exact ⟨Nat.le_trans hs1 HPB.out.1,hpl.blk.lt⟩
  ·exact ⟨Nat.le_trans hs1 HPB.out.2,hpl.sblk.lt⟩
 refine ⟨HP2.out.below HB3.out,rfl,HT3.out,fun h=>?_,?_,fun j hj=>(hp2 j hj).1,rfl,rfl,(HB1.out.trans (HB2.out.mono hs1)).trans (HB3.out.mono (Nat.le_trans hs1 hs2))⟩
 ·have:=(hp2 _ h).2
  rw [HTB.out] at this
  omega
 ·rw [HTB.out]; omega
theorem zero_free (n q:Nat) (h:q < n):isFree (zeroSt n) q:=by
 refine free_iff.2 ?_
 unfold zeroSt
 simp [List.getD,h]
/-- So many free pages want so many places. -/
theorem NoRoom.not {m:Pst} {n k:Nat} (h:NoRoom m k) (hs:m.st = zeroSt n) (hk:k + 2 < n):False:=by
 obtain ⟨T0,h1,h2⟩:=h
 have h3:∀ (j:Nat) (T:List Nat),(∀ q,2 ≤ q → q < j + 2 → q ∈ T) → j ≤ T.length:=by
  intro j
  induction j with
  | zero=>intro T _; omega
  | succ j ih=>
   intro T hT
   have hm:=hT (j + 2) (by omega) (by omega)
   have:=ih (T.filter (· ≠ j + 2)) (fun q h2 hq=>by
    rw [List.mem_filter]
    exact ⟨hT q h2 (by omega),by simp; omega⟩)
   have hlt:(T.filter (· ≠ j + 2)).length < T.length:=by
    rw [List.length_filter_lt_length_iff_exists]
    exact ⟨j + 2,hm,by simp⟩
   omega
 have:=h3 (k + 1) T0 (fun q hq hlt=>h2 q hq (by rw [hs]; exact zero_free n q (by omega)))
 omega
theorem SLk.one_it {w:World} {g:Nat} {vk vv:Value} {k v:Cn} (h:Blk w g TIt #[vk,vv]) (hk:BSw w vk k) (hv:BSw w vv v):SLk 2 ItR w (fun j=>j < w.heap.size) (.slice (some ⟨g,0,none⟩) 1 1) [⟨k,v⟩]:=by
 refine ⟨_,1,[vk,vv],rfl,⟨Nat.le_refl _,by decide⟩,⟨rfl,fun _=>⟨_,rfl,h.lt,fun j u hu=>?_⟩⟩,⟨[vk,vv],[],rfl,⟨vk,vv,rfl,hk,hv⟩,rfl⟩⟩
 rw [show (⟨g,0,none⟩:Addr).add j = ⟨g,j,none⟩ by rw [← add_plain ⟨g,0,none⟩ j rfl]; simp,h.cell j]
 match j,hu with
 | 0,hu=>simpa using hu
 | 1,hu=>simpa using hu
/-- A block of bytes, frozen behind its end or not. -/
def Byt (w:World) (g:Nat) (b:UInt8):Prop:=∃ fr,w.heap[g]? = some (.cells #[.int .u8 (b.toNat:Int)] T8 fr)
theorem Byt.lt {w:World} {g:Nat} {b:UInt8} (h:Byt w g b):g < w.heap.size:=by
 obtain ⟨fr,h⟩:=h
 exact (Array.getElem?_eq_some_iff.1 h).1
theorem Byt.al {w:World} {g:Nat} {b:UInt8} (h:Byt w g b) (o:Obj):Byt (w.alloc o) g b:=by
 have hl:=h.lt
 obtain ⟨fr,h⟩:=h
 exact ⟨fr,(Below.heap_alloc w o g hl).trans h⟩
theorem bs_onF {w:World} {g:Nat} {b:UInt8} {F:Nat → Prop} (h:Byt w g b) (hg:F g):BS w F (.slice (some ⟨g,0,none⟩) 1 1) [b]:=by
 obtain ⟨fr,h⟩:=h
 refine ⟨_,1,rfl,⟨Nat.le_refl _,by decide⟩,rfl,fun _=>⟨_,rfl,hg,fun j u hu=>?_⟩⟩
 rw [show (⟨g,0,none⟩:Addr).add j = ⟨g,j,none⟩ by rw [← add_plain ⟨g,0,none⟩ j rfl]; simp,cell_of_row w g j _ _ fr h]
 match j,hu with
 | 0,hu=>simpa [cs8,u8v] using hu
theorem bs_one {w:World} {g:Nat} {b:UInt8} (h:Byt w g b):BSw w (.slice (some ⟨g,0,none⟩) 1 1) [b]:=bs_onF h h.lt
/-- Put into nothing. -/
theorem tput_zero {w:World} {c:Pct} {tb:Nat} {m:Pst} {F:Nat → Prop} {vp vg:Value} {put:List It} {gone:List Cn} (hp:PgS w c m) (ht:Blk w tb TTr #[.pointer (some ⟨c.pb,0,none⟩)]) (htb:¬ PF m.F c.pb c.sb tb)
  (h1:SLk 2 ItR w F vp put) (h2:SLk 1 BsR w F vg gone) (hlen:put.length + gone.length ≤ 10000000) (hpl:∀ x ∈ put,x.k.length ≤ 1073741824 ∧ x.v.length ≤ 1073741824) (hgl:∀ k ∈ gone,k.length ≤ 1073741824) (hN:m.N < 100000000) :
  Calls Try.prog 16 #[.pointer (some ⟨tb,0,none⟩),.int .i64 0,vp,vg] w fun e w'=>∃ l:List Ch,l.Perm (chs put gone) ∧ SortC l ∧ ((okL l ∧ PutQ w c m (mergeC [] l) 1 (put.length + gone.length) (fun _=>True) (fun _ _=>True) e w') ∨ (¬ okL l ∧ e = .returned (.tuple #[.int .i64 0,.int .i64 1]) ∧ Below w.heap.size w w')):=
 tput_any (IS:=mergeC []) (h:=1) (bnd:=put.length + gone.length) (E:=fun _ _=>True) (fun _ _ h=>h) hp ht htb h1 h2 (by omega) hpl hgl (by omega) (by omega) (fun l w1 B mb vtodo hperm hok hmw hB hsl=>by
  have hl:l.length = put.length + gone.length:=by rw [hperm.length_eq]; unfold chs; simp
  have hml:=mergeC_len l
  have hpl:=parts_le (sz:=szI) (l:=mergeC [] l) (fun x hx=>by have:=(mergeC_ok hok x hx).sz; omega)
  exact (make_zero hmw hB hsl hok (by omega) (by omega) (by simp)).mono fun e w' h=>h.mono (by omega))
theorem bs_string {w:World} {F:Nat → Prop} {v:Value} {l:Cn} (h:BS w F v l):(convert 38 9 v).run Try.prog w = .ok (.string ⟨l.toArray⟩) w:=by
 obtain ⟨A,c,rfl,_,hr⟩:=h
 rcases A with _ | ad
 ·have hn:l.length = 0:=by
   rcases Nat.eq_zero_or_pos l.length with h | h
   ·exact h
   ·obtain ⟨_,h,_⟩:=hr.2 h; cases h
  have:l = []:=List.eq_nil_of_length_eq_zero hn
  subst this
  rw [run_convert_bytes_string w _ _ _ none _ _ Try.underlying38 Try.underlying5 Try.underlying9]
  simp [Conv.bytesToString]
  rfl
 ·exact run_convert_bytes_back w 38 9 5 ad c l Try.underlying38 Try.underlying5 Try.underlying9 (fun j hj=>by
   obtain ⟨ad',e,_,hc⟩:=hr.2 (by omega)
   injection e with e
   subst e
   exact hc j _ (by rw [cs8_get,List.getElem?_eq_getElem hj]; rfl))
theorem Chain.pow {n0 k n a:Nat} (h:Chain n0 k n) (h0:n0 ≤ 12 ^ a):k ≤ a ∧ n ≤ 12 ^ (a - k):=by
 induction h with
 | zero=>exact ⟨Nat.zero_le _,h0⟩
 | @step k n n' h1 h2 h3 ih=>
  obtain ⟨h4,h5⟩:=ih
  rcases Nat.lt_or_ge k a with q | q
  ·refine ⟨q,?_⟩
   have e:12 ^ (a - k) = 12 * 12 ^ (a - (k + 1)):=by
    rw [show a - k = (a - (k + 1)) + 1 by omega,Nat.pow_succ,Nat.mul_comm]
   have:1 ≤ 12 ^ (a - (k + 1)):=Nat.one_le_pow _ _ (by omega)
   rw [e] at h5
   omega
  ·rw [show a - k = 0 by omega] at h5
   simp at h5
   omega
/-- Get of a tree. -/
theorem tget_q {w:World} {c:Pct} {tb:Nat} {m:Pst} {vk:Value} {key:Cn} {h:Nat} {x:KI} (hp:PgS w c m) (ht:Blk w tb TTr #[.pointer (some ⟨c.pb,0,none⟩)]) (htb:¬ PF m.F c.pb c.sb tb) (hk:BS w (fun j=>¬ PF m.F c.pb c.sb j) vk key) (hx:KidT c m h x) (hh:h ≤ 32) (hr:RiseI x.2) :
  Calls Try.prog 12 #[.pointer (some ⟨tb,0,none⟩),.int .i64 (x.1.p:Int),vk] w fun e w'=>GotV w w' e (valOf x.2 key) ∧ PgS w' c m ∧ Fr (PF m.F c.pb c.sb) w w':=
 tget_ok hp ht htb hk hx.2.1.trP hh (rise_items.2 hr)
theorem GotV.some_ {w0 w':World} {e:Ending} {v:Cn} (h:GotV w0 w' e (some v)):∃ x,e = .returned (.tuple #[x,.int .i64 0]) ∧ BS w' (fun j=>w0.heap.size ≤ j) x v:=h
set_option maxRecDepth 100000 in
set_option maxHeartbeats 2000000 in
theorem answers17 (w:World):Calls Try.prog 8 #[] w fun e w'=>e = .returned (.bool true) ∧ Below w.heap.size w w':=by
 have hfr:=fresh_any w 16 (by omega) (by omega)
 rw [show ((16:Nat):Int) = 16 from rfl] at hfr
 have HFR:=hide hfr
 clear hfr
 go_enter Try.func8,Try.ntmps8
 go_upto_region 4 with (go_at_call 7; (refine HFR.out.mono ?_); rintro e w1 ⟨tb,c,m,rfl,hf⟩; have HF1:=hide hf; clear hf)
 have kc:=fun (w:World) (C:Array Value) (n c:Nat)=>Lib.run_convert_bytes_const (P:=Try.prog) w 38 5 C n c Try.underlying38 Try.underlying5
 have kc2:=Go.Joins.run_convert_bytes_const_at (P:=Try.prog) (w1.alloc (.cells #[.int .u8 97] T8 (1,2))) 38 5 #[.int .u8 49] 1 1 (w1.heap.size + 1) (heap_al _ _).symm Try.underlying38 Try.underlying5
 obtain ⟨w2,hw2⟩:∃ w2,((w1.alloc (.cells #[.int .u8 97] T8 (1,2))).alloc (.cells #[.int .u8 49] T8 (1,2))).alloc (.cells #[.slice (some ⟨w1.heap.size,0,none⟩) 1 1,.slice (some ⟨w1.heap.size + 1,0,none⟩) 1 1] TIt) = w2:=⟨_,rfl⟩
 have HB2:=hide (show Below w1.heap.size w1 w2 from hw2 ▸ bal (bal (al_below w1 _) _) _)
 have HA:=hide (show Byt w2 w1.heap.size 97 from hw2 ▸ Byt.al (Byt.al (⟨(1,2),heap_alloc_new w1 _⟩:Byt (w1.alloc (.cells #[.int .u8 97] T8 (1,2))) w1.heap.size 97) _) _)
 have HV:=hide (show Byt w2 (w1.heap.size + 1) 49 from hw2 ▸ (by
  have:=(⟨(1,2),heap_alloc_new (w1.alloc (.cells #[.int .u8 97] T8 (1,2))) _⟩:Byt ((w1.alloc (.cells #[.int .u8 97] T8 (1,2))).alloc (.cells #[.int .u8 49] T8 (1,2))) (w1.alloc (.cells #[.int .u8 97] T8 (1,2))).heap.size 49)
  rw [heap_al] at this
  exact Byt.al this _))
 have HI:=hide (show Blk w2 (w1.heap.size + 2) TIt #[.slice (some ⟨w1.heap.size,0,none⟩) 1 1,.slice (some ⟨w1.heap.size + 1,0,none⟩) 1 1] from hw2 ▸ (by have:=Blk.new ((w1.alloc (.cells #[.int .u8 97] T8 (1,2))).alloc (.cells #[.int .u8 49] T8 (1,2))) TIt #[.slice (some ⟨w1.heap.size,0,none⟩) 1 1,.slice (some ⟨w1.heap.size + 1,0,none⟩) 1 1]; rwa [heap_al,heap_al] at this))
 have HPut:=hide (tput_zero (w:=w2) (c:=c) (m:=m) (Pg.below HF1.out.pg HB2.out) (HF1.out.tr.below HB2.out HF1.out.tr.lt) HF1.out.nt (SLk.one_it HI.out (bs_one (b:=97) HA.out) (bs_one (b:=49) HV.out)) (SLk.nil (R:=BsR) (k:=1) w2 (fun j=>j < w2.heap.size)) (by simp) (by simp) (by simp) (by rw [HF1.out.n0]; omega))
 have HW2:=hide hw2
 clear hw2
 have HPut2:=hide (HPut.out.mono (R':=fun e w3=>∃ (x:KI) (m3:Pst),e = .returned (.tuple #[.int .i64 (x.1.p:Int),.int .i64 0]) ∧ KidT c m3 1 x ∧ x.2 = [⟨[97],[49]⟩] ∧ PgS w3 c m3 ∧ Fr (PF m.F c.pb c.sb) w2 w3 ∧ ∀ j,PF m3.F c.pb c.sb j → PF m.F c.pb c.sb j ∨ w2.heap.size ≤ j) (fun e w3 ⟨l,hperm,_,hcase⟩=>by
  obtain rfl:l = [⟨[97],[49],false⟩]:=by
   have:=hperm
   unfold chs at this
   exact List.perm_singleton.1 (by simpa using this)
  have hmc:mergeC [] [(⟨[97],[49],false⟩:Ch)] = [⟨[97],[49]⟩]:=by rw [mergeC_nil]; rfl
  rcases hcase with ⟨_,m3,T,h1,h2,h3,_,_,hh⟩ | ⟨hno,_⟩
  ·rw [hmc] at hh
   rcases hh with ⟨_,hz⟩ | ⟨x,k,n0,he,hkt,hx2,hn0,hch,_⟩ | ⟨_,_,hroom⟩
   ·cases hz
   ·have hk:=(hch.pow (a:=0) (by simpa using hn0)).1
    obtain rfl:k = 0:=by omega
    exact ⟨x,m3,he,hkt,hx2,h1,h2,h3⟩
   ·exact absurd (hroom.not HF1.out.st (by simp)) id
  ·exact absurd ⟨fun c hc=>by rw [List.mem_singleton.1 hc]; decide,List.pairwise_singleton _ _⟩ hno))
 clear HPut
 go_upto_region 5 with (go_at_call 16; (try rw [HW2.out]); (refine HPut2.out.mono ?_); rintro e w3 ⟨x,m3,rfl,hkt,hx2,hp3,hf3,hn3⟩; have HKT:=hide hkt; have HX2:=hide hx2; have HP3:=hide hp3; have HF3:=hide hf3; have HN3:=hide hn3; clear hkt hx2 hp3 hf3 hn3)
 obtain ⟨w4,hw4⟩:∃ w4,w3.alloc (.cells #[.int .u8 97] T8 (1,2)) = w4:=⟨_,rfl⟩
 have HB4:=hide (show Below w3.heap.size w3 w4 from hw4 ▸ al_below w3 _)
 have HA4:=hide (show Byt w4 w3.heap.size 97 from hw4 ▸ ⟨(1,2),heap_alloc_new w3 _⟩)
 have HPlt:=hide (show ∀ j,PF m3.F c.pb c.sb j → j < w3.heap.size from fun j hj=>PF.lt HP3.out hj)
 have HNT:=hide (show ¬ PF m3.F c.pb c.sb tb from fun h=>(HN3.out tb h).elim HF1.out.nt (fun q=>by have h1:=HF1.out.tr.lt; have h2:=HB2.out.size; omega))
 have HTR:=hide (show Blk w4 tb TTr #[.pointer (some ⟨c.pb,0,none⟩)] from by
  have h1:=HF3.out.blk (HF1.out.tr.below HB2.out HF1.out.tr.lt) HF1.out.nt
  exact h1.below HB4.out h1.lt)
 have HGet:=hide (tget_q (Pg.below HP3.out HB4.out) HTR.out HNT.out (bs_onF (b:=97) HA4.out (F:=fun j=>¬ PF m3.F c.pb c.sb j) (fun hpf=>by have:=HPlt.out _ hpf; omega)) HKT.out (by omega) (by rw [HX2.out]; exact List.pairwise_singleton _ _))
 have HW4:=hide hw4
 clear hw4
 have hp2:2 ≤ x.1.p:=by
  have:=HKT.out.2.1.1
  unfold pgB at this
  simp at this
  omega
 obtain ⟨pg,hpg⟩:∃ pg,x.1.p = pg:=⟨_,rfl⟩
 rw [hpg] at hp2 HGet ⊢
 clear hpg
 go_upto_region 6 with (go_at_call 12; (try rw [HW4.out]); (refine HGet.out.mono ?_); rintro e w5 ⟨hgv,hp5,hf5⟩; (rw [HX2.out,show valOf [(⟨[97],[49]⟩:It)] [97] = some [49] from rfl] at hgv); (obtain ⟨x5,rfl,hbs⟩:=hgv.some_); have HBS:=hide hbs; have HF5:=hide hf5; clear hgv hp5 hf5 hbs)
 have hcv:=bs_string HBS.out
 have hge:decide ((2:Int) ≤ (pg:Int)) = true:=by simp; omega
 go_wp2_with fail
 go_ret
 have hs1:=HF1.out.bel.size
 have hs2:=HB2.out.size
 have hs3:=HF3.out.size
 have hs4:=HB4.out.size
 refine ⟨rfl,(((HF1.out.bel.trans (HB2.out.mono hs1)).trans (HF3.out.below (Nat.le_trans hs1 hs2) HF1.out.pl)).trans (HB4.out.mono (by omega))).trans (HF5.out.below (by omega) (fun j hj=>(HN3.out j hj).elim (HF1.out.pl j) (fun q=>by omega)))⟩
end Go.Proofs.Ytkolacaceaamoaa
