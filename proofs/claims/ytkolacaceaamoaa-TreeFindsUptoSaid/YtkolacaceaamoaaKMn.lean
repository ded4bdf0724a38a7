/- The tree: make from nothing; Put. -/
import Derived.Test.YtkolacaceaamoaaKMm
/- The tree: make from nothing; Put. -/
set_option linter.unusedSimpArgs false
set_option linter.unusedVariables false
namespace Go.Proofs.Ytkolacaceaamoaa
open Go.RowKit
theorem mergeC_len (t:List Ch):(mergeC [] t).length ≤ t.length:=by
 rw [mergeC_nil]
 induction t with
 | nil=>simp
 | cons c t ih=>
  rw [List.flatMap_cons,List.length_append,List.length_cons]
  have:c.item.length ≤ 1:=by unfold Ch.item; split <;> simp
  omega
theorem mergeC_ok {t:List Ch} (h:okL t):∀ x ∈ mergeC [] t,itOk x:=fun x hx=>by
 rcases mergeC_mem [] t x hx with h1 | ⟨c,hc,_,e⟩
 ·cases h1
 ·rw [e]; exact h.1 c hc
theorem parts_le {α:Type} {sz:α → Nat} {l:List α} (hl:∀ x ∈ l,sz x ≤ 504):(cutF sz l).length ≤ l.length:=by
 have hcut:=cutF_ok sz hl
 have hflat:=cutF_flat sz hl
 have:∀ ps:List (List α),(∀ p ∈ ps,p ≠ []) → ps.length ≤ ps.flatten.length:=by
  intro ps
  induction ps with
  | nil=>intro _; simp
  | cons p ps ih=>
   intro hp
   have:=ih (fun q hq=>hp q (List.mem_cons_of_mem _ hq))
   have h2:0 < p.length:=List.length_pos_iff.2 (hp p List.mem_cons_self)
   rw [List.flatten_cons,List.length_append,List.length_cons]
   omega
 have:=this _ (fun p hp=>(hcut p hp).1)
 rwa [hflat] at this
theorem MkQ.from_ {w wr w':World} {c:Pct} {B mb tb:Nat} {took:List Nat} {vt:Value} {m:Pst} {is:List It} {h bnd:Nat} {E:Pst → List KI → Prop} {e:Ending} (hb:Below w.heap.size w wr) (hq:MkQ wr c B mb tb took vt m is h bnd E e w'):MkQ w c B mb tb took vt m is h bnd E e w':=by
 obtain ⟨vt',m',T,h1,h2,h3⟩:=hq
 exact ⟨vt',m',T,h1,(MkS.low hb).trans h2,h3⟩
set_option maxRecDepth 100000 in
set_option maxHeartbeats 2000000 in
/-- make from root 0. -/
theorem make_zero {w:World} {c:Pct} {B mb tb:Nat} {took:List Nat} {vt:Value} {m:Pst} {vl:Value} {t:List Ch} {dp:Int} (h:MkW w c B mb tb took vt m) (hB:B ≤ w.heap.size) (hl:SLk 3 ChR w (Sf w c mb vt m) vl t) (hok:okL t) (hlen:t.length ≤ 100000000) (hN:m.N + t.length < 1000000000) (htk:took.length ≤ 100000000) :
  Calls Try.prog 33 #[.pointer (some ⟨mb,0,none⟩),.int .i64 0,vl,.int .i64 dp] w fun e w'=>MkQ w c B mb tb took vt m (mergeC [] t) 1 (cutF szI (mergeC [] t)).length (fun _ _=>True) e w':=by
 have H1:=hide hl
 have HM:=hide h
 have hit:=mergeC_ok hok
 have hml:=mergeC_len t
 have hpl:=parts_le (sz:=szI) (l:=mergeC [] t) (fun x hx=>by have:=(hit x hx).sz; omega)
 have HIT:=hide hit
 obtain ⟨A1,c1,xs1,rfl,_⟩:=hl
 obtain ⟨tn,htn⟩:∃ tn,t.length = tn:=⟨_,rfl⟩
 have HTN:=hide htn
 rw [htn] at hlen hN hml H1 ⊢
 clear hit hok h htn
 go_enter Try.func33,Try.ntmps33
 go_wp2_with (first | (go_at_call 52; (refine (leaves_any (HM.out.below HB1.out) (Nat.le_trans hB HB1.out.size) HSL.out HIT.out (by omega) (by omega) (by omega)).mono ?_); rintro e w5 hq; have HQ5:=hide (MkQ.from_ HB1.out (MkQ.leaves HIT.out hq)); obtain ⟨vt',m',T,h1,h2,h3,h4,h4',(⟨v,kds,rfl,_⟩ | ⟨rfl,_⟩)⟩:=hq) | (go_at_call 53; (refine (items_any (F:=Sf w c mb vt m) (SLk.nil w _) H1.out (by rw [HTN.out]; simp; omega)).mono ?_); rintro e w1 ⟨v1,rfl,hgr,hb⟩; have HB1:=hide hb; have HSL:=hide (hgr.slk (F':=Sf w1 c mb vt m) (by decide) @ItR.keep (fun j hj hlt=>hb.block j hlt) (fun j hj hlt=>(MkS.low hb).sf hj) (fun g hg=>by obtain ⟨xs,h1,_⟩:=hgr; exact HM.out.fresh (h1.lt g hg).1 (h1.lt g hg).2)); clear hgr hb))
 all_goals (clear h1 h2 h3 h4 h4'; try go_wp2_with fail)
 ·refine bodyPost_ret (v:=.tuple #[v,.int .i64 0]) (by simp (maxDischargeDepth:=9) [results,Try.results33,go_sem]; done) rfl HQ5.out
 ·refine bodyPost_ret (v:=.tuple #[.slice none 0 0,.int .i64 16]) (by simp (maxDischargeDepth:=9) [results,Try.results33,go_sem]; done) rfl HQ5.out
/-- Storeys that are laid, one after the other: so many nodes. -/
inductive Chain (n0:Nat):Nat → Nat → Prop
 | zero:Chain n0 0 n0
 | step {k n n':Nat}:Chain n0 k n → 2 ≤ n → n' ≤ 1 + (1 + 37 * n) / 468 → Chain n0 (k + 1) n'
def PutQ (w:World) (c:Pct) (m:Pst) (is:List It) (h bnd:Nat) (P:Nat → Prop) (E:Pst → List KI → Prop) (e:Ending) (w':World):Prop:=
 ∃ m' T,PgS w' c m' ∧ Fr (PF m.F c.pb c.sb) w w' ∧ (∀ j,PF m'.F c.pb c.sb j → PF m.F c.pb c.sb j ∨ w.heap.size ≤ j) ∧ Grew c m m' T ∧ m'.N ≤ m.N + 3 * bnd ∧
  ((e = .returned (.tuple #[.int .i64 0,.int .i64 0]) ∧ is = []) ∨
   (∃ (x:KI) (k n0:Nat),e = .returned (.tuple #[.int .i64 (x.1.p:Int),.int .i64 0]) ∧ KidT c m' (h + k) x ∧ x.2 = is ∧ n0 ≤ bnd ∧ Chain n0 k 1 ∧ (0 < k → ∃ q,2 ≤ q ∧ Chain n0 (k - 1) q ∧ RootK (m'.C c) x.1.p q) ∧ (k = 0 → E m' [x]) ∧ P n0) ∨
   (e = .returned (.tuple #[.int .i64 0,.int .i64 16]) ∧ T = [] ∧ NoRoom m (4 * bnd)))
/-- Put's loop. -/
def PutI (w3:World) (c:Pct) (B mb tb:Nat) (m:Pst) (is:List It) (h bnd:Nat) (P:Nat → Prop) (E:Pst → List KI → Prop) (wr:World) (vl:Value) (n:Nat) (ev:Int):Prop:=
 ∃ vt' m' T,MkW wr c B mb tb T vt' m' ∧ MkS w3 c mb (.slice none 0 0) m wr vt' m' ∧ Grew c m m' T ∧ m.N + T.length ≤ m'.N ∧
  ((ev = 0 ∧ ∃ (l:List KI) (k n0:Nat),l.length = n ∧ SLk 2 KdR wr (Sf wr c mb vt' m') vl (l.map Prod.fst) ∧ (∀ x ∈ l,KidT c m' (h + k) x) ∧ l.flatMap Prod.snd = is ∧ n0 ≤ bnd ∧ Chain n0 k n ∧
   (0 < k → ∃ q,2 ≤ q ∧ Chain n0 (k - 1) q ∧ (n = 1 → ∀ x ∈ l,RootK (m'.C c) x.1.p q)) ∧ m'.N + 2 * n ≤ m.N + 3 * bnd ∧ (k = 0 → E m' l) ∧ P n0) ∨ (ev = 16 ∧ n = 0 ∧ m'.N ≤ m.N + 3 * bnd ∧ NoRoom m (4 * bnd)))
theorem Chain.le {n0 k n:Nat} (h:Chain n0 k n):n ≤ n0:=by
 induction h with
 | zero=>exact Nat.le_refl _
 | step h1 h2 h3 ih=>omega
theorem PutI.start {w3 w':World} {c:Pct} {B mb tb:Nat} {m:Pst} {is:List It} {h bnd:Nat} {P:Nat → Prop} {E:Pst → List KI → Prop} (hE:∀ C l,E C l → P l.length) {e:Ending} (hq:MkQ w3 c B mb tb [] (.slice none 0 0) m is h bnd E e w'):∃ (A:Option Addr) (n cc:Nat) (ev:Int),e = .returned (.tuple #[.slice A n cc,.int .i64 ev]) ∧ PutI w3 c B mb tb m is h bnd P E w' (.slice A n cc) n ev:=by
 obtain ⟨vt',m',T,h1,h2,h3,h4,h4',h5⟩:=hq
 rcases h5 with ⟨v,l,rfl,h6,h7,h8,h9,h10⟩ | ⟨rfl,hno⟩
 ·obtain ⟨A,cc,xs,rfl,hh⟩:=h6
  refine ⟨A,_,cc,0,rfl,vt',m',T,h1,h2,h3,h4',.inl ⟨rfl,l,0,l.length,by rw [List.length_map],⟨A,cc,xs,rfl,hh⟩,h7,h8,h9,by rw [List.length_map]; exact .zero,fun q=>absurd q (by omega),by rw [List.length_map]; omega,fun _=>h10,hE _ _ h10⟩⟩
 ·exact ⟨none,0,0,16,rfl,vt',m',T,h1,h2,h3,h4',.inr ⟨rfl,rfl,by omega,hno.mono (by omega)⟩⟩
theorem PutI.one {w3:World} {c:Pct} {B mb tb:Nat} {m:Pst} {is:List It} {h bnd:Nat} {P:Nat → Prop} {E:Pst → List KI → Prop} {wr:World} {vl:Value} {n:Nat} (hI:PutI w3 c B mb tb m is h bnd P E wr vl n 0):∃ vt' m' T,∃ (l:List KI) (k n0:Nat),MkW wr c B mb tb T vt' m' ∧ MkS w3 c mb (.slice none 0 0) m wr vt' m' ∧ Grew c m m' T ∧ m.N + T.length ≤ m'.N ∧ l.length = n ∧ SLk 2 KdR wr (Sf wr c mb vt' m') vl (l.map Prod.fst) ∧ (∀ x ∈ l,KidT c m' (h + k) x) ∧ l.flatMap Prod.snd = is ∧ n0 ≤ bnd ∧ Chain n0 k n ∧
   (0 < k → ∃ q,2 ≤ q ∧ Chain n0 (k - 1) q ∧ (n = 1 → ∀ x ∈ l,RootK (m'.C c) x.1.p q)) ∧ m'.N + 2 * n ≤ m.N + 3 * bnd ∧ (k = 0 → E m' l) ∧ P n0:=by
 obtain ⟨vt',m',T,h1,h2,h3,h3',h4⟩:=hI
 rcases h4 with ⟨_,l,k,n0,h5⟩ | ⟨e,_⟩
 ·exact ⟨vt',m',T,l,k,n0,h1,h2,h3,h3',h5⟩
 ·cases e
/-- One storey more. -/
theorem PutI.next {w3 w':World} {c:Pct} {B mb tb:Nat} {m:Pst} {is:List It} {h bnd:Nat} {P:Nat → Prop} {E:Pst → List KI → Prop} {wr:World} {n:Nat} {e:Ending} (hn:2 ≤ n) {vt':Value} {m':Pst} {T:List Nat} {l:List KI} {k n0:Nat} (h2:MkS w3 c mb (.slice none 0 0) m wr vt' m') (h3:Grew c m m' T) (h3':m.N + T.length ≤ m'.N) (hl:l.length = n) (h7:∀ x ∈ l,KidT c m' (h + k) x) (h8:l.flatMap Prod.snd = is) (h9:n0 ≤ bnd) (h10:Chain n0 k n) (h12:m'.N + 2 * n ≤ m.N + 3 * bnd) (h13:P n0)
  (hs:SvQ wr c B mb tb T vt' m' ((cutF szK (l.map Prod.fst)).map fun p=>([],p)) e w'):∃ (A:Option Addr) (n2 cc:Nat) (ev:Int),e = .returned (.tuple #[.slice A n2 cc,.int .i64 ev]) ∧ PutI w3 c B mb tb m is h bnd P E w' (.slice A n2 cc) n2 ev ∧ n2 < n:=by
 have hq:=MkQ.inner h7 hs
 have hcl:=cutK_len (l:=l.map Prod.fst) (fun x hx=>by
  obtain ⟨y,hy,rfl⟩:=List.mem_map.1 hx
  exact (h7 y hy).1)
 rw [List.length_map,hl] at hcl
 obtain ⟨vt2,m2,T2,g1,g2,g3,g4,g4',g5⟩:=hq
 have hch:=h10.le
 rcases g5 with ⟨v,l2,rfl,g6,g7,g8,g9,g10⟩ | ⟨rfl,hno⟩
 ·obtain ⟨A,cc,xs,rfl,hh⟩:=g6
  refine ⟨A,_,cc,0,rfl,⟨vt2,m2,T ++ T2,g1,h2.trans g2,h3.trans g3,by rw [List.length_append]; omega,.inl ⟨rfl,l2,k + 1,n0,by rw [List.length_map],⟨A,cc,xs,rfl,hh⟩,g7,g8.trans h8,h9,?_,fun _=>⟨n,hn,h10,fun e=>?_⟩,?_,fun q=>absurd q (by omega),h13⟩⟩,?_⟩
  ·rw [List.length_map]; exact .step h10 hn (by omega)
  ·rw [List.length_map] at e; rw [← hl]; exact g10 e
  ·rw [List.length_map]; omega
  ·rw [List.length_map]; omega
 ·exact ⟨none,0,0,16,rfl,⟨vt2,m2,T ++ T2,g1,h2.trans g2,h3.trans g3,by rw [List.length_append]; omega,.inr ⟨rfl,rfl,by omega,(hno.back h3).mono (by omega)⟩⟩,by omega⟩
theorem MkS.out {w w2 w3 wr:World} {c:Pct} {mb:Nat} {m m':Pst} {vt':Value} (hb:Below w.heap.size w w3) (hmb:w.heap.size ≤ mb) (h:MkS w3 c mb (.slice none 0 0) m wr vt' m'):Fr (PF m.F c.pb c.sb) w wr ∧ ∀ j,PF m'.F c.pb c.sb j → PF m.F c.pb c.sb j ∨ w.heap.size ≤ j:=by
 refine ⟨(Fr.low (F:=PF m.F c.pb c.sb) hb).trans h.fr (fun j hj hm=>?_),fun j hj=>?_⟩
 ·rcases hm with hm | rfl | hm
  ·exact hm
  ·omega
  ·cases hm
 ·rcases h.new j (.inl hj) with (hm | rfl | hm) | hm
  ·exact .inl hm
  ·exact .inr hmb
  ·cases hm
  ·exact .inr (Nat.le_trans hb.size hm)
set_option maxRecDepth 100000 in
set_option maxHeartbeats 8000000 in
theorem tput_any {w:World} {c:Pct} {tb:Nat} {m:Pst} {p:Int} {F:Nat → Prop} {vp vg:Value} {put:List It} {gone:List Cn} {IS:List Ch → List It} {h bnd:Nat} {P:Nat → Prop} {E:Pst → List KI → Prop} (hE:∀ C l,E C l → P l.length) (hp:PgS w c m) (ht:Blk w tb TTr #[.pointer (some ⟨c.pb,0,none⟩)]) (htb:¬ PF m.F c.pb c.sb tb)
  (h1:SLk 2 ItR w F vp put) (h2:SLk 1 BsR w F vg gone) (hlen:put.length + gone.length ≤ 100000000) (hpl:∀ x ∈ put,x.k.length ≤ 1073741824 ∧ x.v.length ≤ 1073741824) (hgl:∀ k ∈ gone,k.length ≤ 1073741824) (hbnd:bnd ≤ 100000000) (hN:m.N + 4 * bnd < 1000000000)
  (hmk:∀ (l:List Ch) (w1:World) (B mb:Nat) (vtodo:Value),l.Perm (chs put gone) → okL l → MkW w1 c B mb tb [] (.slice none 0 0) m → B ≤ w1.heap.size → SLk 3 ChR w1 (Sf w1 c mb (.slice none 0 0) m) vtodo l →
   Calls Try.prog 33 #[.pointer (some ⟨mb,0,none⟩),.int .i64 p,vtodo,.int .i64 0] w1 fun e w'=>MkQ w1 c B mb tb [] (.slice none 0 0) m (IS l) h bnd E e w') :
  Calls Try.prog 16 #[.pointer (some ⟨tb,0,none⟩),.int .i64 p,vp,vg] w fun e w'=>∃ l:List Ch,l.Perm (chs put gone) ∧ SortC l ∧ ((okL l ∧ PutQ w c m (IS l) h bnd P E e w') ∨ (¬ okL l ∧ e = .returned (.tuple #[.int .i64 0,.int .i64 1]) ∧ Below w.heap.size w w')):=by
 have HE:=hide hE
 have HP:=hide hp
 have HT:=hide ht
 have HTB:=hide htb
 have H1:=hide h1
 have H2:=hide h2
 have HPL:=hide hpl
 have HGL:=hide hgl
 have HMK:=hide hmk
 have HLE:=hide hlen
 have hn6:c.n ≤ 65536:=Pg.hn hp
 clear hE hp ht htb h1 h2 hpl hgl hmk hlen
 go_enter Try.func16,Try.ntmps16
 go_upto_region 4 with (go_at_call 23; (refine (talive_ok HT.out).mono ?_); rintro e w2 ⟨rfl,e2⟩; rw [e2]; clear e2)
 go_upto_region 5 with (go_at_call 32; (refine (changes_any H1.out H2.out (by have:=HLE.out; omega) HPL.out HGL.out).mono ?_); rintro e w2 ⟨l,hperm,hsort,hcase,hb⟩; have HPm:=hide hperm; have HSo:=hide hsort; have HB2:=hide hb; clear hperm hsort hb; rcases hcase with ⟨hok,v,rfl,hsl⟩ | ⟨hno,rfl⟩)
 rotate_left
 ·have HNo:=hide hno
  clear hno
  go_wp2_with fail
  refine bodyPost_ret (v:=.tuple #[.int .i64 0,.int .i64 1]) (by simp (maxDischargeDepth:=9) [results,Try.results16,go_sem]; done) rfl ⟨l,HPm.out,HSo.out,.inr ⟨HNo.out,rfl,HB2.out⟩⟩
 ·have HOk:=hide hok
  have HSL:=hide hsl
  obtain ⟨Al,cl,xl,rfl,_⟩:=hsl
  clear hok
  obtain ⟨w3,hw3⟩:∃ w3,w2.alloc (.cells #[.pointer (some ⟨tb,0,none⟩),.slice none 0 0] TMk) = w3:=⟨_,rfl⟩
  obtain ⟨mb,hmb⟩:∃ mb,w2.heap.size = mb:=⟨_,rfl⟩
  have HMB:=hide (show w.heap.size ≤ mb from hmb ▸ HB2.out.size)
  have hb23:Below w2.heap.size w2 w3:=hw3 ▸ al_below w2 _
  have HB3:=hide (show Below w.heap.size w w3 from HB2.out.trans (hb23.mono HB2.out.size))
  have HMW:=hide (show MkW w3 c w3.heap.size mb tb [] (.slice none 0 0) m from
   ⟨Pg.below HP.out HB3.out,HT.out.below HB3.out HT.out.lt,hmb ▸ hw3 ▸ Blk.new _ _ _,World.ownsRow_nil _ _ _ _,fun hh=>by have:=PF.lt HP.out hh; have:=HMB.out; omega,HTB.out,fun g hg=>by cases hg⟩)
  have HSL3:=hide (show SLk 3 ChR w3 (Sf w3 c mb (.slice none 0 0) m) (.slice Al l.length cl) l from HSL.out.keep (by omega) @ChR.keep (fun j hj hlt=>hb23.block j hlt) (fun j hj hlt=>⟨Nat.lt_of_lt_of_le hlt hb23.size,fun hm=>by
   rcases hm with hm | rfl | hm
   ·have:=PF.lt HP.out hm; omega
   ·omega
   ·cases hm⟩))
  clear hb23
  go_upto_region 8 with fail
  (try rw [hw3])
  (try rw [hmb])
  clear hw3 hmb
  go_upto_region 9 with (go_at_call 33; (refine (HMK.out l w3 w3.heap.size mb _ HPm.out HOk.out HMW.out (Nat.le_refl _) HSL3.out).mono ?_); rintro e w4 hq; (obtain ⟨A,n,cc,ev,rfl,hI⟩:=PutI.start HE.out hq); have HI:=hide hI; clear hq hI)
  go_loopw [14,15] (fun vl ve wr=>∃ (A:Option Addr) (n cc:Nat) (ev:Int),vl = .slice A n cc ∧ ve = .int .i64 ev ∧ Hid (PutI w3 c w3.heap.size mb tb m (IS l) h bnd P E wr (.slice A n cc) n ev)) (fun vl _ _=>vlen vl)
  case atStart=>exact ⟨A,n,cc,ev,rfl,rfl,HI⟩
  case round=>
   clear HI
   obtain ⟨A,n,cc,ev,rfl,rfl,HI⟩:=hrel
   by_cases he:ev = 0
   ·subst he
    obtain ⟨vt',m',T,ll,k,n0,hmw,hms,hgr,htn',hln,hsl,hkt,hfl,hn0,hch,hrk,hnn,hek,hpn⟩:=HI.out.one
    have HMWr:=hide hmw
    have HMSr:=hide hms
    have HGR:=hide hgr
    have HLN:=hide hln
    have HTn':=hide htn'
    have HSr:=hide hsl
    have HKT:=hide hkt
    have HFL:=hide hfl
    have HCH:=hide hch
    have HRK:=hide hrk
    have HPN:=hide hpn
    have HEK:=hide hek
    have hTl:T.length ≤ 65536:=Nat.le_trans hgr.len hn6
    have hnb:n ≤ bnd:=Nat.le_trans hch.le hn0
    clear hmw hms hgr hln htn' hsl hkt hfl hch hrk hpn hek
    by_cases h2:2 ≤ n
    ·have hcl:=cutK_len (l:=ll.map Prod.fst) (fun x hx=>by
      obtain ⟨y,hy,rfl⟩:=List.mem_map.1 hx
      exact (HKT.out y hy).1)
     rw [List.length_map,HLN.out] at hcl
     have HKO:=hide (show ∀ x ∈ ll.map Prod.fst,kdOk x from fun x hx=>by
      obtain ⟨y,hy,rfl⟩:=List.mem_map.1 hx
      exact (HKT.out y hy).1)
     have HCL:=hide hcl
     have HNN:=hide hnn
     clear hcl
     go_wp2_with (go_at_call 34; (refine (inner_any HMWr.out HMSr.out.fr.size HSr.out HKO.out (by rw [List.length_map,HLN.out]; omega) (by have:=HCL.out; have:=HNN.out; omega) (by have:=HCL.out; omega)).mono ?_); rintro e w5 hq; (obtain ⟨A5,n5,c5,ev5,rfl,hI,hlt⟩:=PutI.next (E:=E) h2 HMSr.out HGR.out HTn'.out HLN.out HKT.out HFL.out hn0 HCH.out HNN.out HPN.out hq); have HI5:=hide hI; clear hq hI)
     refine ⟨⟨A5,n5,c5,ev5,rfl,rfl,HI5⟩,?_⟩
     simp [vlen]
     omega
    ·have hout:=HMSr.out.out HB3.out HMB.out (w2:=w)
     have HOut:=hide hout
     clear hout
     by_cases hz:n = 0
     ·subst hz
      go_wp2_with fail
      refine bodyPost_ret (v:=.tuple #[.int .i64 0,.int .i64 0]) (by simp (maxDischargeDepth:=9) [results,Try.results16,go_sem]; done) rfl ⟨l,HPm.out,HSo.out,.inl ⟨HOk.out,m',T,HMWr.out.pg,HOut.out.1,HOut.out.2,HGR.out,by omega,.inl ⟨rfl,?_⟩⟩⟩
      have:ll = []:=List.eq_nil_of_length_eq_zero HLN.out
      rw [← HFL.out,this]
      rfl
     ·obtain rfl:n = 1:=by omega
      obtain ⟨x,hx⟩:=List.length_eq_one_iff.1 HLN.out
      have HX:=hide hx
      have hs2:=HSr.out
      rw [hx] at hs2
      obtain ⟨b,o,cs,rfl,hnn1,hnc,_,_,hbl,⟨a0,rfl,_⟩,hcell,hu1,hu2⟩:=hs2.uncons (fun a cs h=>KdR.two a cs h) (by omega)
      have k1:=hcell 1 _ rfl
      clear hx hs2 hcell hnn1 hu1 hu2
      go_wp2_with fail
      refine bodyPost_ret (v:=.tuple #[.int .i64 (x.1.p:Int),.int .i64 0]) (by simp (maxDischargeDepth:=9) [results,Try.results16,go_sem]; done) rfl ⟨l,HPm.out,HSo.out,.inl ⟨HOk.out,m',T,HMWr.out.pg,HOut.out.1,HOut.out.2,HGR.out,by omega,.inr (.inl ⟨x,k,n0,rfl,HKT.out x (by rw [HX.out]; exact List.mem_cons_self),?_,hn0,HCH.out,fun h0=>?_,fun h0=>by have:=HEK.out h0; rwa [HX.out] at this,HPN.out⟩)⟩⟩
      ·have:=HFL.out
       rw [HX.out] at this
       simpa using this
      ·obtain ⟨q,q1,q2,q3⟩:=HRK.out h0
       exact ⟨q,q1,q2,q3 (by simp) x (by rw [HX.out]; exact List.mem_cons_self)⟩
   ·obtain ⟨vt',m',T,hmw,hms,hgr,_,hcs⟩:=HI.out
    rcases hcs with ⟨e,_⟩ | ⟨rfl,rfl,hnn,hroom⟩
    ·exact absurd e he
    ·have HOut:=hide (hms.out HB3.out HMB.out (w2:=w))
     have HMWr:=hide hmw
     have HGR:=hide hgr
     have HRoom:=hide hroom
     clear hroom
     obtain ⟨Av,cv,rfl,hcv⟩:=own_slice hmw.tk
     have hTl:T.length ≤ 65536:=Nat.le_trans hgr.len hn6
     obtain ⟨tn,htn⟩:∃ tn,T.length = tn:=⟨_,rfl⟩
     have HFree:=hide (fun (w5:World) (hb5:Below wr.heap.size wr w5)=>pfree_ok (Pg.below hmw.pg hb5) Av tn cv (T.map Int.ofNat) (by
      have:=Reads.of_own (hmw.tk)
      rw [htn] at this
      have h2:=(this.below hb5).more hb5.size
      unfold NB
      rw [List.map_map]
      exact h2) (by omega) (fun ad e=>by
       have:=hmw.nv ad.block (by rw [e]; rfl)
       exact fun e2=>this (.inr (.inr e2))) (by
       unfold allPg
       rw [List.all_eq_true]
       intro x hx
       obtain ⟨q,hq,rfl⟩:=List.mem_map.1 hx
       exact (page_ok hmw.pg (hgr.in_ q hq).1 (hgr.in_ q hq).2.1).1))
     clear hmw hms hgr
     rw [htn] at hTl hcv
     have HMKB:=hide HMWr.out.mkb
     have HTRB:=hide HMWr.out.tr
     rw [htn] at HMKB
     clear htn
     go_upto_region 12 with fail
     refine wp_region_dag (by kernel_rfl) (by kernel_rfl) 74 1
      [⟨some 54,[0,1],[],[],[],[],fun _ _ v _=>v = .pointer (some ⟨mb,0,none⟩)⟩,
       ⟨some 55,[0,1],[],[],[0],[],fun _ _ v _=>v = .pointer (some ⟨mb,0,none⟩)⟩,
       ⟨some 56,[0,1],[],[],[1],[],fun _ _ v _=>v = .pointer (some ⟨mb,0,none⟩)⟩,
       ⟨some 57,[0],[],[],[2],[],fun _ _ v _=>v = .pointer (some ⟨tb,0,none⟩)⟩,
       ⟨some 58,[0,1],[],[],[3],[],fun _ _ v _=>v = .pointer (some ⟨tb,0,none⟩)⟩,
       ⟨some 59,[0,1],[],[],[4],[],fun _ _ v _=>v = .pointer (some ⟨tb,0,none⟩)⟩,
       ⟨some 60,[0],[],[],[5],[],fun _ _ v _=>v = .pointer (some ⟨c.pb,0,none⟩)⟩,
       ⟨some 61,[0,1],[],[],[],[],fun _ _ v _=>v = .pointer (some ⟨mb,0,none⟩)⟩,
       ⟨some 62,[0,1],[],[],[7],[],fun _ _ v _=>v = .pointer (some ⟨mb,0,none⟩)⟩,
       ⟨some 63,[0,1],[],[],[8],[],fun _ _ v _=>v = .pointer (some ⟨mb,1,none⟩)⟩,
       ⟨some 64,[0],[],[],[9],[],fun _ _ v _=>v = .slice Av tn cv⟩,
       ⟨some 65,[0],[(0,1)],[1],[6,10],[],fun _ _ _ _=>True⟩] (fun st w'=>(st = 0 → Below wr.heap.size wr w') ∧ (st = 1 → PgS w' c { m' with st:=(T.map Int.ofNat).foldl (updN freeU) m'.st } ∧ Fr (fun j=>j = c.sb) wr w')) (fun s s' _ _ _=>s = 0 ∧ s' = 1) (fun _ w w'=>Below w.heap.size w w') ?gu ?ru ?put [54,55,56,57,58,59,60,61,62,63,64,65] rfl (by kernel_rfl) rfl ?g0 ?keep ?steps ?fin
     case ru=>
      intro e he s a v w w' hu hv
      simp only [List.mem_cons,List.not_mem_nil,or_false] at he
      rcases he with rfl | rfl | rfl | rfl | rfl | rfl | rfl | rfl | rfl | rfl | rfl | rfl
      all_goals first | exact hv
     case put=>
      intro e he s a d u v w hnd hv
      simp only [List.mem_cons,List.not_mem_nil,or_false] at he
      rcases he with rfl | rfl | rfl | rfl | rfl | rfl | rfl | rfl | rfl | rfl | rfl | rfl
      all_goals first | exact hv
     case keep=>
      intro e he s s' a v w w' hsl hm ht hv
      simp only [List.mem_cons,List.not_mem_nil,or_false] at he
      rcases he with rfl | rfl | rfl | rfl | rfl | rfl | rfl | rfl | rfl | rfl | rfl | rfl
      all_goals first | exact hv | (intro h3; omega)
     case steps=>
      refine ⟨?_,?_,?_,?_,?_,?_,?_,?_,?_,?_,?_,?_,trivial⟩
      ·intro st hst ac w3 hg hG hd K hK
       dsimp only at hst hG hK
       exact op_move _ rfl (hK _ _ (Below.refl _ _) (hg.kp 13 (by simp)))
      ·intro st hst ac w3 hg hG hd K hK
       dsimp only at hst hG hK
       have f0:=hd 0 (by simp) _ rfl _ rfl
       (try simp [Act.eval] at f0)
       go_simp
       exact hK _ _ (Below.refl _ _) rfl
      ·intro st hst ac w3 hg hG hd K hK
       dsimp only at hst hG hK
       have f1:=hd 1 (by simp) _ rfl _ rfl
       (try simp [Act.eval] at f1)
       go_simp
       exact hK _ _ (Below.refl _ _) rfl
      ·intro st hst ac w3 hg hG hd K hK
       dsimp only at hst hG hK
       simp only [List.mem_cons,List.not_mem_nil,or_false] at hst
       subst hst
       have hX:=HMKB.out.below (hG.1 rfl) HMKB.out.lt
       have kk:=hX.cell 0
       have zz:=hX.lt
       simp at kk
       clear hG hX
       have f2:=hd 2 (by simp) _ rfl _ rfl
       (try simp [Act.eval] at f2)
       go_simp
       exact hK _ _ (Below.refl _ _) rfl
      ·intro st hst ac w3 hg hG hd K hK
       dsimp only at hst hG hK
       have f3:=hd 3 (by simp) _ rfl _ rfl
       (try simp [Act.eval] at f3)
       go_simp
       exact hK _ _ (Below.refl _ _) rfl
      ·intro st hst ac w3 hg hG hd K hK
       dsimp only at hst hG hK
       have f4:=hd 4 (by simp) _ rfl _ rfl
       (try simp [Act.eval] at f4)
       go_simp
       exact hK _ _ (Below.refl _ _) rfl
      ·intro st hst ac w3 hg hG hd K hK
       dsimp only at hst hG hK
       simp only [List.mem_cons,List.not_mem_nil,or_false] at hst
       subst hst
       have hX:=HTRB.out.below (hG.1 rfl) HTRB.out.lt
       have kk:=hX.cell 0
       have zz:=hX.lt
       simp at kk
       clear hG hX
       have f5:=hd 5 (by simp) _ rfl _ rfl
       (try simp [Act.eval] at f5)
       go_simp
       exact hK _ _ (Below.refl _ _) rfl
      ·intro st hst ac w3 hg hG hd K hK
       dsimp only at hst hG hK
       exact op_move _ rfl (hK _ _ (Below.refl _ _) (hg.kp 13 (by simp)))
      ·intro st hst ac w3 hg hG hd K hK
       dsimp only at hst hG hK
       have f7:=hd 7 (by simp) _ rfl _ rfl
       (try simp [Act.eval] at f7)
       go_simp
       exact hK _ _ (Below.refl _ _) rfl
      ·intro st hst ac w3 hg hG hd K hK
       dsimp only at hst hG hK
       have f8:=hd 8 (by simp) _ rfl _ rfl
       (try simp [Act.eval] at f8)
       go_simp
       exact hK _ _ (Below.refl _ _) rfl
      ·intro st hst ac w3 hg hG hd K hK
       dsimp only at hst hG hK
       simp only [List.mem_cons,List.not_mem_nil,or_false] at hst
       subst hst
       have hX:=HMKB.out.below (hG.1 rfl) HMKB.out.lt
       have kk:=hX.cell 1
       have zz:=hX.lt
       simp at kk
       clear hG hX
       have f9:=hd 9 (by simp) _ rfl _ rfl
       (try simp [Act.eval] at f9)
       go_simp
       exact hK _ _ (Below.refl _ _) rfl
      ·intro st st' hmv ac w3 hg hG hd K hK
       simp only [List.mem_cons,Prod.mk.injEq,List.not_mem_nil,or_false] at hmv
       obtain ⟨rfl,rfl⟩:=hmv
       dsimp only at hG hK
       have f6:=hd 6 (by simp) _ rfl _ rfl
       have f10:=hd 10 (by simp) _ rfl _ rfl
       have HG9:=hide (hG.1 rfl)
       clear hG
       simp [Act.eval] at f6 f10
       go_simp
       (refine (HFree.out w3 HG9.out).mono ?_)
       rintro e w5 ⟨rfl,hp5,hf5⟩
       exact hK _ _ ⟨rfl,rfl⟩ ⟨fun e=>by omega,fun _=>⟨hp5,(Fr.low (F:=fun j=>j = c.sb) HG9.out).trans hf5 (fun _ _ h=>h)⟩⟩ trivial
     case gu=>intro s w1 w2 hG hu; exact ⟨fun e=>(hG.1 e).trans (hu.mono (hG.1 e).size),fun e=>⟨Pg.below (hG.2 e).1 hu,(hG.2 e).2.trans (Fr.low (F:=fun j=>j = c.sb) hu) (fun _ _ h=>h)⟩⟩
     case g0=>exact ⟨fun _=>(Below.refl _ _).drew,fun e=>by omega⟩
     case fin=>
      intro f9 w6 hG hall
      have HG6:=hide (hG.2 rfl)
      clear hall hG
      simp only [fillF,List.map_cons,List.map_nil,List.foldl_cons,List.foldl_nil,Act.put,List.setIfInBounds_toArray,List.set_cons_zero,List.set_cons_succ]
      go_wp2_with fail
      refine bodyPost_ret (v:=.tuple #[.int .i64 0,.int .i64 16]) (by simp (maxDischargeDepth:=9) [results,Try.results16,go_sem]; done) rfl ⟨l,HPm.out,HSo.out,.inl ⟨HOk.out,_,[],HG6.out.1,HOut.out.1.trans HG6.out.2 (fun j hj e=>.inr (.inr e)),HOut.out.2,HGR.out.freed ?_,hnn,.inr (.inr ⟨rfl,rfl,HRoom.out⟩)⟩⟩
      exact (Pg.len HMWr.out.pg).trans (Pg.len HP.out).symm
end Go.Proofs.Ytkolacaceaamoaa
/- The law's own: items that share nothing; append to an empty literal. -/
namespace Go.Proofs.Ytkolacaceaamoaa
open Go.RowKit
section
variable {P:Program} (w:World)
theorem run_append_lit (t ty e:TypeId) (i:TypeInfo) (ht:P.underlying t = some (.slice e)) (hi:P.info? e = some i) (a ad:Addr) (m c:Nat) (hm:0 < m) (hs:Builtin.nextslicecap m 0 * i.bytes ≤ 2 ^ 48) :
  (Builtin.append_ #[t,t] ty #[.slice (some a) 0 0,.slice (some ad) m c]).run P w = (Builtin.append_ #[t,t] ty #[.slice none 0 0,.slice (some ad) m c]).run P w:=by
 have h0:¬ m ≤ 0:=by omega
 have h1:m ≠ 0:=by omega
 have h2:¬ (281474976710656 < Builtin.nextslicecap m 0 * i.bytes):=by omega
 have hl:∀ w,(loadCells a 0).run P w = .ok #[] w:=fun w=>by first | rfl | simp [loadCells]
 simp [hl,Builtin.append_,run_underlying ht,sizeOf,typeInfo,hi,Builtin.lenOf,Builtin.firstCells,h0,h1,h2]
theorem append_lit_run (t ty e:TypeId) (i:TypeInfo) (z:Value) (size bytes:Nat) (ht:P.underlying t = some (.slice e)) (hi:P.info? e = some i) (hz:i.zero = some z)
  (hsize:i.size = size) (hby:i.bytes = bytes) (hzs:z.cells.size = size) (hsz:0 < size) (a:Addr) (A:Option Addr) (m c:Nat) (news:List Value) (hr:Reads w w.heap.size size A m news) (h1:∀ u ∈ news,u.oneCell' = true) (h63:m ≤ maxLen) (hbytes:m * bytes ≤ 140737488355328) :
  ∃ v' w',(Builtin.append_ #[t,t] ty #[.slice (some a) 0 0,.slice A m c]).run P w = .ok v' w' ∧ ((m = 0 ∧ v' = .slice (some a) 0 0) ∨ w'.ownsRow w.heap.size e size v' m news) ∧ Below w.heap.size w w':=by
 rcases Nat.eq_zero_or_pos m with h0 | h0
 ·subst h0
  refine ⟨.slice (some a) 0 0,w,?_,.inl ⟨rfl,rfl⟩,Below.refl _ _⟩
  rcases A with _ | ad
  ·simp [Builtin.append_,run_underlying ht,sizeOf,typeInfo,hi,Builtin.lenOf,Builtin.firstCells,storeCells]
  ·have hl:∀ w,(loadCells ad 0).run P w = .ok #[] w:=fun w=>by first | rfl | simp [loadCells]
   simp [hl,Builtin.append_,run_underlying ht,sizeOf,typeInfo,hi,Builtin.lenOf,Builtin.firstCells,storeCells]
 ·obtain ⟨ad,rfl,_,_⟩:=hr.2 h0
  have hn:Builtin.nextslicecap m 0 = m:=by unfold Builtin.nextslicecap; rw [if_pos (by omega)]
  obtain ⟨v',w',hrun,h2,h3,_⟩:=run_append_any (P:=P) w w.heap.size t ty e i z size bytes ht hi hz hsize hby hzs hsz (.slice none 0 0) 0 [] (World.ownsRow_nil _ _ _ _) w.heap.size (some ad) m c news hr h1 (by omega) (by rw [Nat.zero_add]; exact hbytes) (Nat.le_refl _)
  refine ⟨v',w',?_,.inr (by simpa using h2),?_⟩
  ·rw [run_append_lit w t ty e i ht hi a ad m c h0 (by rw [hn,hby]; omega)]
   exact hrun
  ·exact ⟨h3.os,h3.tape,h3.output,h3.size,fun j hj=>h3.block j hj (by simp [Value.ownBlock])⟩
theorem wp_append_lit {o:Oper} {a:Act} {K:Act → World → Prop} {Q:Exit → Act → World → Prop} (s x:Operand) (t:TypeId)
  (ho:o.op = .call { callee:=.builtin .append,args:=#[s,x],argTypes:=#[t,t] })
  (e:TypeId) (i:TypeInfo) (z:Value) (size bytes:Nat) (ht:P.underlying t = some (.slice e)) (hi:P.info? e = some i) (hz:i.zero = some z)
  (hsize:i.size = size) (hby:i.bytes = bytes) (hzs:z.cells.size = size) (hsz:0 < size)
  (g:Addr) (hs:a.eval s = .slice (some g) 0 0) (A:Option Addr) (m c:Nat) (news:List Value) (hx:a.eval x = .slice A m c) (hr:Reads w w.heap.size size A m news) (h1:∀ u ∈ news,u.oneCell' = true)
  (h63:m ≤ maxLen) (hbytes:m * bytes ≤ 140737488355328)
  (h:∀ v' w',((m = 0 ∧ v' = .slice (some g) 0 0) ∨ w'.ownsRow w.heap.size e size v' m news) → Below w.heap.size w w' → K (a.put o.dst v') w'):o.wp P a w K Q:=by
 obtain ⟨v',w',hrun,h2,h3⟩:=append_lit_run (P:=P) w t o.type e i z size bytes ht hi hz hsize hby hzs hsz g A m c news hr h1 h63 hbytes
 unfold Oper.wp execOp
 simp only [ho,resolve,invoke,builtin,Sem.run_bind,Sem.run_pure,Result.andThen_ok,List.map_toArray,List.map_cons,List.map_nil,hs,hx,hrun]
 exact h v' w' h2 h3
end
/-- Bytes behind an empty literal. -/
theorem BS.lit {w w':World} {g:Addr} {v:Value} {l:Cn} (h:(l.length = 0 ∧ v = .slice (some g) 0 0) ∨ w'.ownsRow w.heap.size T8 1 v l.length (cs8 l)):BS w' (fun j=>w.heap.size ≤ j ∧ j < w'.heap.size) v l:=by
 rcases h with ⟨h0,rfl⟩ | h
 ·have hl:l = []:=List.eq_nil_of_length_eq_zero h0
  subst hl
  exact ⟨some g,0,rfl,⟨Nat.le_refl _,Nat.zero_le _⟩,RF.nil _⟩
 ·exact BS.of_own h
set_option maxRecDepth 100000 in
set_option maxHeartbeats 8000000 in
theorem lown_any {w:World} {F:Nat → Prop} {vp:Value} {put:List It} (h1:SLk 2 ItR w F vp put) (hlen:put.length ≤ 100000000) (hp:∀ x ∈ put,x.k.length ≤ 1073741824 ∧ x.v.length ≤ 1073741824) :
  Calls Try.prog 15 #[vp] w fun e w'=>∃ v,e = .returned v ∧ SLk 2 ItR w' (fun j=>w.heap.size ≤ j ∧ j < w'.heap.size) v put ∧ Below w.heap.size w w':=by
 obtain ⟨i0,hi0,hz0,hz1,hz2⟩:=tit_inf
 obtain ⟨i1,hi1,hy0,hy1,hy2⟩:=info_parts u8_info
 have HI0:=hide hi0
 have HZ0:=hide hz0
 have HI1:=hide hi1
 have HY0:=hide hy0
 have H1:=hide h1
 have HP:=hide hp
 obtain ⟨A1,c1,xs1,rfl,hc1,_⟩:=h1
 clear hi0 hz0 hi1 hy0 hp
 obtain ⟨n1,hn1⟩:∃ n,put.length = n:=⟨_,rfl⟩
 have HN1:=hide hn1
 rw [hn1] at H1 hc1 hlen ⊢
 clear hn1
 go_enter Try.func15,Try.ntmps15
 go_wp2_with fail
 go_loopw [3,4] (fun vl vi wr=>∃ (j c:Nat) (A:Option Addr),vl = .slice A j c ∧ vi = .int .i64 (j:Int) ∧ j ≤ n1 ∧ Hid (GrN ItR TIt 2 (fun _=>False) w wr (.slice A j c) (put.take j))) (fun _ vi _=>n1 - (intOf vi).toNat)
 case atStart=>exact ⟨0,0,none,rfl,rfl,by omega,hide ⟨Below.refl _ _,[],World.ownsRow_nil _ _ _ _,rfl⟩⟩
 case round=>
  obtain ⟨j,c,A,rfl,rfl,hj,HG⟩:=hrel
  by_cases hlt:j < n1
  ·have hj':j < put.length:=by rw [HN1.out]; exact hlt
   obtain ⟨b,o,A0,c0,B0,d0,rfl,hb,hF,k0,k1,hit⟩:=H1.out.at_it hj'
   have hx:=HP.out put[j] (List.getElem_mem hj')
   have hTK:=List.take_succ_eq_append_getElem hj'
   obtain ⟨y,hy⟩:∃ y,put[j] = y:=⟨_,rfl⟩
   rw [hy] at k0 k1 hx hTK hit
   have HTK:=hide hTK
   clear hy hTK
   obtain ⟨kl,hkl⟩:∃ kl,y.k.length = kl:=⟨_,rfl⟩
   obtain ⟨vl0,hvl⟩:∃ vl,y.v.length = vl:=⟨_,rfl⟩
   have HKL:=hide hkl
   have HVL:=hide hvl
   rw [hkl,hvl] at hx
   rw [hkl] at k0 hit
   rw [hvl] at k1 hit
   obtain ⟨hx1,hx2⟩:=hx
   obtain ⟨a,a',e,hik,hiv⟩:=hit
   injection e with e1 e
   injection e with e2 _
   subst e1 e2
   have HK0:=hide k0
   have HK1:=hide k1
   have HIK:=hide hik.all
   have HIV:=hide hiv.all
   clear hkl hvl hik hiv k0 k1
   have hjm:j + 1 ≤ 9223372036854775807:=by omega
   obtain ⟨xs,hxo,hxl⟩:=HG.out.row
   have hll:(put.take j).length = j:=by rw [List.length_take]; omega
   rw [hll] at hxo
   have HXO:=hide hxo
   have HXL:=hide hxl
   have HLL:=hide hll
   clear hxo hxl hll
   have hjc:j < c1:=by omega
   go_upto_region 5 with fail
   refine wp_region_dagO (by kernel_rfl) (by kernel_rfl) 30 1
    [⟨some 11,[0,1],[],[],[],[],fun _ _ v _=>v = .slice A j c⟩,
     ⟨some 12,[0],[],[],[],[],fun st a v w'=>st = 0 → ∃ g,v = .slice (some ⟨g,0,none⟩) 0 0⟩,
     ⟨some 13,[0,1],[],[],[],[],fun _ _ v _=>v = .slice (some ⟨b,o,none⟩) n1 c1⟩,
     ⟨some 14,[0,1],[],[],[],[],fun _ _ v _=>v = .int .i64 (j:Int)⟩,
     ⟨some 15,[0,1],[],[],[2,3],[],fun _ _ v _=>v = .pointer (some ⟨b,o + j * 2,none⟩)⟩,
     ⟨some 16,[0,1],[],[],[4],[],fun _ _ v _=>v = .pointer (some ⟨b,o + j * 2,none⟩)⟩,
     ⟨some 17,[0],[],[],[5],[],fun _ _ v _=>v = .slice A0 kl c0⟩,
     ⟨some 18,[0],[],[],[1,6],[],fun st a v w'=>st = 0 → BS w' (fun j=>wr.heap.size ≤ j ∧ j < w'.heap.size) v y.k⟩,
     ⟨some 19,[0],[],[],[],[],fun st a v w'=>st = 0 → ∃ g,v = .slice (some ⟨g,0,none⟩) 0 0⟩,
     ⟨some 20,[0,1],[],[],[],[],fun _ _ v _=>v = .slice (some ⟨b,o,none⟩) n1 c1⟩,
     ⟨some 21,[0,1],[],[],[],[],fun _ _ v _=>v = .int .i64 (j:Int)⟩,
     ⟨some 22,[0,1],[],[],[9,10],[],fun _ _ v _=>v = .pointer (some ⟨b,o + j * 2,none⟩)⟩,
     ⟨some 23,[0,1],[],[],[11],[],fun _ _ v _=>v = .pointer (some ⟨b,o + j * 2 + 1,none⟩)⟩,
     ⟨some 24,[0],[],[],[12],[],fun _ _ v _=>v = .slice B0 vl0 d0⟩,
     ⟨some 25,[0],[],[],[8,13],[],fun st a v w'=>st = 0 → BS w' (fun j=>wr.heap.size ≤ j ∧ j < w'.heap.size) v y.v⟩,
     ⟨some 26,[0],[],[],[7,14],[],fun st a v w'=>st = 0 → ∃ vk vv,v = .agg #[vk,vv] ∧ ItR w' (fun j=>wr.heap.size ≤ j ∧ j < w'.heap.size) y [vk,vv]⟩,
     ⟨some 27,[0],[],[],[15],[],fun st a v w'=>st = 0 → ∃ g vk vv,v = .slice (some ⟨g,0,none⟩) 1 1 ∧ Blk w' g TIt #[vk,vv] ∧ ItR w' (fun j=>wr.heap.size ≤ j ∧ j < w'.heap.size) y [vk,vv]⟩,
     ⟨some 28,[0],[(0,1)],[1],[0,16],[],fun st a v w'=>1 ≤ st ∧ (∃ B d,v = .slice B (j + 1) d) ∧ GrN ItR TIt 2 (fun _=>False) w w' v (put.take j ++ [y])⟩,
     ⟨some 3,[1],[],[],[17],[],fun st a v w'=>1 ≤ st ∧ (∃ B d,v = .slice B (j + 1) d) ∧ GrN ItR TIt 2 (fun _=>False) w w' v (put.take j ++ [y])⟩] (G5 w wr) (fun s s' _ _ _=>s = 0 ∧ s' = 1) (fun _ w w'=>Below w.heap.size w w') ?gu ?ru ?put [11,12,13,14,15,16,17,18,19,20,21,22,23,24,25,26,27,28,3] rfl (by kernel_rfl) rfl ?g0 ?keep ?steps ?fin
   case ru=>
    intro e he s a v w w' hu hv
    simp only [List.mem_cons,List.not_mem_nil,or_false] at he
    rcases he with rfl | rfl | rfl | rfl | rfl | rfl | rfl | rfl | rfl | rfl | rfl | rfl | rfl | rfl | rfl | rfl | rfl | rfl | rfl
    all_goals first | exact hv | (intro h0; exact hv h0) | (intro h0; exact (hv h0).fresh2 hu) | (intro h0; obtain ⟨a1,a2,e,h⟩:=hv h0; exact ⟨a1,a2,e,ItR.keep (fun j hj _=>hu.block j hj.2) (fun j hj _=>⟨hj.1,by have:=hu.size; omega⟩) _ _ h⟩) | (intro h0; obtain ⟨g,a1,a2,e,hb,h⟩:=hv h0; exact ⟨g,a1,a2,e,hb.below hu hb.lt,ItR.keep (fun j hj _=>hu.block j hj.2) (fun j hj _=>⟨hj.1,by have:=hu.size; omega⟩) _ _ h⟩) | (obtain ⟨h0,h1,h2⟩:=hv; exact ⟨h0,h1,h2.below @ItR.keep hu⟩)
   case put=>
    intro e he s a d u v w hnd hv
    simp only [List.mem_cons,List.not_mem_nil,or_false] at he
    rcases he with rfl | rfl | rfl | rfl | rfl | rfl | rfl | rfl | rfl | rfl | rfl | rfl | rfl | rfl | rfl | rfl | rfl | rfl | rfl
    all_goals first | exact hv
   case keep=>
    intro e he s s' a v w w' hsl hm ht hv
    simp only [List.mem_cons,List.not_mem_nil,or_false] at he
    rcases he with rfl | rfl | rfl | rfl | rfl | rfl | rfl | rfl | rfl | rfl | rfl | rfl | rfl | rfl | rfl | rfl | rfl | rfl | rfl
    all_goals first | exact hv | (intro h3; exfalso; have:=ht.2; omega) | (exfalso; have:=hv.1; have:=ht.1; omega)
   case steps=>
    refine ⟨?_,?_,?_,?_,?_,?_,?_,?_,?_,?_,?_,?_,?_,?_,?_,?_,?_,?_,?_,trivial⟩
    ·intro st hst ac w3 hg hG hd ho K hK
     dsimp only at hst hG hK
     exact op_move _ rfl (hK _ _ (Below.refl _ _) (ho 18 _ rfl (by decide) (by kernel_rfl) 3 rfl))
    ·intro st hst ac w3 hg hG hd ho K hK
     dsimp only at hst hG hK
     clear hG
     go_simp
     exact hK _ _ (al_below w3 _) (fun _=>⟨_,rfl⟩)
    ·intro st hst ac w3 hg hG hd ho K hK
     dsimp only at hst hG hK
     exact op_move _ rfl (hK _ _ (Below.refl _ _) (hg.kp 0 (by simp)))
    ·intro st hst ac w3 hg hG hd ho K hK
     dsimp only at hst hG hK
     exact op_move _ rfl (hK _ _ (Below.refl _ _) (hg.kp 4 (by simp)))
    ·intro st hst ac w3 hg hG hd ho K hK
     dsimp only at hst hG hK
     have f2:=hd 2 (by simp) _ rfl _ rfl
     have f3:=hd 3 (by simp) _ rfl _ rfl
     (try simp [Act.eval] at f2)
     (try simp [Act.eval] at f3)
     go_simp
     exact hK _ _ (Below.refl _ _) rfl
    ·intro st hst ac w3 hg hG hd ho K hK
     dsimp only at hst hG hK
     have f4:=hd 4 (by simp) _ rfl _ rfl
     (try simp [Act.eval] at f4)
     go_simp
     exact hK _ _ (Below.refl _ _) rfl
    ·intro st hst ac w3 hg hG hd ho K hK
     dsimp only at hst hG hK
     simp only [List.mem_cons,List.not_mem_nil,or_false] at hst
     subst hst
     have kk:=((HG.out.bel.trans ((hG.2 rfl).mono HG.out.bel.size)).cell (p:=⟨b,o + j * 2,none⟩) hb).trans HK0.out
     have zz:=Nat.lt_of_lt_of_le hb hG.1.size
     clear hG
     have f5:=hd 5 (by simp) _ rfl _ rfl
     (try simp [Act.eval] at f5)
     go_simp
     exact hK _ _ (Below.refl _ _) rfl
    ·intro st hst ac w3 hg hG hd ho K hK
     dsimp only at hst hG hK
     simp only [List.mem_cons,List.not_mem_nil,or_false] at hst
     subst hst
     obtain ⟨g,f1⟩:=hd 1 (by simp) _ rfl _ rfl rfl
     have f6:=hd 6 (by simp) _ rfl _ rfl
     have hk:=HIK.out.later (HG.out.bel.trans ((hG.2 rfl).mono HG.out.bel.size))
     obtain ⟨A9,c9,e9,_,hr9⟩:=hk
     injection e9 with e9 e10 e11
     subst e9 e11
     refine wp_append_lit w3 (.tmp 12) (.tmp 17) 38 rfl T8 i1 _ 1 1 Try.underlying38 HI1.out HY0.out hy1 hy2 rfl (by omega) ⟨g,0,none⟩ f1 A0 kl c0 (cs8 y.k) f6 (HKL.out ▸ hr9.reads (fun _ h=>h)) (cs8_one _) (by unfold maxLen; omega) (by omega) ?_
     intro v' w' ho hbw
     exact hK _ _ hbw (fun _=>(BS.lit (g:=⟨g,0,none⟩) (HKL.out.symm ▸ ho)).fresh (hG.2 rfl).size)
    ·intro st hst ac w3 hg hG hd ho K hK
     dsimp only at hst hG hK
     clear hG
     go_simp
     exact hK _ _ (al_below w3 _) (fun _=>⟨_,rfl⟩)
    ·intro st hst ac w3 hg hG hd ho K hK
     dsimp only at hst hG hK
     exact op_move _ rfl (hK _ _ (Below.refl _ _) (hg.kp 0 (by simp)))
    ·intro st hst ac w3 hg hG hd ho K hK
     dsimp only at hst hG hK
     exact op_move _ rfl (hK _ _ (Below.refl _ _) (hg.kp 4 (by simp)))
    ·intro st hst ac w3 hg hG hd ho K hK
     dsimp only at hst hG hK
     have f9:=hd 9 (by simp) _ rfl _ rfl
     have f10:=hd 10 (by simp) _ rfl _ rfl
     (try simp [Act.eval] at f9)
     (try simp [Act.eval] at f10)
     go_simp
     exact hK _ _ (Below.refl _ _) rfl
    ·intro st hst ac w3 hg hG hd ho K hK
     dsimp only at hst hG hK
     have f11:=hd 11 (by simp) _ rfl _ rfl
     (try simp [Act.eval] at f11)
     go_simp
     exact hK _ _ (Below.refl _ _) rfl
    ·intro st hst ac w3 hg hG hd ho K hK
     dsimp only at hst hG hK
     simp only [List.mem_cons,List.not_mem_nil,or_false] at hst
     subst hst
     have kk:=((HG.out.bel.trans ((hG.2 rfl).mono HG.out.bel.size)).cell (p:=⟨b,o + j * 2 + 1,none⟩) hb).trans HK1.out
     have zz:=Nat.lt_of_lt_of_le hb hG.1.size
     clear hG
     have f12:=hd 12 (by simp) _ rfl _ rfl
     (try simp [Act.eval] at f12)
     go_simp
     exact hK _ _ (Below.refl _ _) rfl
    ·intro st hst ac w3 hg hG hd ho K hK
     dsimp only at hst hG hK
     simp only [List.mem_cons,List.not_mem_nil,or_false] at hst
     subst hst
     obtain ⟨g,f8⟩:=hd 8 (by simp) _ rfl _ rfl rfl
     have f13:=hd 13 (by simp) _ rfl _ rfl
     have hk:=HIV.out.later (HG.out.bel.trans ((hG.2 rfl).mono HG.out.bel.size))
     obtain ⟨A9,c9,e9,_,hr9⟩:=hk
     injection e9 with e9 e10 e11
     subst e9 e11
     refine wp_append_lit w3 (.tmp 19) (.tmp 24) 38 rfl T8 i1 _ 1 1 Try.underlying38 HI1.out HY0.out hy1 hy2 rfl (by omega) ⟨g,0,none⟩ f8 B0 vl0 d0 (cs8 y.v) f13 (HVL.out ▸ hr9.reads (fun _ h=>h)) (cs8_one _) (by unfold maxLen; omega) (by omega) ?_
     intro v' w' ho hbw
     exact hK _ _ hbw (fun _=>(BS.lit (g:=⟨g,0,none⟩) (HVL.out.symm ▸ ho)).fresh (hG.2 rfl).size)
    ·intro st hst ac w3 hg hG hd ho K hK
     dsimp only at hst hG hK
     simp only [List.mem_cons,List.not_mem_nil,or_false] at hst
     subst hst
     have g3:=hd 7 (by simp) _ rfl _ rfl rfl
     have g6:=hd 14 (by simp) _ rfl _ rfl rfl
     obtain ⟨v3,hv3⟩:∃ v3,ac.eval (.tmp 18) = v3:=⟨_,rfl⟩
     obtain ⟨v6,hv6⟩:∃ v6,ac.eval (.tmp 25) = v6:=⟨_,rfl⟩
     rw [hv3] at g3
     rw [hv6] at g6
     have HCH:=hide (show ItR w3 (fun j=>wr.heap.size ≤ j ∧ j < w3.heap.size) y [v3,v6] from ⟨v3,v6,rfl,g3,g6⟩)
     obtain ⟨A3,c3,rfl,_⟩:=g3
     obtain ⟨A6,c6,rfl,_⟩:=g6
     clear hG
     simp [Act.eval] at hv3 hv6
     go_simp
     exact hK _ _ (Below.refl _ _) (fun _=>⟨_,_,rfl,HCH.out⟩)
    ·intro st hst ac w3 hg hG hd ho K hK
     dsimp only at hst hG hK
     simp only [List.mem_cons,List.not_mem_nil,or_false] at hst
     subst hst
     obtain ⟨vk,vv,f8,hch⟩:=hd 15 (by simp) _ rfl _ rfl rfl
     have hch':=hch
     obtain ⟨_,_,e,⟨A3,c3,e1,_⟩,⟨A6,c6,e2,_⟩⟩:=hch'
     (injection e with e3 e; injection e with e4 _)
     subst e3 e4 e1 e2
     simp [Act.eval] at f8
     have HCH:=hide hch
     clear hG hch
     go_simp
     exact hK _ _ (al_below w3 _) (fun _=>⟨_,_,_,rfl,Blk.new _ _ _,ItR.keep (fun j hj _=>(al_below w3 _).block j hj.2) (fun j hj _=>⟨hj.1,by simp; omega⟩) _ _ HCH.out⟩)
    ·intro st st' hmv ac w3 hg hG hd ho K hK
     simp only [List.mem_cons,Prod.mk.injEq,List.not_mem_nil,or_false] at hmv
     obtain ⟨rfl,rfl⟩:=hmv
     dsimp only at hG hK
     have f0:=hd 0 (by simp) _ rfl _ rfl
     obtain ⟨gl,vk,vv,f9,hbl,hch⟩:=hd 16 (by simp) _ rfl _ rfl rfl
     refine wp_append_any w3 (.tmp 11) (.tmp 27) 32 rfl w.heap.size TIt i0 _ 2 48 Try.underlying32 HI0.out HZ0.out hz1 hz2 rfl (by omega) (.slice A j c) j xs f0 (own_later HXO.out (hG.2 rfl)) w3.heap.size (some ⟨gl,0,none⟩) 1 1 [vk,vv] f9 (reads_blk hbl rfl rfl) (by obtain ⟨_,_,e,⟨_,_,ea,_⟩,⟨_,_,eb,_⟩⟩:=hch; injection e with e1 e; injection e with e2 _; intro u hu; simp at hu; rcases hu with rfl | rfl; (rw [e1,ea]; rfl); (rw [e2,eb]; rfl)) (by unfold maxLen; omega) (by omega) hG.1.size ?_
     intro v' w' ho hgb hoo
     exact hK _ _ ⟨rfl,rfl⟩ ⟨hG.1.grown hgb hG.1.size (fun k hk=>(HXO.out.lt k hk).1),fun e=>by omega⟩ ⟨Nat.le_refl _,by obtain ⟨B,d,e,_⟩:=own_slice ho; exact ⟨B,d,e⟩,GrN.push @ItR.keep (fun j hj=>hj.elim) HG.out (hG.2 rfl) ⟨by rw [HLL.out]; exact HXO.out,HXL.out⟩ (ItR.keep (fun _ _ _=>rfl) (fun j hj _=>⟨.inr hj.1,hj.2⟩) _ _ hch) (by rw [HLL.out]; exact ho) hgb hoo⟩
    ·intro st hst ac w3 hg hG hd ho K hK
     dsimp only at hst hG hK
     exact op_assign _ rfl (hK _ _ (Below.refl _ _) (hd 17 (by simp) _ rfl _ rfl))
   case gu=>intro s w1 w2 hG hu; exact ⟨hG.1.trans (hu.mono hG.1.size),fun e=>(hG.2 e).trans (hu.mono (hG.2 e).size)⟩
   case g0=>exact ⟨HG.out.bel.drew,fun _=>(Below.refl _ _).drew⟩
   case fin=>
    intro f9 w9 hG hall
    obtain ⟨_,⟨B9,d9,h9⟩,hch⟩:=hall _ (List.mem_of_getElem? (i:=18) rfl) 3 rfl
    clear hall hG
    simp only [fillF,List.map_cons,List.map_nil,List.foldl_cons,List.foldl_nil,Act.put,List.setIfInBounds_toArray,List.set_cons_zero,List.set_cons_succ]
    rw [h9] at hch ⊢
    have HCH:=hide hch
    clear hch h9
    go_wp2_with fail
    refine ⟨⟨j + 1,d9,B9,rfl,by push_cast; rfl,by omega,hide (by rw [HTK.out]; exact HCH.out)⟩,?_⟩
    simp [intOf]
    omega
  ·obtain rfl:n1 = j:=by omega
   have HG1:=hide (show GrN ItR TIt 2 (fun _=>False) w wr (.slice A n1 c) put from by have:=HG.out; rwa [← HN1.out,List.take_length,HN1.out] at this)
   go_wp2_with fail
   go_ret
   exact ⟨_,rfl,HG1.out.slk @ItR.keep (by decide) (fun j hj hlt=>⟨hj.elim (fun h=>h.elim) id,hlt⟩),HG1.out.bel⟩
end Go.Proofs.Ytkolacaceaamoaa
