/- The tree's items and kids: plain, and in memory. -/
import Derived.Test.YtkolacaceaamoaaKM8
/- The tree's items and kids: plain, and in memory. -/
set_option linter.unusedSimpArgs false
set_option linter.unusedVariables false
namespace Go.Proofs.Ytkolacaceaamoaa
open Go.RowKit
abbrev TIt:TypeId:=44
abbrev TKd:TypeId:=74
abbrev TNd:TypeId:=77
structure It where
 k:Cn
 v:Cn
structure Kd where
 k:Cn
 p:Nat
/-- What can be read, in blocks of a kind. -/
def RF (w:World) (F:Nat → Prop) (k:Nat) (A:Option Addr) (n:Nat) (xs:List Value):Prop:=
 xs.length = n * k ∧ (0 < n → ∃ ad,A = some ad ∧ F ad.block ∧ ∀ j u,xs[j]? = some u → w.cell? (ad.add j) = some u)
theorem heap_cell {w w':World} {p:Addr} (h:w'.heap[p.block]? = w.heap[p.block]?):w'.cell? p = w.cell? p:=by unfold World.cell?; rw [h]
theorem cell_in {w:World} {p:Addr} {v:Value} (h:w.cell? p = some v):p.block < w.heap.size:=by
 rcases Nat.lt_or_ge p.block w.heap.size with q | q
 ·exact q
 ·unfold World.cell? at h
  rw [Array.getElem?_eq_none q] at h
  cases h
theorem RF.keep {w w':World} {F F':Nat → Prop} {k:Nat} {A:Option Addr} {n:Nat} {xs:List Value} (h:RF w F k A n xs) (hk:∀ j,F j → j < w.heap.size → w'.heap[j]? = w.heap[j]?) (hF:∀ j,F j → j < w.heap.size → F' j) (h0:0 < k):RF w' F' k A n xs:=by
 refine ⟨h.1,fun hn=>?_⟩
 obtain ⟨ad,e,hb,hc⟩:=h.2 hn
 have hlt:ad.block < w.heap.size:=by
  have:0 < xs.length:=by rw [h.1]; exact Nat.mul_pos hn h0
  have:=cell_in (hc 0 _ (List.getElem?_eq_getElem this))
  rwa [block_of_add] at this
 exact ⟨ad,e,hF _ hb hlt,fun j u hu=>(heap_cell (by rw [block_of_add]; exact hk _ hb hlt)).trans (hc j u hu)⟩
theorem RF.nil {w:World} {F:Nat → Prop} {k:Nat} (A:Option Addr):RF w F k A 0 []:=⟨by simp,fun h=>absurd h (by omega)⟩
theorem RF.reads {w:World} {B:Nat} {F:Nat → Prop} {k n:Nat} {A:Option Addr} {xs:List Value} (h:RF w F k A n xs) (hB:∀ j,F j → j < B):Reads w B k A n xs:=⟨h.1,fun hn=>by
 obtain ⟨ad,e,hb,hc⟩:=h.2 hn
 exact ⟨ad,e,hB _ hb,hc⟩⟩
theorem RF.rb {w:World} {F:Nat → Prop} {n:Nat} {A:Option Addr} {l:Cn} (h:RF w F 1 A n (cs8 l)):RB w w.heap.size A n l:=
 (h.keep (F':=fun j=>j < w.heap.size) (fun _ _ _=>rfl) (fun j _ hj=>hj) (by omega)).reads (fun _ h=>h)
/-- Bytes in memory. -/
def BS (w:World) (F:Nat → Prop) (v:Value) (l:Cn):Prop:=∃ A c,v = .slice A l.length c ∧ (l.length ≤ c ∧ c ≤ maxLen) ∧ RF w F 1 A l.length (cs8 l)
def ItR (w:World) (F:Nat → Prop) (x:It) (cs:List Value):Prop:=∃ a b,cs = [a,b] ∧ BS w F a x.k ∧ BS w F b x.v
def KdR (w:World) (F:Nat → Prop) (x:Kd) (cs:List Value):Prop:=∃ a,cs = [a,.int .i64 (x.p:Int)] ∧ BS w F a x.k
/-- A row of such. -/
def LR {α:Type} (R:α → List Value → Prop):List α → List Value → Prop
 | [],xs=>xs = []
 | a :: l,xs=>∃ cs rest,xs = cs ++ rest ∧ R a cs ∧ LR R l rest
theorem LR.mono {α:Type} {R R':α → List Value → Prop} (hR:∀ a cs,R a cs → R' a cs):∀ (l:List α) (xs:List Value),LR R l xs → LR R' l xs
 | [],_,h=>h
 | a :: l,xs,⟨cs,rest,e,h1,h2⟩=>⟨cs,rest,e,hR a cs h1,LR.mono hR l rest h2⟩
theorem LR.app {α:Type} {R:α → List Value → Prop} {m:List α} {ys:List Value} (hm:LR R m ys):∀ (l:List α) (xs:List Value),LR R l xs → LR R (l ++ m) (xs ++ ys)
 | [],xs,h=>by
  have:xs = []:=h
  subst this
  exact hm
 | a :: l,xs,⟨cs,rest,e,h1,h2⟩=>⟨cs,rest ++ ys,by rw [e,List.append_assoc],h1,LR.app hm l rest h2⟩
theorem LR.one {α:Type} {R:α → List Value → Prop} {a:α} {cs:List Value} (h:R a cs):LR R [a] cs:=⟨cs,[],by simp,h,rfl⟩
theorem LR.at_ {α:Type} {R:α → List Value → Prop} {k:Nat} (hk:∀ a cs,R a cs → cs.length = k):∀ (l:List α) (xs:List Value),LR R l xs → ∀ (i:Nat) (h:i < l.length),∃ cs,R l[i] cs ∧ ∀ j,j < k → xs[i * k + j]? = cs[j]?
 | a :: l,xs,⟨cs,rest,e,h1,h2⟩,0,_=>⟨cs,h1,fun j hj=>by
  have:=hk a cs h1
  rw [e,Nat.zero_mul,Nat.zero_add,List.getElem?_append_left (by omega)]⟩
 | a :: l,xs,⟨cs,rest,e,h1,h2⟩,i + 1,h=>by
  have hc:=hk a cs h1
  obtain ⟨cs',g1,g2⟩:=LR.at_ hk l rest h2 i (by simpa using h)
  refine ⟨cs',by simpa using g1,fun j hj=>?_⟩
  rw [e,List.getElem?_append_right (by rw [hc,Nat.succ_mul]; omega),hc,show (i + 1) * k + j - k = i * k + j by rw [Nat.succ_mul]; omega]
  exact g2 j hj
theorem LR.len {α:Type} {R:α → List Value → Prop} {k:Nat} (hk:∀ a cs,R a cs → cs.length = k):∀ (l:List α) (xs:List Value),LR R l xs → xs.length = l.length * k
 | [],xs,h=>by
  have:xs = []:=h
  rw [this]
  simp
 | a :: l,xs,⟨cs,rest,e,h1,h2⟩=>by
  rw [e,List.length_append,hk a cs h1,LR.len hk l rest h2,List.length_cons,Nat.succ_mul,Nat.add_comm]
/-- Part of a row. -/
theorem LR.drop {α:Type} {R:α → List Value → Prop} {k:Nat} (hk:∀ a cs,R a cs → cs.length = k):∀ (i:Nat) (l:List α) (xs:List Value),LR R l xs → LR R (l.drop i) (xs.drop (i * k))
 | 0,l,xs,h=>by simpa using h
 | i + 1,[],xs,h=>by
  have:xs = []:=h
  subst this
  show LR R [] _
  simp [LR]
 | i + 1,a :: l,xs,⟨cs,rest,e,h1,h2⟩=>by
  have hc:=hk a cs h1
  rw [List.drop_succ_cons,e,show (i + 1) * k = cs.length + i * k by rw [Nat.succ_mul,hc,Nat.add_comm],← List.drop_drop,List.drop_left]
  exact LR.drop hk i l rest h2
theorem LR.take {α:Type} {R:α → List Value → Prop} {k:Nat} (hk:∀ a cs,R a cs → cs.length = k):∀ (i:Nat) (l:List α) (xs:List Value),LR R l xs → LR R (l.take i) (xs.take (i * k))
 | 0,l,xs,h=>by
  rw [Nat.zero_mul,List.take_zero,List.take_zero]
  rfl
 | i + 1,[],xs,h=>by
  have:xs = []:=h
  subst this
  simp [LR]
 | i + 1,a :: l,xs,⟨cs,rest,e,h1,h2⟩=>by
  have hc:=hk a cs h1
  rw [List.take_succ_cons,e,show (i + 1) * k = cs.length + i * k by rw [Nat.succ_mul,hc,Nat.add_comm],List.take_length_add_append]
  exact ⟨cs,_,rfl,h1,LR.take hk i l rest h2⟩
theorem BS.keep {w w':World} {F F':Nat → Prop} {v:Value} {l:Cn} (hk:∀ j,F j → j < w.heap.size → w'.heap[j]? = w.heap[j]?) (hF:∀ j,F j → j < w.heap.size → F' j) (h:BS w F v l):BS w' F' v l:=by
 obtain ⟨A,c,e,hc,hr⟩:=h
 exact ⟨A,c,e,hc,hr.keep hk hF (by omega)⟩
theorem ItR.keep {w w':World} {F F':Nat → Prop} (hk:∀ j,F j → j < w.heap.size → w'.heap[j]? = w.heap[j]?) (hF:∀ j,F j → j < w.heap.size → F' j) (x:It) (cs:List Value) (h:ItR w F x cs):ItR w' F' x cs:=by
 obtain ⟨a,b,e,h1,h2⟩:=h
 exact ⟨a,b,e,h1.keep hk hF,h2.keep hk hF⟩
theorem KdR.keep {w w':World} {F F':Nat → Prop} (hk:∀ j,F j → j < w.heap.size → w'.heap[j]? = w.heap[j]?) (hF:∀ j,F j → j < w.heap.size → F' j) (x:Kd) (cs:List Value) (h:KdR w F x cs):KdR w' F' x cs:=by
 obtain ⟨a,e,h1⟩:=h
 exact ⟨a,e,h1.keep hk hF⟩
theorem ItR.two {w:World} {F:Nat → Prop} (x:It) (cs:List Value) (h:ItR w F x cs):cs.length = 2:=by
 obtain ⟨a,b,e,_,_⟩:=h
 rw [e]
 rfl
theorem KdR.two {w:World} {F:Nat → Prop} (x:Kd) (cs:List Value) (h:KdR w F x cs):cs.length = 2:=by
 obtain ⟨a,e,_⟩:=h
 rw [e]
 rfl
/-- A slice of two-celled things. -/
def SL {α:Type} (R:World → (Nat → Prop) → α → List Value → Prop) (w:World) (F:Nat → Prop) (v:Value) (l:List α):Prop:=
 ∃ A c xs,v = .slice A l.length c ∧ (l.length ≤ c ∧ c ≤ maxLen) ∧ RF w F 2 A l.length xs ∧ LR (R w F) l xs
def Kept {α:Type} (R:World → (Nat → Prop) → α → List Value → Prop):Prop:=∀ {w w':World} {F F':Nat → Prop} (hk:∀ j,F j → j < w.heap.size → w'.heap[j]? = w.heap[j]?) (hF:∀ j,F j → j < w.heap.size → F' j) (x:α) (cs:List Value),R w F x cs → R w' F' x cs
theorem SL.keep {α:Type} {R:World → (Nat → Prop) → α → List Value → Prop} (hR:Kept R) {w w':World} {F F':Nat → Prop} {v:Value} {l:List α} (hk:∀ j,F j → j < w.heap.size → w'.heap[j]? = w.heap[j]?) (hF:∀ j,F j → j < w.heap.size → F' j) (h:SL R w F v l):SL R w' F' v l:=by
 obtain ⟨A,c,xs,e,hc,hr,hl⟩:=h
 exact ⟨A,c,xs,e,hc,hr.keep hk hF (by omega),LR.mono (fun a cs=>hR hk hF a cs) _ _ hl⟩
theorem SL.nil {α:Type} {R:World → (Nat → Prop) → α → List Value → Prop} (w:World) (F:Nat → Prop):SL R w F (.slice none 0 0) []:=⟨none,0,[],rfl,⟨Nat.le_refl _,Nat.zero_le _⟩,RF.nil _,rfl⟩
/-- A node in memory. -/
def NdR (w:World) (F:Nat → Prop) (g:Nat) (is:List It) (ks:List Kd):Prop:=∃ vi vk,Blk w g TNd #[vi,vk] ∧ F g ∧ SL ItR w F vi is ∧ SL KdR w F vk ks
theorem NdR.keep {w w':World} {F F':Nat → Prop} {g:Nat} {is:List It} {ks:List Kd} (hk:∀ j,F j → j < w.heap.size → w'.heap[j]? = w.heap[j]?) (hF:∀ j,F j → j < w.heap.size → F' j) (h:NdR w F g is ks):NdR w' F' g is ks:=by
 obtain ⟨vi,vk,hb,hg,h1,h2⟩:=h
 exact ⟨vi,vk,(hk g hg hb.lt).trans hb,hF g hg hb.lt,h1.keep @ItR.keep hk hF,h2.keep @KdR.keep hk hF⟩
/-- An item, a kid, a node as bytes. -/
def itB (x:It):Cn:=UInt8.ofNat x.k.length :: (x.k ++ UInt8.ofNat x.v.length :: x.v)
def kdB (x:Kd):Cn:=UInt8.ofNat x.k.length :: (x.k ++ beN x.p 4 4)
def ndB (is:List It) (ks:List Kd):Cn:=(if ks = [] then 0 else 1) :: (is.flatMap itB ++ ks.flatMap kdB)
/-- Sizes that a page can tell. -/
def itOk (x:It):Prop:=1 ≤ x.k.length ∧ x.k.length ≤ 32 ∧ x.v.length ≤ 128
def kdOk (x:Kd):Prop:=1 ≤ x.k.length ∧ x.k.length ≤ 32 ∧ 1 ≤ x.p ∧ x.p < 65536
def szI (x:It):Nat:=2 + x.k.length + x.v.length
def szK (x:Kd):Nat:=5 + x.k.length
theorem itB_len (x:It):(itB x).length = szI x:=by unfold itB szI; simp; omega
theorem kdB_len (x:Kd):(kdB x).length = szK x:=by unfold kdB szK; simp [beN_len]; omega
def sumI (l:List It):Nat:=(l.map szI).sum
def sumK (l:List Kd):Nat:=(l.map szK).sum
theorem flatI_len:∀ l:List It,(l.flatMap itB).length = sumI l
 | []=>rfl
 | x :: l=>by
  rw [List.flatMap_cons,List.length_append,itB_len,flatI_len l]
  simp [sumI]
theorem flatK_len:∀ l:List Kd,(l.flatMap kdB).length = sumK l
 | []=>rfl
 | x :: l=>by
  rw [List.flatMap_cons,List.length_append,kdB_len,flatK_len l]
  simp [sumK]
theorem ndB_len (is:List It) (ks:List Kd):(ndB is ks).length = 1 + sumI is + sumK ks:=by
 unfold ndB
 rw [List.length_cons,List.length_append,flatI_len,flatK_len]
 omega
end Go.Proofs.Ytkolacaceaamoaa
/- The tree: part. -/
namespace Go.Proofs.Ytkolacaceaamoaa
open Go.RowKit
theorem RB.sub' {w:World} {B:Nat} {ad:Addr} {n:Nat} {l:Cn} (h:RB w B (some ad) n l) {i k:Nat} (hk:i + k ≤ n) (h0:i < n):RB w B (some (ad.add i)) k ((l.drop i).take k):=by
 obtain ⟨ad',e,hb,hcell⟩:=h.2 (by omega)
 injection e with e
 subst e
 have hl:=RB.len h
 refine ⟨by rw [cs8_len,List.length_take,List.length_drop]; omega,fun _=>⟨_,rfl,by rw [block_of_add]; exact hb,fun j u hu=>?_⟩⟩
 rw [add_of_add]
 refine hcell _ u ?_
 rw [cs8_get] at hu ⊢
 rw [List.getElem?_take] at hu
 split at hu
 ·rw [List.getElem?_drop] at hu; exact hu
 ·cases hu
theorem len_of {k:Cn} (h:k.length < 256):evN [UInt8.ofNat k.length] = k.length:=by
 unfold evN evS
 simp
 omega
set_option maxRecDepth 100000 in
set_option maxHeartbeats 1000000 in
theorem part_ok {w:World} {gb n cap at_:Nat} {l k rest:Cn} (hr:RB w w.heap.size (some ⟨gb,0,none⟩) n l) (hcap:n ≤ cap) (hn:n ≤ 60000) (hat:l.drop at_ = UInt8.ofNat k.length :: (k ++ rest)) (hk:k.length < 256) :
  Calls Try.prog 44 #[.slice (some ⟨gb,0,none⟩) n cap,.int .i64 (at_:Int)] w fun e w'=>
   ∃ v,e = .returned (.tuple #[v,.int .i64 ((at_ + 1 + k.length:Nat):Int),.bool true]) ∧ w'.ownsRow w.heap.size T8 1 v k.length (cs8 k) ∧ Below w.heap.size w w':=by
 have hl:=RB.len hr
 have hlen:at_ + 1 + k.length ≤ n:=by
  have:=congrArg List.length hat
  rw [List.length_drop] at this
  simp at this
  omega
 have HR:=hide hr
 obtain ⟨m,hm⟩:∃ m,k.length = m:=⟨_,rfl⟩
 have HN1:=hide (show evN ((l.drop at_).take 1) = m from by rw [hat]; exact (len_of hk).trans hm)
 have HSUB:=hide (show (l.drop (at_ + 1)).take m = k from by
  rw [← List.drop_drop,hat,← hm]
  simp)
 rw [hm] at hlen hk ⊢
 have d1:decide ((n:Int) - (at_:Int) - 1 < (m:Int)) = false:=by simp; omega
 have HM:=hide hm
 clear hr hat hl hm
 go_enter Try.func44,Try.ntmps44
 go_upto_region 2 with (go_at_call 45; (refine (num_any (some ⟨gb,0,none⟩) n cap l at_ 1 w HR.out hcap hn (by omega) (by omega)).mono ?_); (rw [HN1.out]); rintro e w1 ⟨rfl,hb⟩; have HB1:=hide hb; clear hb)
 have c1:at_ + 1 ≤ cap:=by omega
 have c0:at_ + 1 ≤ at_ + 1 + m:=by omega
 have c2:at_ + 1 + m ≤ cap:=by omega
 by_cases hend:cap = at_ + 1
 ·have hm0:m = 0:=by omega
  subst hm0
  subst hend
  have hk0:k = []:=List.eq_nil_of_length_eq_zero HM.out
  subst hk0
  go_wp2_with (go_at_call 48; (refine (clone_all (some ⟨gb,0,none⟩) 0 0 [] w1 ⟨rfl,fun h=>absurd h (by omega)⟩ (by omega)).mono ?_); rintro e w2 ⟨v,rfl,ho,hb⟩; have HO2:=hide ho; have HB2:=hide hb; clear ho hb)
  refine bodyPost_ret (v:=.tuple #[v,.int .i64 ((at_:Int) + 1),.bool true]) (by simp (maxDischargeDepth:=9) [results,Try.results44,go_sem]; done) rfl ⟨v,by simp,own_down HO2.out HB1.out.size,HB1.out.trans (HB2.out.mono HB1.out.size)⟩
 ·have c3:at_ + 1 < cap:=by omega
  have c4:¬ cap = at_ + 1:=hend
  have HRB:=hide (show RB w1 w1.heap.size (some ⟨gb,at_ + 1,none⟩) m k from by
   by_cases hm0:m = 0
   ·subst hm0
    have:k = []:=List.eq_nil_of_length_eq_zero HM.out
    subst this
    exact ⟨rfl,fun h=>absurd h (by omega)⟩
   ·have:=RB.sub' ((HR.out.below HB1.out).more HB1.out.size) (i:=at_ + 1) (k:=m) (by omega) (by omega)
    rw [HSUB.out] at this
    rwa [show (⟨gb,0,none⟩:Addr).add (at_ + 1) = ⟨gb,at_ + 1,none⟩ by simp [Addr.add]] at this)
  go_wp2_with (go_at_call 48; (refine (clone_all _ _ _ k w1 HRB.out (by omega)).mono ?_); rintro e w2 ⟨v,rfl,ho,hb⟩; have HO2:=hide ho; have HB2:=hide hb; clear ho hb)
  refine bodyPost_ret (v:=.tuple #[v,.int .i64 ((at_:Int) + 1 + (m:Int)),.bool true]) (by simp (maxDischargeDepth:=9) [results,Try.results44,go_sem]; done) rfl ⟨v,by simp,own_down HO2.out HB1.out.size,HB1.out.trans (HB2.out.mono HB1.out.size)⟩
end Go.Proofs.Ytkolacaceaamoaa
/- The tree: what read builds. -/
namespace Go.Proofs.Ytkolacaceaamoaa
open Go.RowKit
def FG (w1:World) (g:Nat) (v:Value):Nat → Prop:=fun j=>w1.heap.size ≤ j ∧ j ≠ g ∧ v.ownBlock ≠ some j
/-- A node that grows in one of its two rows. -/
structure RsG {α:Type} (R:World → (Nat → Prop) → α → List Value → Prop) (T:TypeId) (mk:Value → Array Value) (w1 wr:World) (g:Nat) (v:Value) (l:List α):Prop where
 bel:Below w1.heap.size w1 wr
 blk:Blk wr g TNd (mk v)
 ge:w1.heap.size ≤ g
 ng:v.ownBlock ≠ some g
 row:∃ xs,wr.ownsRow w1.heap.size T 2 v l.length xs ∧ LR (R wr (FG w1 g v)) l xs
section
variable {α:Type} {R:World → (Nat → Prop) → α → List Value → Prop} {T:TypeId} {mk:Value → Array Value} {w1 wr w':World} {g:Nat} {v:Value} {l:List α}
theorem RsG.below (hR:Kept R) (h:RsG R T mk w1 wr g v l) (hb:Below wr.heap.size wr w'):RsG R T mk w1 w' g v l:=by
 obtain ⟨xs,h1,h2⟩:=h.row
 exact ⟨h.bel.trans (hb.mono h.bel.size),h.blk.below hb h.blk.lt,h.ge,h.ng,xs,own_later h1 hb,LR.mono (fun a cs=>hR (fun j _ hj=>hb.block j hj) (fun j h _=>h) a cs) _ _ h2⟩
/-- One thing more in the row. -/
theorem RsG.push (hR:Kept R) {w2 w3 w4:World} {v':Value} {a:α} {cs xs:List Value} (h:RsG R T mk w1 wr g v l) (hb:Below wr.heap.size wr w2) (hxs:wr.ownsRow w1.heap.size T 2 v l.length xs ∧ LR (R wr (FG w1 g v)) l xs)
  (ha:R w2 (fun j=>wr.heap.size ≤ j ∧ j < w2.heap.size) a cs) (ho:w3.ownsRow w1.heap.size T 2 v' (l.length + 1) (xs ++ cs)) (hg:w2.grownBy w3 v.ownBlock) (hoo:v'.ownBlock = v.ownBlock ∨ v'.ownBlock = some w2.heap.size)
  (h4b:Below w1.heap.size w1 w3 → Below w1.heap.size w1 w4) (h4k:∀ j,j ≠ g → w4.heap[j]? = w3.heap[j]?) (h4:Blk w3 g TNd (mk v) → Blk w4 g TNd (mk v')) :
  RsG R T mk w1 w4 g v' (l ++ [a]):=by
 have hglt:=h.blk.lt
 have hvb:∀ k,v.ownBlock = some k → k < wr.heap.size:=fun k hk=>(hxs.1.lt k hk).2
 have hg2:g < w2.heap.size:=Nat.lt_of_lt_of_le hglt hb.size
 have hng:v'.ownBlock ≠ some g:=by
  rcases hoo with e | e
  ·rw [e]; exact h.ng
  ·rw [e]; intro q; injection q with q; omega
 have hb3:Below w1.heap.size w1 w3:=(h.bel.trans (hb.mono h.bel.size)).grown hg (Nat.le_trans h.bel.size hb.size) (fun k hk=>(hxs.1.lt k hk).1)
 have k3:∀ j,j < w2.heap.size → v.ownBlock ≠ some j → w3.heap[j]? = w2.heap[j]?:=fun j hj hn=>hg.block j hj (fun e=>hn e.symm)
 refine ⟨h4b hb3,h4 ((h.blk.below hb hglt).grown hg (fun e=>h.ng e.symm)),h.ge,hng,xs ++ cs,?_,?_⟩
 ·rw [List.length_append,List.length_singleton]
  exact row_keep ho (fun j hj=>h4k j (fun e=>hng (e ▸ hj)))
 ·refine LR.app (LR.one ?_) _ _ (LR.mono (fun b cs'=>hR (fun j hj hlt=>?_) (fun j hj hlt=>?_) b cs') _ _ hxs.2)
  ·refine hR (fun j hj hlt=>?_) (fun j hj hlt=>?_) a cs ha
   ·exact (h4k j (by omega)).trans (k3 j hj.2 (fun e=>by have:=hvb j e; omega))
   ·refine ⟨by have:=h.bel.size; omega,by omega,fun e=>?_⟩
    rcases hoo with q | q
    ·have:=hvb j (q ▸ e); omega
    ·rw [q] at e; injection e with e; omega
  ·exact (h4k j hj.2.1).trans ((k3 j (Nat.lt_of_lt_of_le hlt hb.size) hj.2.2).trans (hb.block j hlt))
  ·refine ⟨hj.1,hj.2.1,fun e=>?_⟩
   rcases hoo with q | q
   ·exact hj.2.2 (q ▸ e)
   ·rw [q] at e; injection e with e; have:=hb.size; omega
theorem RsG.sl (hR:Kept R) (h:RsG R T mk w1 wr g v l):SL R wr (fun j=>w1.heap.size ≤ j) v l:=by
 obtain ⟨xs,h1,h2⟩:=h.row
 have h3:=LR.mono (fun a cs=>hR (F':=fun j=>w1.heap.size ≤ j) (fun _ _ _=>rfl) (fun j hj _=>hj.1) a cs) _ _ h2
 rcases h1.2 with ⟨e,h0⟩ | ⟨b,cap,cur,e,hb,hh,hc,hm,_⟩
 ·have hl:l = []:=List.eq_nil_of_length_eq_zero h0
  subst hl
  rw [e]
  exact SL.nil _ _
 ·refine ⟨some ⟨b,0,none⟩,cap,xs,e,⟨hc,hm⟩,⟨h1.1,fun h0=>?_⟩,h3⟩
  obtain ⟨ad,e2,_,hcell⟩:=(Reads.of_own (by rw [e] at h1; exact h1)).2 h0
  injection e2 with e2
  subst e2
  exact ⟨_,rfl,hb,hcell⟩
end
/-- Bytes that the call owns. -/
theorem BS.of_own {w:World} {B:Nat} {v:Value} {l:Cn} (h:w.ownsRow B T8 1 v l.length (cs8 l)):BS w (fun j=>B ≤ j ∧ j < w.heap.size) v l:=by
 rcases h.2 with ⟨e,h0⟩ | ⟨b,cap,cur,e,hb,hh,hc,hm,_⟩
 ·have hl:l = []:=List.eq_nil_of_length_eq_zero h0
  subst hl
  rw [e]
  exact ⟨none,0,rfl,⟨Nat.le_refl _,Nat.zero_le _⟩,RF.nil _⟩
 ·have hlt:=(h.lt b (by rw [e]; rfl)).2
  refine ⟨some ⟨b,0,none⟩,cap,e,⟨hc,hm⟩,h.1,fun h0=>?_⟩
  obtain ⟨ad,e2,_,hcell⟩:=(Reads.of_own (by rw [e] at h; exact h)).2 h0
  injection e2 with e2
  subst e2
  exact ⟨_,rfl,⟨hb,hlt⟩,hcell⟩
end Go.Proofs.Ytkolacaceaamoaa
