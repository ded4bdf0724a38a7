/- The sectors' disk in memory: which blocks it holds, what stays as it is when others turn. -/
import Derived.Test.YtkolacaceaamoaaKM2
import Derived.Test.YtkolacaceaamoaaKM1
/- The sectors' disk in memory: which blocks it holds, what stays as it is when others turn. -/
set_option linter.unusedSimpArgs false
set_option linter.unusedVariables false
namespace Go.Proofs.Ytkolacaceaamoaa
open Go.RowKit
/-- From w to w' only the blocks of F and new ones have turned. -/
structure Fr (F:Nat → Prop) (w w':World):Prop where
 os:w'.os = w.os
 tape:w'.tape = w.tape
 output:w'.output = w.output
 size:w.heap.size ≤ w'.heap.size
 block:∀ j,j < w.heap.size → ¬ F j → w'.heap[j]? = w.heap[j]?
theorem Fr.refl (F:Nat → Prop) (w:World):Fr F w w:=⟨rfl,rfl,rfl,Nat.le_refl _,fun _ _ _=>rfl⟩
theorem Fr.trans {F F':Nat → Prop} {a b c:World} (h:Fr F a b) (k:Fr F' b c) (hF:∀ j,j < a.heap.size → F' j → F j):Fr F a c:=
 ⟨k.os.trans h.os,k.tape.trans h.tape,k.output.trans h.output,Nat.le_trans h.size k.size,fun j hj hn=>(k.block j (Nat.lt_of_lt_of_le hj h.size) (fun h2=>hn (hF j hj h2))).trans (h.block j hj hn)⟩
theorem Fr.of_below {F:Nat → Prop} {w w':World} (h:Below w.heap.size w w'):Fr F w w':=⟨h.os,h.tape,h.output,h.size,fun j hj _=>h.block j hj⟩
theorem Fr.of_grown {F:Nat → Prop} {w w':World} {r:Option Nat} (h:w.grownBy w' r) (hr:∀ k,r = some k → F k):Fr F w w':=
 ⟨h.os,h.tape,h.output,h.size,fun j hj hn=>h.block j hj (fun e=>hn (hr j e.symm))⟩
theorem Fr.below {F:Nat → Prop} {w w':World} (h:Fr F w w') {B:Nat} (hB:B ≤ w.heap.size) (hF:∀ j,F j → B ≤ j):Below B w w':=
 ⟨h.os,h.tape,h.output,h.size,fun j hj=>h.block j (by omega) (fun h2=>by have:=hF j h2; omega)⟩
abbrev T8:TypeId:=5
abbrev TW:TypeId:=138
abbrev TD:TypeId:=100
/-- What is in a sector. -/
abbrev Cn:Type:=List UInt8
def u8v (x:UInt8):Value:=.int .u8 (x.toNat:Int)
def okC (c:Cn):Prop:=c.length = 512
/-- A slice of 512 places that has them. -/
def CapOk (v:Value):Prop:=∃ A c,v = .slice A 512 c ∧ 512 ≤ c
def zC:Cn:=List.replicate 512 0
theorem okC_z:okC zC:=List.length_replicate
def cs8 (c:Cn):List Value:=c.map u8v
theorem cs8_len (c:Cn):(cs8 c).length = c.length:=List.length_map _
theorem cs8_get (c:Cn) (j:Nat):(cs8 c)[j]? = c[j]?.map u8v:=List.getElem?_map
/-- v is a slice of 512 bytes, those of c, in a block of F. -/
def Fil (w:World) (F:Nat → Prop) (v:Value) (c:Cn):Prop:=
 (okC c ∧ CapOk v) ∧ ∃ g cap cs,v = .slice (some ⟨g,0,none⟩) 512 cap ∧ F g ∧ Blk w g T8 cs ∧ ∀ j,j < 512 → cs[j]? = (cs8 c)[j]?
theorem Fil.keep {w w':World} {F F':Nat → Prop} {v:Value} {c:Cn} (h:Fil w F v c) (hk:∀ j,F j → w'.heap[j]? = w.heap[j]?) (hF:∀ j,F j → F' j):Fil w' F' v c:=by
 obtain ⟨hc,g,cap,cs,e,hg,hb,hcs⟩:=h
 exact ⟨hc,g,cap,cs,e,hF g hg,(hk g hg).trans hb,hcs⟩
theorem Fil.turn {w w':World} {F F':Nat → Prop} {v:Value} {c:Cn} (h:Fil w F v c) {t:TypeId} {b:Nat} {cs:Array Value} (hB:Blk w b t cs) (ht:T8 ≠ t) (hg:w.grownBy w' (some b)) (hF:∀ j,F j → F' j):Fil w' F' v c:=by
 obtain ⟨hc,g,cap,cs,e,hf,hb,hcs⟩:=h
 refine ⟨hc,g,cap,cs,e,hF g hf,hb.grown hg (fun h2=>?_),hcs⟩
 injection h2 with h2
 exact Blk.ne_ hb hB ht h2
theorem Fil.below {w w':World} {F F':Nat → Prop} {v:Value} {c:Cn} (h:Fil w F v c) (hb:Below w.heap.size w w') (hF:∀ j,F j → F' j):Fil w' F' v c:=by
 obtain ⟨hc,g,cap,cs,e,hg,hk,hcs⟩:=h
 exact ⟨hc,g,cap,cs,e,hF g hg,hk.below hb hk.lt,hcs⟩
theorem Fil.grown_row {w w':World} {F F':Nat → Prop} {v u:Value} {c:Cn} {base n:Nat} {xs:List Value} (h:Fil w F v c) (hr:w.ownsRow base TW 2 u n xs) (hg:w.grownBy w' u.ownBlock) (hF:∀ j,F j → F' j):Fil w' F' v c:=by
 obtain ⟨hc,g,cap,cs,e,hf,hb,hcs⟩:=h
 exact ⟨hc,g,cap,cs,e,hF g hf,hb.grown hg (fun h2=>own_blk_ne hr hb (by decide) h2.symm),hcs⟩
theorem Fil.reads {w:World} {F:Nat → Prop} {v:Value} {c:Cn} (h:Fil w F v c):∃ g cap,v = .slice (some ⟨g,0,none⟩) 512 cap ∧ F g ∧ Reads w w.heap.size 1 (some ⟨g,0,none⟩) 512 (cs8 c):=by
 obtain ⟨hc,g,cap,cs,e,hf,hb,hcs⟩:=h
 refine ⟨g,cap,e,hf,by rw [cs8_len,hc.1],fun _=>⟨_,rfl,hb.lt,fun j u hu=>?_⟩⟩
 have hj:j < 512:=by have:=(List.getElem?_eq_some_iff.1 hu).1; rw [cs8_len,hc.1] at this; exact this
 rw [show (⟨g,0,none⟩:Addr).add j = ⟨g,j,none⟩ by unfold Addr.add; split <;> simp_all,hb.cell]
 exact (hcs j hj).trans hu
theorem Fil.of_row {w:World} {base:Nat} {v:Value} {c:Cn} {F:Nat → Prop} (h:w.ownsRow base T8 1 v 512 (cs8 c)) (hc:okC c) (hF:∀ g,base ≤ g → g < w.heap.size → F g):Fil w F v c:=by
 obtain ⟨g,cap,hv,hg,hlt⟩:=h.form (by omega)
 subst hv
 have hcell:=h.cells (g:=g) rfl
 rcases h.2 with ⟨e,hn⟩ | ⟨g',cap',cur,e,_,hh,hle,_,hsz,htk⟩
 ·cases e
 ·injection e with e1 e2 e3
  injection e1 with e1
  injection e1 with e1
  subst e1
  refine ⟨⟨hc,_,_,rfl,by omega⟩,g,cap,cur,rfl,hF g hg hlt,hh,fun j hj=>?_⟩
  have h1:(cur.toList.take (512 * 1))[j]? = (cs8 c)[j]?:=by rw [htk]
  rw [List.getElem?_take,if_pos (by omega)] at h1
  rw [← Array.getElem?_toList,h1]
theorem cs8_one (c:Cn):∀ u ∈ cs8 c,u.oneCell' = true:=by
 intro u hu
 obtain ⟨x,_,rfl⟩:=List.mem_map.1 hu; rfl
/-- A write that is not yet sure. -/
structure UW where
 at_:Int
 v:Value
 c:Cn
def UW.enc (x:UW):List Value:=[.int .i64 x.at_,x.v]
abbrev Z0:DataW Value:=.held (.slice none 0 0)
abbrev kl (k:Int):Lit:=.int .i64 k
structure SecG (w:World) (F:Nat → Prop) (b:Nat) (out:Bool) (left size:Int) (S:Int → Cn) (L:List (Int × Cn)) (N:Nat) (m:Nat) (u:Value) (n:Nat) (D:DataW Value) (us:List UW):Prop where
 blk:Blk w b TD (dk out left size (some m) u)
 fb:F b
 fm:F m
 map:DMap w m n D
 row:w.ownsRow 0 TW 2 u us.length (us.flatMap UW.enc)
 fu:∀ g,u.ownBlock = some g → F g
 fil:∀ x ∈ us,Fil w F x.v x.c ∧ 0 ≤ x.at_ ∧ x.at_ < size
 hL:us.map (fun x=>(x.at_,x.c)) = L
 sure:∀ k:Int,0 ≤ k → k < size → (Maps.has D (kl k) = true → ∃ v,D.atKey (kl k) Z0 = .held v ∧ Fil w F v (S k)) ∧ (Maps.has D (kl k) = false → S k = zC)
 hn:n + us.length ≤ N
 hN:N ≤ 2000000000
 hs:1 ≤ size ∧ size ≤ 65536
 hl:0 ≤ left ∧ left < 9223372036854775808
 flt:∀ j,F j → j < w.heap.size
 dom:∀ k:Int,Maps.has D (kl k) = true → 0 ≤ k ∧ k < size
def Sec (w:World) (F:Nat → Prop) (b:Nat) (out:Bool) (left size:Int) (S:Int → Cn) (L:List (Int × Cn)) (N:Nat):Prop:=
 ∃ m u n D us,SecG w F b out left size S L N m u n D us
theorem row_keep {w w':World} {base:Nat} {e:TypeId} {size:Nat} {v:Value} {n:Nat} {xs:List Value} (h:w.ownsRow base e size v n xs) (hk:∀ g,v.ownBlock = some g → w'.heap[g]? = w.heap[g]?):w'.ownsRow base e size v n xs:=by
 refine ⟨h.1,?_⟩
 rcases h.2 with hn | ⟨g,cap,cur,rfl,hbs,hgg,rest⟩
 ·exact .inl hn
 ·exact .inr ⟨g,cap,cur,rfl,hbs,(hk g rfl).trans hgg,rest⟩
theorem map_keep {w w':World} {b n:Nat} {D:DataW Value} (h:DMap w b n D) (hk:w'.heap[b]? = w.heap[b]?):DMap w' b n D:=by
 obtain ⟨es,clock,hb,r⟩:=h
 exact ⟨es,clock,hk.trans hb,r⟩
theorem map_ne {w:World} {b n g:Nat} {D:DataW Value} {t:TypeId} {cs:Array Value} (h:DMap w b n D) (hg:Blk w g t cs):b ≠ g:=by
 rintro rfl
 obtain ⟨es,clock,hb,r⟩:=h
 unfold Blk at hg
 rw [hb] at hg
 cases hg
theorem map_ne_row {w:World} {b n:Nat} {D:DataW Value} {base:Nat} {e:TypeId} {size k:Nat} {v:Value} {xs:List Value} (h:DMap w b n D) (hr:w.ownsRow base e size v k xs):v.ownBlock ≠ some b:=by
 rcases hr.2 with ⟨rfl,_⟩ | ⟨g',cap,cur,rfl,_,hh,_⟩
 ·simp [Value.ownBlock]
 ·intro he
  have:g' = b:=by simpa [Value.ownBlock] using he
  subst this
  exact map_ne h (show Blk w g' e cur from hh) rfl
section
variable {w w':World} {F F':Nat → Prop} {b:Nat} {out:Bool} {left size:Int} {S:Int → Cn} {L:List (Int × Cn)} {N m:Nat} {u:Value} {n:Nat} {D:DataW Value} {us:List UW}
/-- The disk stays as it is while no block of its own turns. -/
theorem SecG.keep (h:SecG w F b out left size S L N m u n D us) (hk:∀ j,F j → w'.heap[j]? = w.heap[j]?) (hF:∀ j,F j → F' j) (hlt:∀ j,F' j → j < w'.heap.size):SecG w' F' b out left size S L N m u n D us where
 blk:=(hk b h.fb).trans h.blk
 fb:=hF b h.fb
 fm:=hF m h.fm
 map:=map_keep h.map (hk m h.fm)
 row:=row_keep h.row fun g hg=>hk g (h.fu g hg)
 fu:=fun g hg=>hF g (h.fu g hg)
 fil:=fun x hx=>⟨(h.fil x hx).1.keep hk hF,(h.fil x hx).2⟩
 hL:=h.hL
 sure:=fun k h0 h1=>⟨fun hh=>by
  obtain ⟨v,hv,hf⟩:=(h.sure k h0 h1).1 hh
  exact ⟨v,hv,hf.keep hk hF⟩,(h.sure k h0 h1).2⟩
 hn:=h.hn
 hN:=h.hN
 hs:=h.hs
 hl:=h.hl
 flt:=hlt
 dom:=h.dom
theorem SecG.below (h:SecG w F b out left size S L N m u n D us) (hb:Below w.heap.size w w'):SecG w' F b out left size S L N m u n D us:=
 h.keep (fun j hj=>hb.block j (h.flt j hj)) (fun _ hj=>hj) (fun j hj=>Nat.lt_of_lt_of_le (h.flt j hj) hb.size)
theorem Sec.below (h:Sec w F b out left size S L N) (hb:Below w.heap.size w w'):Sec w' F b out left size S L N:=by
 obtain ⟨m,u,n,D,us,h⟩:=h
 exact ⟨m,u,n,D,us,h.below hb⟩
/-- .. and while another's blocks turn. -/
theorem Sec.apart {G:Nat → Prop} (h:Sec w F b out left size S L N) (hb:Fr G w w') (hd:∀ j,F j → ¬ G j):Sec w' F b out left size S L N:=by
 obtain ⟨m,u,n,D,us,h⟩:=h
 exact ⟨m,u,n,D,us,h.keep (fun j hj=>hb.block j (h.flt j hj) (hd j hj)) (fun _ hj=>hj) (fun j hj=>Nat.lt_of_lt_of_le (h.flt j hj) hb.size)⟩
theorem Sec.lt (h:Sec w F b out left size S L N):∀ j,F j → j < w.heap.size:=by
 obtain ⟨m,u,n,D,us,h⟩:=h
 exact h.flt
/-- The disk's own block is written: nothing else of it turns. -/
theorem SecG.own {out':Bool} {left':Int} (h:SecG w F b out left size S L N m u n D us) (hb:w.grownBy w' (some b)) (hB:Blk w' b TD (dk out' left' size (some m) u)) (hl':0 ≤ left' ∧ left' < 9223372036854775808) :
  SecG w' F b out' left' size S L N m u n D us where
 blk:=hB
 fb:=h.fb
 fm:=h.fm
 map:=h.map.kept hb (fun e=>by injection e with e; exact map_ne h.map h.blk e)
 row:=row_keep h.row fun g hg=>hb.block g (h.flt g (h.fu g hg)) (fun e=>by injection e with e; subst e; exact own_blk_ne h.row h.blk (by decide) hg)
 fu:=h.fu
 fil:=fun x hx=>⟨(h.fil x hx).1.turn h.blk (by decide) hb (fun _ h=>h),(h.fil x hx).2⟩
 hL:=h.hL
 sure:=fun k h0 h1=>⟨fun hh=>by
  obtain ⟨v,hv,hf⟩:=(h.sure k h0 h1).1 hh
  exact ⟨v,hv,hf.turn h.blk (by decide) hb (fun _ h=>h)⟩,(h.sure k h0 h1).2⟩
 hn:=h.hn
 hN:=h.hN
 hs:=h.hs
 hl:=hl'
 flt:=fun j hj=>Nat.lt_of_lt_of_le (h.flt j hj) hb.size
 dom:=h.dom
end
theorem burnL_ok {left:Int} (h:0 ≤ left ∧ left < 9223372036854775808):0 ≤ burnL left ∧ burnL left < 9223372036854775808:=by
 unfold burnL; split <;> omega
theorem sec_burn {w:World} {F:Nat → Prop} {b:Nat} {out:Bool} {left size:Int} {S:Int → Cn} {L:List (Int × Cn)} {N m:Nat} {u:Value} {n:Nat} {D:DataW Value} {us:List UW} (h:SecG w F b out left size S L N m u n D us) :
  Calls Try.prog 103 #[.pointer (some ⟨b,0,none⟩)] w fun e w'=>e = .returned (.bool (burnO out left)) ∧ SecG w' F b (burnO out left) (burnL left) size S L N m u n D us ∧ w.grownBy w' (some b):=by
 refine (burn_any b out left size (some m) u w h.blk h.hl).mono ?_
 rintro e w' ⟨rfl,hb,hg⟩
 exact ⟨rfl,h.own hg hb (burnL_ok h.hl),hg⟩
theorem sec_fault {w:World} {F:Nat → Prop} {b:Nat} {out:Bool} {left size:Int} {S:Int → Cn} {L:List (Int × Cn)} {N m:Nat} {u:Value} {n:Nat} {D:DataW Value} {us:List UW} (at_:Int) (h:SecG w F b out left size S L N m u n D us) :
  Calls Try.prog 62 #[.pointer (some ⟨b,0,none⟩),.int .i64 at_] w fun e w'=>e = .returned (.int .i64 (faultE out size at_)) ∧ SecG w' F b out left size S L N m u n D us ∧ Below w.heap.size w w':=by
 refine (fault_any b out left size at_ (some m) u w h.blk).mono ?_
 rintro e w' ⟨rfl,hb⟩
 exact ⟨rfl,h.below hb,hb⟩
end Go.Proofs.Ytkolacaceaamoaa
/- The sectors' disk: Write. -/
namespace Go.Proofs.Ytkolacaceaamoaa
open Go.RowKit
/-- The blocks from B on stay. -/
def Kp (B:Nat) (w w':World):Prop:=∀ j,B ≤ j → j < w.heap.size → w'.heap[j]? = w.heap[j]?
theorem row_kp {B:Nat} {w w':World} {e:TypeId} {size:Nat} {v:Value} {n:Nat} {xs:List Value} (h:w.ownsRow B e size v n xs) (hk:Kp B w w'):w'.ownsRow B e size v n xs:=
 row_keep h fun g hg=>hk g (h.lt g hg).1 (h.lt g hg).2
theorem write_info:(Try.prog.info? TW).map (fun i=>(i.zero,i.size,i.bytes)) = some (some (.agg #[.int .i64 0,.slice none 0 0]),2,32):=by kernel_rfl
theorem grown_of_below {w w' w'':World} {r:Option Nat} (h:Below w.heap.size w w') (g:w'.grownBy w'' r):w.grownBy w'' r:=
 ⟨g.os.trans h.os,g.tape.trans h.tape,g.output.trans h.output,Nat.le_trans h.size g.size,fun k hk hr=>(g.block k (Nat.lt_of_lt_of_le hk h.size) hr).trans (h.block k hk)⟩
theorem sec_append {w2 w3:World} {F:Nat → Prop} {b:Nat} {out:Bool} {left size:Int} {S:Int → Cn} {L:List (Int × Cn)} {N m:Nat} {u:Value} {n:Nat} {D:DataW Value} {us:List UW} (h:SecG w2 F b out left size S L N m u n D us)
  {at_:Int} {c:Cn} {x V:Value} (hG:w2.grownBy w3 u.ownBlock) (ho:w3.ownsRow 0 TW 2 V (us.length + 1) (us.flatMap UW.enc ++ [.int .i64 at_,x])) (hx:w3.ownsRow w2.heap.size T8 1 x 512 (cs8 c))
  (hor:V.ownBlock = u.ownBlock ∨ ∃ g,V.ownBlock = some g ∧ w2.heap.size ≤ g) (hat:0 ≤ at_ ∧ at_ < size) (hc:okC c) (hN:N < 1000000000) :
  (∃ F',Sec (w3.setCell ⟨b,4,none⟩ V) F' b out left size S (L ++ [(at_,c)]) (N + 1) ∧ ∀ j,F' j → F j ∨ w2.heap.size ≤ j) ∧ Fr F w2 (w3.setCell ⟨b,4,none⟩ V):=by
 have hb3:Blk w3 b TD (dk out left size (some m) u):=h.blk.grown hG (fun e=>own_blk_ne h.row h.blk (by decide) e.symm)
 have g2:w3.grownBy (w3.setCell ⟨b,4,none⟩ V) (some b):=gby_set _ _ _ _
 have hb5:Blk (w3.setCell ⟨b,4,none⟩ V) b TD (dk out left size (some m) V):=by
  have:=hb3.set_ 4 V
  simpa [dk] using this
 have hsz:(w3.setCell ⟨b,4,none⟩ V).heap.size = w3.heap.size:=by simp
 have hm3:DMap w3 m n D:=h.map.kept hG (fun e=>map_ne_row h.map h.row e.symm)
 refine ⟨⟨fun j=>F j ∨ (w2.heap.size ≤ j ∧ j < w3.heap.size),⟨m,V,n,D,us ++ [⟨at_,x,c⟩],?_⟩,fun j hj=>hj.imp id And.left⟩,?_⟩
 ·refine { blk:=hb5,fb:=.inl h.fb,fm:=.inl h.fm,map:=?_,row:=?_,fu:=?_,fil:=?_,hL:=?_,sure:=?_,hn:=?_,hN:=by omega,hs:=h.hs,hl:=h.hl,flt:=?_,dom:=h.dom }
  ·exact hm3.kept g2 (fun e=>by injection e with e; exact map_ne hm3 hb3 e)
  ·have:=row_keep ho fun g hg=>g2.block g (ho.lt g hg).2 (fun e=>by injection e with e; subst e; exact own_blk_ne ho hb3 (by decide) hg)
   simpa [UW.enc] using this
  ·intro g hg
   rcases hor with e | ⟨g',e,hg'⟩
   ·exact .inl (h.fu g (e ▸ hg))
   ·have:=(ho.lt g hg).2
    rw [e] at hg
    injection hg with hg
    subst hg
    exact .inr ⟨hg',this⟩
  ·intro y hy
   rcases List.mem_append.1 hy with hy | hy
   ·exact ⟨((h.fil y hy).1.grown_row h.row hG (fun _ h=>.inl h)).turn hb3 (by decide) g2 (fun _ h=>h),(h.fil y hy).2⟩
   ·have:y = ⟨at_,x,c⟩:=by simpa using hy
    subst this
    refine ⟨(Fil.of_row (F:=fun j=>F j ∨ (w2.heap.size ≤ j ∧ j < w3.heap.size)) hx hc (fun g h1 h2=>.inr ⟨h1,h2⟩)).turn hb3 (by decide) g2 (fun _ h=>h),hat⟩
  ·simp [h.hL]
  ·intro k h0 h1
   refine ⟨fun hh=>?_,(h.sure k h0 h1).2⟩
   obtain ⟨v,hv,hf⟩:=(h.sure k h0 h1).1 hh
   exact ⟨v,hv,(hf.grown_row h.row hG (fun _ h=>.inl h)).turn hb3 (by decide) g2 (fun _ h=>h)⟩
  ·have:=h.hn
   simp; omega
  ·intro j hj
   rw [hsz]
   rcases hj with hj | hj
   ·exact Nat.lt_of_lt_of_le (h.flt j hj) hG.size
   ·exact hj.2
 ·refine (Fr.of_grown (F:=F) hG (fun k hk=>h.fu k hk)).trans (Fr.of_grown (F:=F) g2 (fun k hk=>by injection hk with hk; subst hk; exact h.fb)) (fun _ _ h=>h)
set_option maxRecDepth 100000 in
set_option maxHeartbeats 1000000 in
theorem sec_write_ok {w:World} {F:Nat → Prop} {b:Nat} {out:Bool} {left size:Int} {S:Int → Cn} {L:List (Int × Cn)} {N m:Nat} {u:Value} {n:Nat} {D:DataW Value} {us:List UW} (h:SecG w F b out left size S L N m u n D us)
  (at_:Int) (c:Cn) (v:Value) (G:Nat → Prop) (hv:Fil w G v c) (ha:faultE out size at_ = 0) (hb:burnO out left = false) (hN:N < 1000000000) :
  Calls Try.prog 96 #[.pointer (some ⟨b,0,none⟩),.int .i64 at_,v] w fun e w'=>e = .returned (.int .i64 0) ∧
   (∃ F',Sec w' F' b false (burnL left) size S (L ++ [(at_,c)]) (N + 1) ∧ ∀ j,F' j → F j ∨ w.heap.size ≤ j) ∧ Fr F w w':=by
 obtain ⟨g,cap,rfl,hGg,hr⟩:=hv.reads
 have HR:=hide hr
 have H:=hide h
 have HV:=hide hv
 have hat:0 ≤ at_ ∧ at_ < size:=by unfold faultE at ha; split at ha <;> (try split at ha) <;> (try split at ha) <;> omega
 have HAT:=hide hat
 clear h hr hv hat
 have HF:=hide ha
 have HB:=hide hb
 clear ha hb
 go_enter Try.func96,Try.ntmps96
 go_wp2_with (go_at_call 62; (refine (sec_fault at_ H.out).mono ?_); rintro e w1 ⟨rfl,h1,hb1⟩; rw [HF.out]; have H1:=hide h1; have HB1:=hide hb1; clear h1 hb1)
 refine (sec_burn H1.out).mono ?_
 rintro e w2 ⟨rfl,h2,hf2⟩
 have hv2:=(HV.out.below HB1.out (fun _ h=>h)).turn H1.out.blk (by decide) hf2 (fun _ h=>h)
 have HR2:∀ w3:World,Below w2.heap.size w2 w3 → Reads w3 w3.heap.size 1 (some ⟨g,0,none⟩) 512 (cs8 c):=fun w3 hb3=>by
  obtain ⟨g',cap',e',_,hr'⟩:=(hv2.below hb3 (fun _ h=>h)).reads
  injection e' with e1 e2 e3
  injection e1 with e1
  injection e1 with e1
  subst e1
  exact hr'
 have HR2:=hide HR2
 have HV2:=hide hv2
 clear hv2
 rw [HB.out] at h2 ⊢
 have H2:=hide h2
 have HF2:=hide hf2
 have ku:=h2.blk.cell 4
 have HKU':∀ w3:World,Below w2.heap.size w2 w3 → w3.cell? ⟨b,4,none⟩ = some u:=fun w3 hb3=>(hb3.cell h2.blk.lt).trans ku
 have HKU:=hide HKU'
 clear h2 hf2 ku HKU'
 obtain ⟨i0,hi0,hz0,hz1,hz2⟩:=info_parts write_info
 go_wp2
 refine wp_region_stage (by kernel_rfl) (by kernel_rfl) 34 4
  [⟨some 21,false,0,3,fun _ v _=>v = .pointer (some ⟨b,0,none⟩)⟩,
   ⟨some 22,false,0,2,fun _ v _=>v = .pointer (some ⟨b,0,none⟩)⟩,
   ⟨some 23,false,0,2,fun _ v _=>v = .pointer (some ⟨b,0,none⟩)⟩,
   ⟨some 24,false,0,2,fun _ v _=>v = .pointer (some ⟨b,4,none⟩)⟩,
   ⟨some 25,false,0,2,fun _ v _=>v = u⟩,
   ⟨some 26,false,0,1,fun _ v _=>v = .int .i64 at_⟩,
   ⟨some 27,false,0,0,fun _ v _=>v = .slice (some ⟨g,0,none⟩) 512 cap⟩,
   ⟨some 28,true,0,0,fun _ v w'=>w'.ownsRow w2.heap.size T8 1 v 512 (cs8 c)⟩,
   ⟨some 29,false,1,1,fun _ v w'=>∃ x,v = .agg #[.int .i64 at_,x] ∧ w'.ownsRow w2.heap.size T8 1 x 512 (cs8 c)⟩,
   ⟨some 30,true,1,1,fun _ v w'=>∃ g x,v = .slice (some ⟨g,0,none⟩) 1 1 ∧ w2.heap.size ≤ g ∧ Blk w' g TW #[.int .i64 at_,x] ∧ w'.ownsRow w2.heap.size T8 1 x 512 (cs8 c)⟩,
   ⟨some 31,true,2,2,fun s v w'=>s = 3 → ∃ x,w'.ownsRow 0 TW 2 v (us.length + 1) (us.flatMap UW.enc ++ [.int .i64 at_,x]) ∧ w'.ownsRow w2.heap.size T8 1 x 512 (cs8 c) ∧ (v.ownBlock = u.ownBlock ∨ ∃ g,v.ownBlock = some g ∧ w2.heap.size ≤ g)⟩,
   ⟨some 32,false,0,3,fun _ v _=>v = .pointer (some ⟨b,0,none⟩)⟩,
   ⟨some 33,false,0,3,fun _ v _=>v = .pointer (some ⟨b,4,none⟩)⟩,
   ⟨none,true,3,3,fun _ _ _=>True⟩] (fun s w'=>(s ≤ 2 → Below w2.heap.size w2 w') ∧ (s = 3 → w2.grownBy w' u.ownBlock) ∧ (s = 4 → (∃ F',Sec w' F' b false (burnL left) size S (L ++ [(at_,c)]) (N + 1) ∧ ∀ j,F' j → F j ∨ w2.heap.size ≤ j) ∧ Fr F w2 w')) (fun _ w w'=>Kp w2.heap.size w w') [21,22,23,24,25,26,27,28,29,30,31,32,33] rfl (by kernel_rfl) rfl ?g0 ?keep ?steps ?fin
 case keep=>
  intro e he s v w w' hm hsM ht hv
  simp only [List.mem_cons,List.not_mem_nil,or_false] at he
  rcases he with rfl | rfl | rfl | rfl | rfl | rfl | rfl | rfl | rfl | rfl | rfl | rfl | rfl | rfl
  all_goals first | exact hv | exact row_kp hv ht | (obtain ⟨x,e,hx⟩:=hv; exact ⟨x,e,row_kp hx ht⟩) | (obtain ⟨g,x,e,hg,hb,hx⟩:=hv; exact ⟨g,x,e,hg,(ht g hg hb.lt).trans hb,row_kp hx ht⟩) | (intro h3; have:=hm rfl; simp only [] at this; omega)
 case steps=>
  refine ⟨?_,?_,?_,?_,?_,?_,?_,?_,?_,?_,?_,?_,?_,?_,trivial⟩
  ·intro st hlo hhi ac w3 hg hG hd K hK
   dsimp only at hlo hhi hG hK
   exact op_move _ rfl (hK _ (hg.kp 0 (by simp)))
  ·intro st hlo hhi ac w3 hg hG hd K hK
   dsimp only at hlo hhi hG hK
   exact op_move _ rfl (hK _ (hg.kp 0 (by simp)))
  ·intro st hlo hhi ac w3 hg hG hd K hK
   dsimp only at hlo hhi hG hK
   have f1:=hd ⟨1,.data⟩ (by simp) rfl _ rfl _ rfl
   (try simp [Act.eval] at f1)
   go_simp
   exact hK _ rfl
  ·intro st hlo hhi ac w3 hg hG hd K hK
   dsimp only at hlo hhi hG hK
   have f2:=hd ⟨2,.data⟩ (by simp) rfl _ rfl _ rfl
   (try simp [Act.eval] at f2)
   go_simp
   exact hK _ rfl
  ·intro st hlo hhi ac w3 hg hG hd K hK
   dsimp only at hlo hhi hG hK
   have kc:=HKU.out w3 (hG.1 hhi)
   have f3:=hd ⟨3,.data⟩ (by simp) rfl _ rfl _ rfl
   (try simp [Act.eval] at f3)
   go_simp
   exact hK _ rfl
  ·intro st hlo hhi ac w3 hg hG hd K hK
   dsimp only at hlo hhi hG hK
   exact op_move _ rfl (hK _ (hg.kp 1 (by simp)))
  ·intro st hlo hhi ac w3 hg hG hd K hK
   dsimp only at hlo hhi hG hK
   exact op_move _ rfl (hK _ (hg.kp 2 (by simp)))
  ·intro ac w3 hg hG hd K hK
   dsimp only [Nat.zero_add,Nat.reduceAdd] at hG hK
   have f6:=hd ⟨6,.data⟩ (by simp) rfl _ rfl _ rfl
   simp [Act.eval] at f6
   go_simp
   refine (clone_any ⟨g,0,none⟩ 512 cap (cs8 c) w3 (HR2.out w3 (hG.1 (by decide))) (cs8_one c) (by omega)).mono ?_
   rintro e w4 ⟨v4,rfl,ho4,hb4⟩
   have hb24:=(hG.1 (by decide)).trans (hb4.mono (hG.1 (by decide)).size)
   exact hK v4 w4 (fun j _ hj=>hb4.block j hj) (And.intro (fun _=>hb24) (And.intro (fun h=>absurd h (by decide)) (fun h=>absurd h (by decide)))) (own_base ho4 (hG.1 (by decide)).size)
  ·intro st hlo hhi ac w3 hg hG hd K hK
   dsimp only at hlo hhi hG hK
   have f5:=hd ⟨5,.data⟩ (by simp) rfl _ rfl _ rfl
   have f7:=hd ⟨7,.data⟩ (by simp) rfl _ rfl _ rfl
   obtain ⟨g7,c7,e7,_,_⟩:=f7.form (by omega)
   rw [e7] at f7
   have F7:=hide f7
   clear f7
   simp [Act.eval] at f5 e7
   go_simp
   exact hK _ ⟨_,rfl,F7.out⟩
  ·intro ac w3 hg hG hd K hK
   dsimp only [Nat.zero_add,Nat.reduceAdd] at hG hK
   obtain ⟨x,f8,hx⟩:=hd ⟨8,.data⟩ (by simp) rfl _ rfl _ rfl
   obtain ⟨g7,c7,e7,_,_⟩:=hx.form (by omega)
   subst e7
   have F7:=hide hx
   clear hx
   simp [Act.eval] at f8
   go_simp
   have hb2:=hG.1 (by decide)
   exact hK (.slice (some ⟨w3.heap.size,0,none⟩) 1 1) _ (fun j _ hj=>Below.heap_alloc w3 _ j hj) (And.intro (fun _=>hb2.alloc hb2.size _) (And.intro (fun h=>absurd h (by decide)) (fun h=>absurd h (by decide)))) ⟨_,_,rfl,hb2.size,Blk.new w3 _ _,row_kp F7.out (fun j _ hj=>Below.heap_alloc w3 _ j hj)⟩
  ·intro ac w3 hg hG hd K hK
   dsimp only [Nat.zero_add,Nat.reduceAdd] at hG hK
   have f4:=hd ⟨4,.data⟩ (by simp) rfl _ rfl _ rfl
   obtain ⟨gx,x,f9,hgx,hbx,hx⟩:=hd ⟨9,.data⟩ (by simp) rfl _ rfl _ rfl
   have hb2:=hG.1 (by decide)
   have hrow:=own_later H2.out.row hb2
   have hul:=H2.out.hn
   have hul2:=H2.out.hN
   refine wp_append_any w3 (.tmp 25) (.tmp 30) 98 rfl 0 TW i0 _ 2 32 Try.underlying98 hi0 hz0 hz1 hz2 rfl (by omega) u us.length (us.flatMap UW.enc) f4 hrow w3.heap.size (some ⟨gx,0,none⟩) 1 1 [.int .i64 at_,x] f9 ⟨rfl,fun _=>⟨_,rfl,hbx.lt,fun j y hy=>?_⟩⟩ ?_ (by unfold maxLen; omega) (by omega) (Nat.zero_le _) ?_
   ·(rw [show (⟨gx,0,none⟩:Addr).add j = ⟨gx,j,none⟩ by unfold Addr.add; split <;> simp_all,hbx.cell,← Array.getElem?_toList]; exact hy)
   ·(intro y hy; simp at hy; obtain ⟨g7,c7,e7,_,_⟩:=hx.form (by omega); subst e7; rcases hy with rfl | rfl <;> rfl)
   intro v' w4 ho hg4 hor
   refine hK v' w4 (fun j h1 h2=>hg4.block j h2 (fun e=>?_)) (And.intro (fun h=>absurd h (by decide)) (And.intro (fun _=>grown_of_below hb2 hg4) (fun h=>absurd h (by decide)))) (fun _=>⟨x,ho,row_kp hx (fun j h1 h2=>hg4.block j h2 (fun e=>?_)),hor.imp id (fun e=>⟨_,e,hb2.size⟩)⟩)
   ·have:=(H2.out.row.lt j e.symm).2; omega
   ·have:=(H2.out.row.lt j e.symm).2; omega
  ·intro st hlo hhi ac w3 hg hG hd K hK
   dsimp only at hlo hhi hG hK
   have f0:=hd ⟨0,.data⟩ (by simp) rfl _ rfl _ rfl
   (try simp [Act.eval] at f0)
   go_simp
   exact hK _ rfl
  ·intro st hlo hhi ac w3 hg hG hd K hK
   dsimp only at hlo hhi hG hK
   have f11:=hd ⟨11,.data⟩ (by simp) rfl _ rfl _ rfl
   (try simp [Act.eval] at f11)
   go_simp
   exact hK _ rfl
  ·intro ac w3 hg hG hd K hK
   dsimp only [Nat.zero_add,Nat.reduceAdd] at hG hK
   obtain ⟨x,ho,hx,hor⟩:=hd ⟨10,.data⟩ (by simp) rfl _ rfl _ rfl rfl
   have f12:=hd ⟨12,.data⟩ (by simp) rfl _ rfl _ rfl
   have f10:=ho.form (by omega)
   obtain ⟨gv,cv,f10,_,_⟩:=f10
   have hg3:=hG.2.1 rfl
   have hb3:Blk w3 b TD (dk false (burnL left) size (some m) u):=H2.out.blk.grown hg3 (fun e=>own_blk_ne H2.out.row H2.out.blk (by decide) e.symm)
   have kb:=hb3.cell 4
   have qb:=hb3.frozen 4
   have zb:=hb3.lt
   have FIN:=hide (sec_append H2.out hg3 ho hx hor HAT.out HV.out.1.1 hN)
   rw [f10] at FIN
   clear ho hx hor hb3 hg3
   simp [Act.eval] at f10 f12
   simp [dk] at kb
   go_simp
   refine hK undef _ (fun j h1 h2=>(gby_set w3 b 4 _).block j h2 (fun e=>?_)) (And.intro (fun h=>absurd h (by decide)) (And.intro (fun h=>absurd h (by decide)) (fun _=>FIN.out))) trivial
   injection e with e
   have:=H2.out.blk.lt
   omega
 case g0=>exact And.intro (fun _=>(Below.refl _ _).drew) (And.intro (fun h=>absurd h (by decide)) (fun h=>absurd h (by decide)))
 case fin=>
  intro f w5 hG hall
  have HG:=hide (hG.2.2 rfl)
  have HS:=hide (Nat.le_trans HB1.out.size HF2.out.size)
  have HFR:=hide ((Fr.of_below (F:=F) HB1.out).trans ((Fr.of_grown (F:=F) HF2.out (fun k hk=>by injection hk with hk; subst hk; exact H.out.fb)).trans HG.out.2 (fun _ _ h=>h)) (fun _ _ h=>h))
  clear hG hall
  simp only [fillF,List.map_cons,List.map_nil,List.foldl_cons,List.foldl_nil,Act.put,List.setIfInBounds_toArray,List.set_cons_zero,List.set_cons_succ]
  go_wp2
  go_ret
  refine ⟨rfl,?_,HFR.out⟩
  obtain ⟨F',h1,h2⟩:=HG.out.1
  exact ⟨F',h1,fun j hj=>(h2 j hj).imp id (fun h=>Nat.le_trans HS.out h)⟩
end Go.Proofs.Ytkolacaceaamoaa
/- The sectors' disk: Write, whatever it answers. -/
namespace Go.Proofs.Ytkolacaceaamoaa
open Go.RowKit
def wrDo (out:Bool) (size at_:Int) (k:Nat):Bool:=faultE out size at_ == 0 && k == 512
def wrE (out:Bool) (left size at_:Int) (k:Nat):Int:=if faultE out size at_ = 0 then (if k = 512 then (if burnO out left then 15 else 0) else 1) else faultE out size at_
def wrOut (out:Bool) (left size at_:Int) (k:Nat):Bool:=if wrDo out size at_ k then burnO out left else out
def wrLeft (out:Bool) (left size at_:Int) (k:Nat):Int:=if wrDo out size at_ k then burnL left else left
def wrL (out:Bool) (left size at_:Int) (c:Cn) (k:Nat) (L:List (Int × Cn)):List (Int × Cn):=if wrDo out size at_ k && !burnO out left then L ++ [(at_,c)] else L
theorem Sec.more {w:World} {F:Nat → Prop} {b:Nat} {out:Bool} {left size:Int} {S:Int → Cn} {L:List (Int × Cn)} {N N':Nat} (h:Sec w F b out left size S L N) (h1:N ≤ N') (h2:N' ≤ 1000000000):Sec w F b out left size S L N':=by
 obtain ⟨m,u,n,D,us,h⟩:=h
 exact ⟨m,u,n,D,us,{ h with hn:=Nat.le_trans h.hn h1,hN:=by omega }⟩
set_option maxRecDepth 100000 in
set_option maxHeartbeats 1000000 in
theorem sec_write_fault {w:World} {F:Nat → Prop} {b:Nat} {out:Bool} {left size:Int} {S:Int → Cn} {L:List (Int × Cn)} {N m:Nat} {u:Value} {n:Nat} {D:DataW Value} {us:List UW} (h:SecG w F b out left size S L N m u n D us)
  (at_:Int) (v:Value) (ha:faultE out size at_ ≠ 0) :
  Calls Try.prog 96 #[.pointer (some ⟨b,0,none⟩),.int .i64 at_,v] w fun e w'=>e = .returned (.int .i64 (faultE out size at_)) ∧ SecG w' F b out left size S L N m u n D us ∧ Below w.heap.size w w':=by
 have H:=hide h
 clear h
 obtain ⟨E,hE⟩:∃ E,faultE out size at_ = E:=⟨_,rfl⟩
 have HE:=hide hE
 have d:(E == 0) = false:=by rw [hE] at ha; simpa using ha
 rw [hE]
 clear ha hE
 go_enter Try.func96,Try.ntmps96
 go_wp2_with (go_at_call 62; (refine (sec_fault at_ H.out).mono ?_); rintro e w1 ⟨rfl,h1,hb1⟩; rw [HE.out]; have H1:=hide h1; have HB1:=hide hb1; clear h1 hb1)
 go_ret
 exact ⟨rfl,H1.out,HB1.out⟩
set_option maxRecDepth 100000 in
set_option maxHeartbeats 1000000 in
theorem sec_write_len {w:World} {F:Nat → Prop} {b:Nat} {out:Bool} {left size:Int} {S:Int → Cn} {L:List (Int × Cn)} {N m:Nat} {u:Value} {n:Nat} {D:DataW Value} {us:List UW} (h:SecG w F b out left size S L N m u n D us)
  (at_:Int) (A:Option Addr) (k cap:Nat) (ha:faultE out size at_ = 0) (hk:k ≠ 512) :
  Calls Try.prog 96 #[.pointer (some ⟨b,0,none⟩),.int .i64 at_,.slice A k cap] w fun e w'=>e = .returned (.int .i64 1) ∧ SecG w' F b out left size S L N m u n D us ∧ Below w.heap.size w w':=by
 have H:=hide h
 clear h
 have HE:=hide ha
 have d:((k:Int) == 512) = false:=by simp; omega
 clear ha hk
 go_enter Try.func96,Try.ntmps96
 go_wp2_with (go_at_call 62; (refine (sec_fault at_ H.out).mono ?_); rintro e w1 ⟨rfl,h1,hb1⟩; rw [HE.out]; have H1:=hide h1; have HB1:=hide hb1; clear h1 hb1)
 go_ret
 exact ⟨rfl,H1.out,HB1.out⟩
set_option maxRecDepth 100000 in
set_option maxHeartbeats 1000000 in
theorem sec_write_burn {w:World} {F:Nat → Prop} {b:Nat} {out:Bool} {left size:Int} {S:Int → Cn} {L:List (Int × Cn)} {N m:Nat} {u:Value} {n:Nat} {D:DataW Value} {us:List UW} (h:SecG w F b out left size S L N m u n D us)
  (at_:Int) (A:Option Addr) (cap:Nat) (ha:faultE out size at_ = 0) (hk:burnO out left = true) :
  Calls Try.prog 96 #[.pointer (some ⟨b,0,none⟩),.int .i64 at_,.slice A 512 cap] w fun e w'=>e = .returned (.int .i64 15) ∧ SecG w' F b true (burnL left) size S L N m u n D us ∧ Fr F w w':=by
 have H:=hide h
 clear h
 have HE:=hide ha
 have HK:=hide hk
 clear ha hk
 go_enter Try.func96,Try.ntmps96
 go_wp2_with (first | (go_at_call 62; (refine (sec_fault at_ H.out).mono ?_); rintro e w1 ⟨rfl,h1,hb1⟩; rw [HE.out]; have H1:=hide h1; have HB1:=hide hb1; clear h1 hb1) | (go_at_call 103; (refine (sec_burn H1.out).mono ?_); rintro e w2 ⟨rfl,h2,hf2⟩; rw [HK.out] at h2 ⊢; have H2:=hide h2; have HF2:=hide hf2; clear h2 hf2))
 go_ret
 exact ⟨rfl,H2.out,(Fr.of_below (F:=F) HB1.out).trans (Fr.of_grown (F:=F) HF2.out (fun k hk=>by injection hk with hk; subst hk; exact H.out.fb)) (fun _ _ h=>h)⟩
theorem sec_write {w:World} {F:Nat → Prop} {b:Nat} {out:Bool} {left size:Int} {S:Int → Cn} {L:List (Int × Cn)} {N:Nat} (h:Sec w F b out left size S L N)
  (at_:Int) (c:Cn) (g k cap:Nat) (G:Nat → Prop) (hv:k = 512 → Fil w G (.slice (some ⟨g,0,none⟩) 512 cap) c) (hN:N < 1000000000) :
  Calls Try.prog 96 #[.pointer (some ⟨b,0,none⟩),.int .i64 at_,.slice (some ⟨g,0,none⟩) k cap] w fun e w'=>e = .returned (.int .i64 (wrE out left size at_ k)) ∧
   (∃ F',Sec w' F' b (wrOut out left size at_ k) (wrLeft out left size at_ k) size S (wrL out left size at_ c k L) (N + 1) ∧ ∀ j,F' j → F j ∨ w.heap.size ≤ j) ∧ Fr F w w':=by
 obtain ⟨m,u,n,D,us,h⟩:=h
 unfold wrE wrOut wrLeft wrL wrDo
 by_cases ha:faultE out size at_ = 0
 ·by_cases hk:k = 512
  ·subst hk
   cases hb:burnO out left
   ·refine (sec_write_ok h at_ c _ G (hv rfl) ha hb hN).mono ?_
    rintro e w' ⟨rfl,h1,h2⟩
    simp only [ha,if_true,BEq.rfl,Bool.and_self,Bool.not_false,Bool.false_eq_true,if_false]
    exact ⟨trivial,h1,h2⟩
   ·refine (sec_write_burn h at_ (some ⟨g,0,none⟩) cap ha hb).mono ?_
    rintro e w' ⟨rfl,h1,h2⟩
    simp only [ha,if_true,BEq.rfl,Bool.and_self,Bool.not_true,Bool.and_false,Bool.false_eq_true,if_false]
    exact ⟨trivial,⟨F,Sec.more ⟨m,u,n,D,us,h1⟩ (by omega) (by omega),fun _ hj=>.inl hj⟩,h2⟩
  ·refine (sec_write_len h at_ (some ⟨g,0,none⟩) k cap ha hk).mono ?_
   rintro e w' ⟨rfl,h1,h2⟩
   have hk':(k == 512) = false:=by simpa using hk
   simp only [ha,if_true,hk,if_false,hk',BEq.rfl,Bool.and_false,Bool.false_and,Bool.false_eq_true]
   exact ⟨trivial,⟨F,Sec.more ⟨m,u,n,D,us,h1⟩ (by omega) (by omega),fun _ hj=>.inl hj⟩,Fr.of_below h2⟩
 ·refine (sec_write_fault h at_ _ ha).mono ?_
  rintro e w' ⟨rfl,h1,h2⟩
  have ha':(faultE out size at_ == 0) = false:=by simpa using ha
  simp only [ha,if_false,ha',Bool.false_and,Bool.false_eq_true]
  exact ⟨trivial,⟨F,Sec.more ⟨m,u,n,D,us,h1⟩ (by omega) (by omega),fun _ hj=>.inl hj⟩,Fr.of_below h2⟩
end Go.Proofs.Ytkolacaceaamoaa
/- The sectors' disk: lasts. -/
namespace Go.Proofs.Ytkolacaceaamoaa
open Go.RowKit
def upd (S:Int → Cn) (a:Int) (c:Cn):Int → Cn:=fun x=>if x = a then c else S x
/-- What is sure behind writes of which a test holds last. -/
def lastS (τ:Nat → Bool) (S:Int → Cn) (L:List (Int × Cn)):Int → Cn:=L.zipIdx.foldl (fun S p=>if τ p.2 then upd S p.1.1 p.1.2 else S) S
theorem wf_key {k:Int} (h:0 ≤ k ∧ k < 65536):(Lit.int .i64 k).wf = true:=WalkArith.wf_i64 (by omega)
theorem keyed:Maps.Keyed Try.prog 3:=Maps.int_keyed Try.underlying3
theorem us_cells {w:World} {us:List UW} {g cap:Nat} (h:w.ownsRow 0 TW 2 (.slice (some ⟨g,0,none⟩) us.length cap) us.length (us.flatMap UW.enc)) {k:Nat} (hk:k < us.length) :
  w.cell? ⟨g,k * 2,none⟩ = some (.int .i64 us[k].at_) ∧ w.cell? ⟨g,k * 2 + 1,none⟩ = some us[k].v:=by
 have hc:=h.cells (g:=g) rfl
 have h0:=hc _ _ (((flat_get (enc:=UW.enc) (k:=2) (fun _=>rfl) us k hk 0 (by omega))).trans rfl)
 have h1:=hc _ _ (((flat_get (enc:=UW.enc) (k:=2) (fun _=>rfl) us k hk 1 (by omega))).trans rfl)
 have e:∀ j,(⟨g,0,none⟩:Addr).add j = ⟨g,j,none⟩:=fun j=>by unfold Addr.add; split <;> simp_all
 rw [e] at h0 h1
 exact ⟨h0,h1⟩
def maskT (mask:Int) (k:Nat):Bool:=bits BinOp.and IntKind.u64 (mask / 2 ^ (k % 64)) 1 == 1
def allT (_:Nat):Bool:=true
end Go.Proofs.Ytkolacaceaamoaa
/- The sectors' disk: Barrier, Crash, Limit, Down, Len on the disk as a whole. -/
namespace Go.Proofs.Ytkolacaceaamoaa
open Go.RowKit
section
variable {w:World} {F:Nat → Prop} {b:Nat} {out:Bool} {left size:Int} {S:Int → Cn} {L:List (Int × Cn)} {N:Nat}
def baE (out:Bool) (left:Int):Int:=if out then 15 else if burnO out left then 15 else 0
def baOut (out:Bool) (left:Int):Bool:=if out then true else burnO out left
def baLeft (out:Bool) (left:Int):Int:=if out then left else burnL left
def baS (out:Bool) (left:Int) (S:Int → Cn) (L:List (Int × Cn)):Int → Cn:=if baOut out left then S else lastS allT S L
def baL (out:Bool) (left:Int) (L:List (Int × Cn)):List (Int × Cn):=if baOut out left then L else []
theorem sec_down (h:Sec w F b out left size S L N):Calls Try.prog 38 #[.pointer (some ⟨b,0,none⟩)] w fun e w'=>e = .returned (.bool out) ∧ Below w.heap.size w w':=by
 obtain ⟨m,u,n,D,us,h⟩:=h
 exact down_any b out left size (some m) u w h.blk
set_option maxHeartbeats 1000000 in
theorem sec_len (h:Sec w F b out left size S L N):Calls Try.prog 37 #[.pointer (some ⟨b,0,none⟩)] w fun e w'=>e = .returned (.int .i64 size) ∧ Below w.heap.size w w':=by
 obtain ⟨m,u,n,D,us,h⟩:=h
 have kx:=h.blk.cell; have qx:=h.blk.frozen; have zx:=h.blk.lt
 unfold dk at kx
 clear h
 go_enter Try.func37,Try.ntmps37
 go_wp2_with fail
 go_ret
 exact ⟨rfl,by (repeat (first | exact Below.refl _ _ | refine Below.drew ?_ | refine Below.setCell ?_ (by simp; try omega) _ | refine bal ?_ _))⟩
theorem sec_new (n:Int) (w:World) (hn:1 ≤ n ∧ n ≤ 65536) :
  Calls Try.prog 19 #[.int .i64 n] w fun e w'=>e = .returned (.tuple #[.pointer (some ⟨w.heap.size + 1,0,none⟩),.int .i64 0]) ∧ Sec w' (fun j=>w.heap.size ≤ j ∧ j < w'.heap.size) (w.heap.size + 1) false 0 n (fun _=>zC) [] 0 ∧ Below w.heap.size w w':=by
 refine (new_any n w hn).mono ?_
 rintro e w' ⟨rfl,hm,hb,hw⟩
 have h1:=hb.lt
 refine ⟨rfl,⟨w.heap.size,.slice none 0 0,0,.map [],[],{ blk:=hb,fb:=⟨by omega,h1⟩,fm:=⟨Nat.le_refl _,by omega⟩,map:=hm,row:=⟨rfl,.inl ⟨rfl,rfl⟩⟩,fu:=fun g hg=>by simp [Value.ownBlock] at hg,fil:=fun x hx=>by simp at hx,hL:=rfl,sure:=fun k _ _=>⟨fun hh=>by simp [Maps.has] at hh,fun _=>rfl⟩,hn:=Nat.le_refl _,hN:=by omega,hs:=hn,hl:=by omega,flt:=fun j hj=>hj.2,dom:=fun k hh=>by simp [Maps.has] at hh }⟩,hw⟩
end
end Go.Proofs.Ytkolacaceaamoaa
