/- Scan: what it calls of each item. -/
import Derived.Test.YtkolacaceaamoaaKSe
import Derived.Test.YtkolacaceaamoaaKSf
set_option linter.unusedSimpArgs false
set_option linter.unusedVariables false
namespace Go.Proofs.Ytkolacaceaamoaa
open Go.RowKit
open Go.Lib (compareBytes)
abbrev TBs:TypeId:=38
/-- Scan's memory: what it reads, and what it has found. -/
structure ScW (w:World) (c:Pct) (tb b8 b9 b13 B0:Nat) (m:Pst) (vto:Value) (te:Cn) (most:Int) (vo:Value) (o:List It):Prop where
 pg:PgS w c m
 tr:Blk w tb TTr #[.pointer (some ⟨c.pb,0,none⟩)]
 k8:Blk w b8 TBs #[vto]
 k9:Blk w b9 TI64 #[.int .i64 most]
 k13:Blk w b13 TIts #[vo]
 row:∃ xs,w.ownsRow B0 TIt 2 vo o.length xs ∧ LR (ItR w (Sf w c b13 vo m)) o xs
 n13:¬ PF m.F c.pb c.sb b13
 nt:¬ MT c b13 vo m tb
 n8:¬ MT c b13 vo m b8
 n9:¬ MT c b13 vo m b9
 nv:∀ g,vo.ownBlock = some g → ¬ PF m.F c.pb c.sb g
 te_:BS w (Sf w c b13 vo m) vto te
section
variable {w w' w2 w3:World} {c:Pct} {tb b8 b9 b13 B0:Nat} {m:Pst} {vto vo vo':Value} {te:Cn} {most:Int} {o:List It}
theorem ScW.lt (h:ScW w c tb b8 b9 b13 B0 m vto te most vo o) {j:Nat} (hj:MT c b13 vo m j):j < w.heap.size:=by
 obtain ⟨xs,h1,_⟩:=h.row
 rcases hj with hj | rfl | hj
 ·exact PF.lt h.pg hj
 ·exact h.k13.lt
 ·exact (h1.lt j hj).2
theorem ScW.fresh (h:ScW w c tb b8 b9 b13 B0 m vto te most vo o) {j:Nat} (h1:w.heap.size ≤ j) (h2:j < w'.heap.size):Sf w' c b13 vo m j:=⟨h2,fun hm=>by have:=h.lt hm; omega⟩
theorem ScW.full (h:ScW w c tb b8 b9 b13 B0 m vto te most vo o) (hp:PgS w' c m) (hf:Fr (PF m.F c.pb c.sb) w w'):ScW w' c tb b8 b9 b13 B0 m vto te most vo o ∧ MkS w c b13 vo m w' vo m:=by
 have hs:MkS w c b13 vo m w' vo m:=⟨hf.up (fun j hj=>.inl hj),fun j hj=>.inl hj⟩
 obtain ⟨xs,h1,h2⟩:=h.row
 exact ⟨⟨hp,hf.blk h.tr (fun e=>h.nt (.inl e)),hf.blk h.k8 (fun e=>h.n8 (.inl e)),hf.blk h.k9 (fun e=>h.n9 (.inl e)),hf.blk h.k13 h.n13,
  ⟨xs,row_keep h1 (fun j hj=>hf.block j (h1.lt j hj).2 (h.nv j hj)),LR.mono (fun a cs=>ItR.keep (fun j hj _=>hs.heap hj) (fun j hj _=>hs.sf hj) a cs) _ _ h2⟩,h.n13,h.nt,h.n8,h.n9,h.nv,h.te_.keep (fun j hj _=>hs.heap hj) (fun j hj _=>hs.sf hj)⟩,hs⟩
theorem ScW.below (h:ScW w c tb b8 b9 b13 B0 m vto te most vo o) (hb:Below w.heap.size w w'):ScW w' c tb b8 b9 b13 B0 m vto te most vo o:=(h.full (Pg.below h.pg hb) (Fr.low hb)).1
/-- One item more. -/
theorem ScW.grow {xs ys:List Value} {x:It} (h:ScW w c tb b8 b9 b13 B0 m vto te most vo o) (hB:B0 ≤ w.heap.size) (hb:Below w.heap.size w w2) (hxs:w.ownsRow B0 TIt 2 vo o.length xs ∧ LR (ItR w (Sf w c b13 vo m)) o xs) (hx:ItR w2 (Sf w2 c b13 vo m) x ys)
  (ho:w3.ownsRow B0 TIt 2 vo' (o.length + 1) (xs ++ ys)) (hg:w2.grownBy w3 vo.ownBlock) (hoo:vo'.ownBlock = vo.ownBlock ∨ vo'.ownBlock = some w2.heap.size) :
  ScW (w3.setCell ⟨b13,0,none⟩ vo') c tb b8 b9 b13 B0 m vto te most vo' (o ++ [x]) ∧ MkS w c b13 vo m (w3.setCell ⟨b13,0,none⟩ vo') vo' m:=by
 have h2:=h.below hb
 have hov:∀ k,vo.ownBlock = some k → k < w.heap.size:=fun k hk=>(hxs.1.lt k hk).2
 have hne:vo.ownBlock ≠ some b13:=own_blk_ne hxs.1 h.k13 (by decide)
 have hf1:Fr (fun j=>vo.ownBlock = some j ∨ j = b13) w2 (w3.setCell ⟨b13,0,none⟩ vo'):=
  ⟨hg.os,hg.tape,hg.output,by simpa using hg.size,fun j hj hn=>(Below.heap_setCell _ ⟨b13,0,none⟩ _ _ (fun e=>hn (.inr e))).trans (hg.block j hj (fun e=>hn (.inl e.symm)))⟩
 have hk13:Blk w3 b13 TIts #[vo]:=h2.k13.grown hg (fun e=>hne e.symm)
 have hn13:vo'.ownBlock ≠ some b13:=own_blk_ne ho hk13 (by decide)
 have hsz:w.heap.size ≤ w2.heap.size:=hb.size
 have hnew:∀ j,MT c b13 vo' m j → MT c b13 vo m j ∨ w2.heap.size ≤ j:=fun j hj=>by
  rcases hj with hj | hj | hj
  ·exact .inl (.inl hj)
  ·exact .inl (.inr (.inl hj))
  ·rcases hoo with e | e
   ·exact .inl (.inr (.inr (e ▸ hj)))
   ·rw [e] at hj; injection hj with hj; exact .inr (by omega)
 have hs:MkS w c b13 vo m (w3.setCell ⟨b13,0,none⟩ vo') vo' m:=⟨(Fr.low hb).trans hf1 (fun j hj e=>by rcases e with e | e; exact .inr (.inr e); exact .inr (.inl e)),fun j hj=>(hnew j hj).imp id (fun q=>by omega)⟩
 have hs2:MkS w2 c b13 vo m (w3.setCell ⟨b13,0,none⟩ vo') vo' m:=⟨hf1.up (fun j e=>by rcases e with e | e; exact .inr (.inr e); exact .inr (.inl e)),hnew⟩
 have hpf:∀ j,PF m.F c.pb c.sb j → ¬ (vo.ownBlock = some j ∨ j = b13):=fun j hj e=>by
  rcases e with e | rfl
  ·exact h.nv j e hj
  ·exact h.n13 hj
 have hblk:∀ {b:Nat} {t:TypeId} {cs:Array Value},Blk w b t cs → ¬ MT c b13 vo m b → Blk (w3.setCell ⟨b13,0,none⟩ vo') b t cs ∧ ¬ MT c b13 vo' m b:=fun hbl hn=>⟨(hs.fr.block _ hbl.lt hn).trans hbl,fun hm=>(hs.new _ hm).elim hn (fun q=>by have:=hbl.lt; omega)⟩
 refine ⟨⟨Pg.keepF h2.pg hf1 hpf,(hblk h.tr h.nt).1,(hblk h.k8 h.n8).1,(hblk h.k9 h.n9).1,?_,⟨xs ++ ys,?_,?_⟩,h.n13,(hblk h.tr h.nt).2,(hblk h.k8 h.n8).2,(hblk h.k9 h.n9).2,fun g hg'=>?_,h.te_.keep (fun j hj _=>hs.heap hj) (fun j hj _=>hs.sf hj)⟩,hs⟩
 ·have:=hk13.set_ 0 vo'
  simpa using this
 ·rw [List.length_append,List.length_singleton]
  exact row_keep ho (fun j hj=>Below.heap_setCell _ ⟨b13,0,none⟩ _ _ (fun e=>hn13 (by rw [hj]; exact congrArg some e)))
 ·exact LR.app (LR.one (hx.keep (fun j hj _=>hs2.heap hj) (fun j hj _=>hs2.sf hj))) _ _ (LR.mono (fun a cs=>ItR.keep (fun j hj _=>hs.heap hj) (fun j hj _=>hs.sf hj) a cs) _ _ hxs.2)
 ·rcases hoo with e | e
  ·exact h.nv g (e ▸ hg')
  ·rw [e] at hg'
   injection hg' with hg'
   intro hp
   have:=PF.lt h.pg hp
   omega
end
def stopB (te:Cn) (most:Int) (n:Nat) (x:It):Bool:=decide (most ≤ (n:Int)) || (decide (0 < te.length) && decide (0 ≤ compareBytes x.k te))
/-- One item is offered. -/
def ScR (w:World) (c:Pct) (tb b8 b9 b13 B0:Nat) (m:Pst) (vto:Value) (te:Cn) (most:Int) (vo:Value) (o':List It) (w':World):Prop:=∃ vo',ScW w' c tb b8 b9 b13 B0 m vto te most vo' o' ∧ MkS w c b13 vo m w' vo' m
set_option maxRecDepth 100000 in
set_option maxHeartbeats 4000000 in
theorem scan1_any {w:World} {c:Pct} {tb b8 b9 b13 B0:Nat} {m:Pst} {vto vo:Value} {te:Cn} {most:Int} {o:List It} {x:It} {a b:Value} (h:ScW w c tb b8 b9 b13 B0 m vto te most vo o) (hB:B0 ≤ w.heap.size) (hx:ItR w (Sf w c b13 vo m) x [a,b]) (hn:o.length ≤ 1000000) :
  Calls Try.prog 25 #[.agg #[a,b],.pointer (some ⟨b13,0,none⟩),.pointer (some ⟨b9,0,none⟩),.pointer (some ⟨b8,0,none⟩)] w fun e w'=>e = .returned (.bool (!stopB te most o.length x)) ∧ ScR w c tb b8 b9 b13 B0 m vto te most vo (if stopB te most o.length x then o else o ++ [x]) w':=by
 obtain ⟨i0,hi0,hz0,hz1,hz2⟩:=tit_inf
 have HI0:=hide hi0
 have HZ0:=hide hz0
 obtain ⟨xs,hxo,hxl⟩:=h.row
 obtain ⟨Ao,co,rfl,hco⟩:=own_slice hxo
 obtain ⟨a',b',ex,hk,hv⟩:=hx
 obtain ⟨rfl,e2⟩:=List.cons.inj ex
 obtain ⟨rfl,-⟩:=List.cons.inj e2
 have HX:=hide (show ItR w (Sf w c b13 (.slice Ao o.length co) m) x [a,b] from ⟨a,b,rfl,hk,hv⟩)
 have HK:=hide hk
 have HV:=hide hv
 obtain ⟨Ak,ck,rfl,_,_⟩:=hk
 obtain ⟨Av,cv',rfl,_,_⟩:=hv
 have HT:=hide h.te_
 obtain ⟨At,ct,rfl,_,_⟩:=h.te_
 obtain ⟨ol,hol⟩:∃ q,o.length = q:=⟨_,rfl⟩
 obtain ⟨tl,htl⟩:∃ q,te.length = q:=⟨_,rfl⟩
 obtain ⟨kl,hkl⟩:∃ q,x.k.length = q:=⟨_,rfl⟩
 obtain ⟨vl,hvl⟩:∃ q,x.v.length = q:=⟨_,rfl⟩
 have HSC:=hide h
 have HXO:=hide hxo
 have HXL:=hide hxl
 have HBB:=hide hB
 have HOL:=hide hol
 obtain ⟨w1,hw1⟩:∃ y,w.alloc (.cells #[.slice Ak kl ck,.slice Av vl cv'] TIt) = y:=⟨_,rfl⟩
 have HB1:=hide (show Below w.heap.size w w1 from hw1 ▸ al_below w _)
 have hbx:Blk w1 w.heap.size TIt #[.slice Ak kl ck,.slice Av vl cv']:=hw1 ▸ Blk.new _ _ _
 have h1:=h.below HB1.out
 have HS1:=hide h1
 have HK1:=hide (HK.out.all.later HB1.out)
 have HT1:=hide h1.te_.all
 rw [htl] at HT1
 rw [hkl] at HK1
 have hk8:=h1.k8; have hk9:=h1.k9; have hk13:=h1.k13
 rw [htl] at hk8
 rw [hol] at hk13
 have c8:=hk8.cell; have z8:=hk8.lt; have c9:=hk9.cell; have z9:=hk9.lt; have c13:=hk13.cell; have z13:=hk13.lt; have f13:=hk13.frozen
 have cx:=hbx.cell; have zx:=hbx.lt
 rw [show stopB te most o.length x = (decide (most ≤ (ol:Int)) || (decide (0 < tl) && decide (0 ≤ compareBytes x.k te))) by unfold stopB; rw [hol,htl]]
 rw [hol] at hn
 rw [hkl,hvl,hol,htl]
 have HW1:=hide hw1
 have HBX:=hide hbx
 have HXE:=hide (And.intro hkl (And.intro hvl htl))
 clear h hxo hxl hi0 hz0 h1 hk8 hk9 hk13 hbx hw1 hol htl hkl hvl ex e2 hco hB
 obtain ⟨cv,hcv⟩:∃ cv,compareBytes x.k te = cv:=⟨_,rfl⟩
 rw [hcv]
 have HCA:=hide (compare_bs HK1.out HT1.out)
 rw [hcv] at HCA
 clear hcv
 obtain ⟨sb,hsb⟩:∃ sb,(decide (most ≤ (ol:Int)) || (decide (0 < tl) && decide (0 ≤ cv))) = sb:=⟨_,rfl⟩
 rw [hsb]
 cases sb with
 | true=>
  simp only [Bool.not_true,if_true]
  have HFIN:=hide (show ScR w c tb b8 b9 b13 B0 m (.slice At tl ct) te most (.slice Ao ol co) o w1 from ⟨_,HOL.out ▸ HXE.out.2.2 ▸ HS1.out,MkS.low HB1.out⟩)
  rw [Bool.or_eq_true,Bool.and_eq_true,decide_eq_true_eq,decide_eq_true_eq,decide_eq_true_eq] at hsb
  by_cases h1:most ≤ (ol:Int)
  ·clear hsb
   go_enter Try.func25,Try.ntmps25
   go_upto_region 1 with fail
   rw [HW1.out]
   go_wp2_with fail
   go_ret
   exact ⟨rfl,HFIN.out⟩
  ·obtain ⟨h2,h3⟩:=hsb.resolve_left h1
   clear hsb
   have d1:decide (most ≤ (ol:Int)) = false:=by simpa using h1
   have d2:decide ((0:Int) < (tl:Int)) = true:=by simp; omega
   have d3:decide (0 ≤ cv) = true:=by simpa using h3
   go_enter Try.func25,Try.ntmps25
   go_upto_region 1 with fail
   rw [HW1.out]
   go_wp2_with (go_at_call 26; (refine HCA.out.mono ?_); rintro e w3 ⟨rfl,e2⟩; rw [e2]; clear e2)
   go_ret
   exact ⟨rfl,HFIN.out⟩
 | false=>
  simp only [Bool.not_false,Bool.false_eq_true,if_false]
  rw [Bool.or_eq_false_iff,Bool.and_eq_false_iff,decide_eq_false_iff_not,decide_eq_false_iff_not,decide_eq_false_iff_not] at hsb
  obtain ⟨h1,h23⟩:=hsb
  have d1:decide (most ≤ (ol:Int)) = false:=by simpa using h1
  obtain ⟨w2,hw2⟩:∃ y,w1.alloc (.cells #[.slice Ak kl ck,.slice Av vl cv'] TIt) = y:=⟨_,rfl⟩
  have HB2:=hide (show Below w1.heap.size w1 w2 from hw2 ▸ al_below w1 _)
  have HN2:=hide (show Blk w2 w1.heap.size TIt #[.slice Ak kl ck,.slice Av vl cv'] from hw2 ▸ Blk.new _ _ _)
  have HW2:=hide hw2
  have HB12:=hide (show Below w.heap.size w w2 from HB1.out.trans (HB2.out.mono HB1.out.size))
  have h131:=(HS1.out.k13.below HB2.out HS1.out.k13.lt)
  rw [HOL.out] at h131
  have q13:=h131.cell; have y13:=h131.lt; have g13:=h131.frozen
  have HXI:=hide (show ItR w2 (Sf w2 c b13 (.slice Ao o.length co) m) x [.slice Ak kl ck,.slice Av vl cv'] from by
   rw [← HXE.out.1,← HXE.out.2.1]
   exact HX.out.keep (fun j hj hlt=>HB12.out.block j hlt) (fun j hj hlt=>(MkS.low HB12.out).sf hj))
  have HXO1:=hide (show w.ownsRow B0 TIt 2 (.slice Ao ol co) ol xs from HOL.out ▸ HXO.out)
  have HFIN:=hide (fun (v':Value) (w3:World) (ho:w3.ownsRow B0 TIt 2 v' (ol + 1) (xs ++ [.slice Ak kl ck,.slice Av vl cv'])) (hg:w2.grownBy w3 (Value.slice Ao ol co).ownBlock) (hoo:v'.ownBlock = (Value.slice Ao ol co).ownBlock ∨ v'.ownBlock = some w2.heap.size)=>(show ScR w c tb b8 b9 b13 B0 m (.slice At tl ct) te most (.slice Ao ol co) (o ++ [x]) (w3.setCell ⟨b13,0,none⟩ v') from by
   rw [← HXE.out.2.2]
   have:=ScW.grow HSC.out HBB.out HB12.out ⟨HXO.out,HXL.out⟩ HXI.out (by rw [HOL.out]; exact ho) (by rw [HOL.out]; exact hg) (by rw [HOL.out]; exact hoo)
   rw [HOL.out] at this
   exact ⟨v',this.1,this.2⟩))
  clear hw2
  by_cases h2:0 < tl
  ·have d2:decide ((0:Int) < (tl:Int)) = true:=by simp; omega
   have d3:decide (0 ≤ cv) = false:=by
    rcases h23 with h | h
    ·exact absurd h2 h
    ·simpa using h
   go_enter Try.func25,Try.ntmps25
   go_upto_region 1 with fail
   rw [HW1.out]
   go_wp2_with (first | (go_at_call 26; (refine HCA.out.mono ?_); rintro e w3 ⟨rfl,e2⟩; rw [e2]; clear e2) | (at_builtin; (rw [HW2.out]); refine wpList_append_any _ rfl (.tmp 22) (.tmp 24) 32 rfl B0 TIt i0 _ 2 48 Try.underlying32 HI0.out HZ0.out hz1 hz2 rfl (by omega) (.slice Ao ol co) ol xs rfl (own_later HXO1.out HB12.out) _ (some ⟨w1.heap.size,0,none⟩) 1 1 [.slice Ak kl ck,.slice Av vl cv'] rfl (reads_blk HN2.out rfl rfl) (by intro u hu; simp at hu; rcases hu with rfl | rfl <;> rfl) (by unfold maxLen; omega) (by omega) (Nat.le_trans HBB.out HB12.out.size) ?_; intro v' w3 ho hgb hoo; (obtain ⟨A6,c6,rfl,hc6⟩:=own_slice ho); have hk13:=h131.grown hgb (fun e=>own_blk_ne (own_later HXO1.out HB12.out) h131 (by decide) e.symm); have r13:=hk13.cell; have s13:=hk13.lt; have t13:=hk13.frozen; have HF3:=hide (HFIN.out _ w3 ho hgb hoo); clear ho hgb hoo hk13))
   go_ret
   exact ⟨rfl,HF3.out⟩
  ·have d2:decide ((0:Int) < (tl:Int)) = false:=by simp; omega
   go_enter Try.func25,Try.ntmps25
   go_upto_region 1 with fail
   rw [HW1.out]
   go_wp2_with (first | (go_at_call 26; (refine HCA.out.mono ?_); rintro e w3 ⟨rfl,e2⟩; rw [e2]; clear e2) | (at_builtin; (rw [HW2.out]); refine wpList_append_any _ rfl (.tmp 22) (.tmp 24) 32 rfl B0 TIt i0 _ 2 48 Try.underlying32 HI0.out HZ0.out hz1 hz2 rfl (by omega) (.slice Ao ol co) ol xs rfl (own_later HXO1.out HB12.out) _ (some ⟨w1.heap.size,0,none⟩) 1 1 [.slice Ak kl ck,.slice Av vl cv'] rfl (reads_blk HN2.out rfl rfl) (by intro u hu; simp at hu; rcases hu with rfl | rfl <;> rfl) (by unfold maxLen; omega) (by omega) (Nat.le_trans HBB.out HB12.out.size) ?_; intro v' w3 ho hgb hoo; (obtain ⟨A6,c6,rfl,hc6⟩:=own_slice ho); have hk13:=h131.grown hgb (fun e=>own_blk_ne (own_later HXO1.out HB12.out) h131 (by decide) e.symm); have r13:=hk13.cell; have s13:=hk13.lt; have t13:=hk13.frozen; have HF3:=hide (HFIN.out _ w3 ho hgb hoo); clear ho hgb hoo hk13))
   go_ret
   exact ⟨rfl,HF3.out⟩
end Go.Proofs.Ytkolacaceaamoaa
/- Scan: through a tree. -/
namespace Go.Proofs.Ytkolacaceaamoaa
open Go.RowKit
open Go.Lib (compareBytes)
/-- What scan finds; false: it is told te stop. -/
def goL (fr te:Cn) (most:Int):List It → List It → Bool × List It
 | o,[]=>(true,o)
 | o,x :: r=>if 0 ≤ compareBytes x.k fr then (if stopB te most o.length x then (false,o) else goL fr te most (o ++ [x]) r) else goL fr te most o r
section
variable {fr te:Cn} {most:Int}
theorem goL_app:∀ (a b o:List It),goL fr te most o (a ++ b) = if (goL fr te most o a).1 then goL fr te most (goL fr te most o a).2 b else goL fr te most o a
 | [],b,o=>by simp [goL]
 | x :: a,b,o=>by
  rw [List.cons_append,goL,goL]
  split
  ·split
   ·simp
   ·exact goL_app a b _
  ·exact goL_app a b _
theorem goL_len:∀ (a o:List It),(goL fr te most o a).2.length ≤ o.length + a.length
 | [],o=>by simp [goL]
 | x :: a,o=>by
  rw [goL]
  split
  ·split
   ·simp
   ·have:=goL_len a (o ++ [x])
    rw [List.length_append,List.length_singleton] at this
    rw [List.length_cons]
    omega
  ·have:=goL_len a o
   rw [List.length_cons]
   omega
theorem goL_skip:∀ (a o:List It),(∀ x ∈ a,compareBytes x.k fr < 0) → goL fr te most o a = (true,o)
 | [],o,_=>rfl
 | x :: a,o,h=>by
  rw [goL,if_neg (by have:=h x List.mem_cons_self; omega)]
  exact goL_skip a o (fun y hy=>h y (List.mem_cons_of_mem _ hy))
theorem goL_kids {ks:List KI} (hr:RiseI (ks.flatMap Prod.snd)) (hh:∀ x ∈ ks,∃ i r,x.2 = i :: r ∧ i.k = x.1.k) {k:Nat} (hd:DownAt ((ks.map Prod.fst).map Kd.k) fr k) (hk:k < ks.length) (o:List It):goL fr te most o (ks.flatMap Prod.snd) = goL fr te most o ((ks.drop k).flatMap Prod.snd):=by
 have hs:goL fr te most o ((ks.take k).flatMap Prod.snd) = (true,o):=by
  refine goL_skip _ _ fun x hx=>?_
  obtain ⟨z,hz,hxz⟩:=List.mem_flatMap.1 hx
  obtain ⟨i,hi,rfl⟩:=List.getElem_of_mem hz
  rw [List.length_take] at hi
  rw [List.getElem_take] at hxz
  have h1:=kids_out hr hh (show i < k by omega) hk x hxz
  have h2:0 ≤ compareBytes fr ks[k].1.k:=by
   obtain ⟨k0,f,hf,e⟩:=hd
   have hat:∀ (i:Nat) (hi:i < ks.length),cmpK ((ks.map Prod.fst).map Kd.k) fr i = compareBytes ks[i].1.k fr:=fun i hi=>by
    unfold cmpK
    simp [List.getD,hi]
   have h3:compareBytes ks[k].1.k fr ≤ 0:=by
    rw [← hat k hk]
    cases f with
    | true=>
     simp at e
     have h4:=hf.2.2.2.symm
     simp only [decide_eq_true_eq] at h4
     rw [e,h4.2]
     exact Int.le_refl 0
    | false=>
     simp at e
     have:=hf.2.1 (by omega)
     rw [e]
     omega
   rw [cb_swap]
   omega
  exact cb_lt_le h1 h2
 conv=>lhs; rw [← List.take_append_drop k ks]
 rw [List.flatMap_append,goL_app,hs]
 simp
end
abbrev sclo (b8 b9 b13:Nat):Value:=.func (.func 25) #[] #[.pointer (some ⟨b13,0,none⟩),.pointer (some ⟨b9,0,none⟩),.pointer (some ⟨b8,0,none⟩)]
set_option maxRecDepth 100000 in
set_option maxHeartbeats 4000000 in
theorem scan_leaf {w:World} {c:Pct} {tb b8 b9 b13 B0 p:Nat} {m:Pst} {vto vo vf:Value} {te fr:Cn} {most deep:Int} {o is:List It} (hs:ScW w c tb b8 b9 b13 B0 m vto te most vo o) (hB:B0 ≤ w.heap.size) (hf:BS w (Sf w c b13 vo m) vf fr) (hn:o.length ≤ 500000)
  (hpg:pgB c.n (p:Int) = true) (h0:is ≠ []) (hok:∀ i ∈ is,itOk i) (hsz:(ndB is []).length ≤ 505) (hc:m.C c p = sealC 2 (ndB is [])) (hd:deep ≤ 32) :
  Calls Try.prog 24 #[.pointer (some ⟨tb,0,none⟩),.int .i64 (p:Int),.int .i64 deep,vf,sclo b8 b9 b13] w fun e w'=>e = .returned (.tuple #[.bool (goL fr te most o is).1,.int .i64 0]) ∧ ScR w c tb b8 b9 b13 B0 m vto te most vo (goL fr te most o is).2 w':=by
 have hp2:2 ≤ p:=by unfold pgB at hpg; simp at hpg; omega
 have dp0:((p:Int) == 0) = false:=by simp; omega
 have HRD:=hide (read_leaf hs.pg hs.tr (p:Int) hpg is h0 hok hsz hc)
 have HS:=hide hs
 have HF:=hide hf
 have HBB:=hide hB
 have hil:is.length ≤ 505:=(ndOk.few (nd:=(is,[])) ⟨.inl ⟨h0,rfl⟩,hok,fun k hk=>(by cases hk),hsz⟩).1
 obtain ⟨Af,cf,rfl,_,_⟩:=hf
 obtain ⟨fl,hfl⟩:∃ q,fr.length = q:=⟨_,rfl⟩
 have HFL:=hide hfl
 rw [hfl]
 clear hs hB hpg h0 hok hsz hc hfl
 go_enter Try.func24,Try.ntmps24
 go_upto_region 4 with (go_at_call 27; (refine HRD.out.mono ?_); rintro e w1 ⟨⟨g,rfl,hnd⟩,hp,hfr⟩; have HR:=hide (And.intro hnd (And.intro hp hfr)); clear hnd hp hfr)
 obtain ⟨hs1,hm1⟩:=HS.out.full HR.out.2.1 HR.out.2.2
 have HS1:=hide hs1
 have HM1:=hide hm1
 have HN1:=hide (HR.out.1.keep (F':=Sf w1 c b13 vo m) (fun _ _ _=>rfl) (fun j hj hlt=>HS.out.fresh hj hlt))
 obtain ⟨vi,vk,hb,_,hi1,hk1⟩:=HN1.out
 obtain ⟨Ai,ci,xi,rfl,_⟩:=hi1
 obtain ⟨Ak,ck,xk,rfl,_⟩:=hk1
 obtain ⟨li,hli⟩:∃ x,is.length = x:=⟨_,rfl⟩
 have HLI:=hide hli
 rw [hli] at hb hil
 have HI1:=hide (show SLk 2 ItR w1 (Sf w1 c b13 vo m) (.slice Ai li ci) is from by
  obtain ⟨vi',vk',hb',_,hi',_⟩:=HN1.out
  have:=blk_same hb hb'
  have e:vi' = .slice Ai li ci:=by
   have:=congrArg (fun x:Array Value=>x[0]?) this
   simpa using this.symm
  rw [← e]
  exact hi')
 have kn:=hb.cell; have zn:=hb.lt
 clear hs1 hm1 hb hli
 have HST0:=hide (show ∃ vo',(goL fr te most o (is.take 0)).1 = true ∧ ScW w1 c tb b8 b9 b13 B0 m vto te most vo' (goL fr te most o (is.take 0)).2 ∧ MkS w1 c b13 vo m w1 vo' m from ⟨vo,rfl,HS1.out,MkS.refl _ _ _ _ _⟩)
 go_wp2_with fail
 go_loopw [10,11,40] (fun v10 v11 v40 wr=>∃ j:Nat,v10 = .bool false ∧ v11 = .int .i64 0 ∧ v40 = .int .i64 (j:Int) ∧ j ≤ li ∧ Hid (∃ vo',(goL fr te most o (is.take j)).1 = true ∧ ScW wr c tb b8 b9 b13 B0 m vto te most vo' (goL fr te most o (is.take j)).2 ∧ MkS w1 c b13 vo m wr vo' m)) (fun _ _ v40 _=>li - (intOf v40).toNat)
 case atStart=>exact ⟨0,rfl,rfl,by go_num,by omega,HST0⟩
 case round=>
  clear HST0 kn
  obtain ⟨j,rfl,rfl,rfl,hj,HST⟩:=hrel
  obtain ⟨vo',hg1,hsc,hms⟩:=HST.out
  by_cases hlt:j < li
  ·have hjj:j < is.length:=by rw [HLI.out]; exact hlt
   obtain ⟨b,ob,A1,c1,A2,c2,rfl,zb,-,k0,k1,hir⟩:=(hms.slk @ItR.keep (by omega) HI1.out).at_it hjj
   have hTK:=take_next hjj
   obtain ⟨x,hx⟩:∃ x,is[j] = x:=⟨_,rfl⟩
   rw [hx] at k0 k1 hir hTK
   have HTK:=hide hTK
   obtain ⟨kl,hkl⟩:∃ q,x.k.length = q:=⟨_,rfl⟩
   obtain ⟨vl,hvl⟩:∃ q,x.v.length = q:=⟨_,rfl⟩
   rw [hkl,hvl] at hir
   rw [hkl] at k0
   rw [hvl] at k1
   obtain ⟨o',ho'⟩:∃ q,(goL fr te most o (is.take j)).2 = q:=⟨_,rfl⟩
   rw [ho'] at hsc
   have hol:o'.length ≤ 1000000:=by
    have:=goL_len (fr:=fr) (te:=te) (most:=most) (is.take j) o
    rw [ho',List.length_take] at this
    omega
   have HSN:=hide (show goL fr te most o (is.take (j + 1)) = goL fr te most o' [x] from by rw [HTK.out,goL_app,if_pos hg1,ho'])
   obtain ⟨w2,hw2⟩:∃ w2,wr.alloc (.cells #[.slice A1 kl c1,.slice A2 vl c2] TIt) = w2:=⟨_,rfl⟩
   have HB2:=hide (show Below wr.heap.size wr w2 from hw2 ▸ al_below wr _)
   have hbx:Blk w2 wr.heap.size TIt #[.slice A1 kl c1,.slice A2 vl c2]:=hw2 ▸ Blk.new _ _ _
   have cx:=hbx.cell; have zx:=hbx.lt
   have HSC2:=hide (hsc.below HB2.out)
   have HIR2:=hide (hir.keep (F':=Sf w2 c b13 vo' m) (fun j hj hlt=>HB2.out.block j hlt) (fun j hj hlt=>(MkS.low HB2.out).sf hj))
   have HMS2:=hide (HM1.out.trans (hms.trans (MkS.low HB2.out)))
   have hkb:BSw w2 (.slice A1 kl c1) x.k:=by
    obtain ⟨a1,b1,e1,e2,_⟩:=HIR2.out
    obtain ⟨rfl,-⟩:=List.cons.inj e1
    exact e2.all
   have HKB:=hide hkb
   have HF2:=hide (show BSw w2 (.slice Af fl cf) fr from by
    have:=HF.out.keep (F':=Sf w2 c b13 vo' m) (fun j hj _=>HMS2.out.heap hj) (fun j hj _=>HMS2.out.sf hj)
    rw [HFL.out] at this
    exact this.all)
   have hB2:B0 ≤ w2.heap.size:=Nat.le_trans HBB.out HMS2.out.fr.size
   have HS1C:=hide (scan1_any HSC2.out hB2 HIR2.out hol)
   obtain ⟨cv,hcv⟩:∃ cv,compareBytes x.k fr = cv:=⟨_,rfl⟩
   have HCV:=hide hcv
   have HCA:=hide (compare_bs HKB.out HF2.out)
   rw [hcv] at HCA
   have HW2:=hide hw2
   have HG1:=hide (And.intro hg1 (And.intro ho' hms))
   clear hjj hsc hms hir hTK hw2 hbx hkb hcv hg1 ho' HST hx hkl hvl
   go_upto_region 9 with fail
   rw [HW2.out]
   by_cases hc:0 ≤ cv
   ·by_cases hst:stopB te most o'.length x = true
    ·rw [hst] at HS1C
     have HE:=hide (show goL fr te most o is = (false,o') from by
      have h1:goL fr te most o (is.take (j + 1)) = (false,o'):=by rw [HSN.out,goL,if_pos (by rw [HCV.out]; exact hc),if_pos hst]
      conv=>lhs; rw [← List.take_append_drop (j + 1) is]
      rw [goL_app,h1]
      simp)
     clear hst
     go_wp2_with (first | (go_at_call 26; (refine HCA.out.mono ?_); rintro e w3 ⟨rfl,e2⟩; rw [e2]; clear e2) | (go_at_call 25; (refine HS1C.out.mono ?_); rintro e w3 ⟨rfl,hr⟩; have HR3:=hide hr; clear hr))
     refine bodyPost_ret (v:=.tuple #[.bool false,.int .i64 0]) (by simp (maxDischargeDepth:=9) [results,Try.results24,go_sem]; done) rfl ?_
     rw [HE.out]
     obtain ⟨vo3,h1,h2⟩:=HR3.out
     exact ⟨rfl,vo3,h1,HMS2.out.trans h2⟩
    ·have hst':stopB te most o'.length x = false:=by simpa using hst
     rw [hst'] at HS1C
     have HE:=hide (show goL fr te most o (is.take (j + 1)) = (true,o' ++ [x]) from by rw [HSN.out,goL,if_pos (by rw [HCV.out]; exact hc),if_neg hst,goL])
     clear hst hst'
     go_wp2_with (first | (go_at_call 26; (refine HCA.out.mono ?_); rintro e w3 ⟨rfl,e2⟩; rw [e2]; clear e2) | (go_at_call 25; (refine HS1C.out.mono ?_); rintro e w3 ⟨rfl,hr⟩; have HR3:=hide hr; clear hr))
     refine ⟨⟨j + 1,rfl,rfl,by push_cast; rfl,by omega,hide ?_⟩,?_⟩
     ·obtain ⟨vo3,h1,h2⟩:=HR3.out
      rw [HE.out]
      exact ⟨vo3,rfl,h1,HG1.out.2.2.trans ((MkS.low HB2.out).trans h2)⟩
     ·simp [intOf]
      omega
   ·have HE:=hide (show goL fr te most o (is.take (j + 1)) = (true,o') from by rw [HSN.out,goL,if_neg (by rw [HCV.out]; exact hc),goL])
    go_wp2_with (go_at_call 26; (refine HCA.out.mono ?_); rintro e w3 ⟨rfl,e2⟩; rw [e2]; clear e2)
    refine ⟨⟨j + 1,rfl,rfl,by push_cast; rfl,by omega,hide ?_⟩,?_⟩
    ·rw [HE.out]
     exact ⟨vo',rfl,HSC2.out,HG1.out.2.2.trans (MkS.low HB2.out)⟩
    ·simp [intOf]
     omega
  ·obtain rfl:li = j:=by omega
   rw [← HLI.out,List.take_length] at hg1 hsc
   have HSC:=hide hsc
   have HMS:=hide hms
   have HG1:=hide hg1
   have HLF:=hide (leaf_any ((HN1.out.keep (fun j hj _=>hms.heap hj) (fun j hj _=>hms.sf hj)).keep (F':=fun j=>j < wr.heap.size) (fun _ _ _=>rfl) (fun j hj _=>hj.1)))
   clear hg1 hsc hms HST
   go_wp2_with (go_at_call 28; (refine HLF.out.mono ?_); rintro e w2 ⟨rfl,e2⟩; rw [e2]; clear e2)
   refine bodyPost_ret (v:=.tuple #[.bool true,.int .i64 0]) (by simp (maxDischargeDepth:=9) [results,Try.results24,go_sem]; done) rfl ?_
   rw [HG1.out]
   exact ⟨rfl,vo',HSC.out,HM1.out.trans HMS.out⟩
end Go.Proofs.Ytkolacaceaamoaa
/- Scan: an inner node; the whole. -/
namespace Go.Proofs.Ytkolacaceaamoaa
open Go.RowKit
open Go.Lib (compareBytes)
theorem flat_sub {a b:List KI} (h:a.Sublist b):(a.flatMap Prod.snd).length ≤ (b.flatMap Prod.snd).length:=by
 induction h with
 | slnil=>exact Nat.le_refl _
 | cons x _ ih=>rw [List.flatMap_cons,List.length_append]; omega
 | cons_cons x _ ih=>rw [List.flatMap_cons,List.flatMap_cons,List.length_append,List.length_append]; omega
set_option maxRecDepth 100000 in
set_option maxHeartbeats 4000000 in
theorem scan_inner {w:World} {c:Pct} {tb b8 b9 b13 B0 p h:Nat} {m:Pst} {vto vo vf:Value} {te fr:Cn} {most deep:Int} {o:List It} {kis:List KI} (hs:ScW w c tb b8 b9 b13 B0 m vto te most vo o) (hB:B0 ≤ w.heap.size) (hf:BS w (Sf w c b13 vo m) vf fr) (hn:o.length + (kis.flatMap Prod.snd).length ≤ 500000)
  (hpg:pgB c.n (p:Int) = true) (hk0:kis ≠ []) (hok:∀ x ∈ kis,kdOk x.1) (hsz:(ndB [] (kis.map Prod.fst)).length ≤ 505) (hc:m.C c p = sealC 2 (ndB [] (kis.map Prod.fst))) (hkt:∀ x ∈ kis,TrP (m.C c) c.n h x.1.p x.2) (hhd:∀ x ∈ kis,∃ i r,x.2 = i :: r ∧ i.k = x.1.k) (hr:RiseI (kis.flatMap Prod.snd)) (hd0:0 ≤ deep) (hd:deep ≤ 32)
  (hrec:∀ {w:World} {vo:Value} {p:Nat} {o is:List It},ScW w c tb b8 b9 b13 B0 m vto te most vo o → B0 ≤ w.heap.size → BS w (Sf w c b13 vo m) vf fr → o.length + is.length ≤ 500000 → TrP (m.C c) c.n h p is → RiseI is →
   Calls Try.prog 24 #[.pointer (some ⟨tb,0,none⟩),.int .i64 (p:Int),.int .i64 (deep + 1),vf,sclo b8 b9 b13] w fun e w'=>e = .returned (.tuple #[.bool (goL fr te most o is).1,.int .i64 0]) ∧ ScR w c tb b8 b9 b13 B0 m vto te most vo (goL fr te most o is).2 w') :
  Calls Try.prog 24 #[.pointer (some ⟨tb,0,none⟩),.int .i64 (p:Int),.int .i64 deep,vf,sclo b8 b9 b13] w fun e w'=>e = .returned (.tuple #[.bool (goL fr te most o (kis.flatMap Prod.snd)).1,.int .i64 0]) ∧ ScR w c tb b8 b9 b13 B0 m vto te most vo (goL fr te most o (kis.flatMap Prod.snd)).2 w':=by
 have hp2:2 ≤ p:=by unfold pgB at hpg; simp at hpg; omega
 have dp0:((p:Int) == 0) = false:=by simp; omega
 have hok2:∀ k ∈ kis.map Prod.fst,kdOk k:=fun k hk=>by
  obtain ⟨y,hy,rfl⟩:=List.mem_map.1 hk
  exact hok y hy
 have hne:kis.map Prod.fst ≠ []:=fun e=>hk0 (by simpa using e)
 have HRD:=hide (read_inner hs.pg hs.tr (p:Int) hpg (kis.map Prod.fst) hne hok2 hsz hc)
 have hkl:kis.length ≤ 505:=by
  have:=(ndOk.few (nd:=([],kis.map Prod.fst)) ⟨.inr ⟨rfl,hne⟩,fun i hi=>(by cases hi),hok2,hsz⟩).2
  simpa using this
 have HS:=hide hs
 have HF:=hide hf
 have HBB:=hide hB
 have HKT:=hide hkt
 have HHD:=hide hhd
 have HRI:=hide hr
 have HREC:=hide (fun (w:World) (vo:Value) (p:Nat) (o is:List It)=>@hrec w vo p o is)
 have HN:=hide hn
 obtain ⟨Af,cf,rfl,_,_⟩:=hf
 obtain ⟨fl,hfl⟩:∃ q,fr.length = q:=⟨_,rfl⟩
 have HFL:=hide hfl
 rw [hfl] at HREC ⊢
 have hwd:IntKind.i64.wrap (deep + 1) = deep + 1:=by rw [IntKind.wrap_i64]; omega
 have dlf:decide (kis.map Prod.fst = []) = false:=by simpa using hne
 have hk1:0 < kis.length:=List.length_pos_iff.2 hk0
 clear hs hB hpg hok hok2 hsz hc hfl hkt hhd hr hrec hne hn hk0
 go_enter Try.func24,Try.ntmps24
 go_upto_region 4 with (go_at_call 27; (refine HRD.out.mono ?_); rintro e w1 ⟨⟨g,rfl,hnd⟩,hp,hfr⟩; have HR:=hide (And.intro hnd (And.intro hp hfr)); clear hnd hp hfr)
 obtain ⟨hs1,hm1⟩:=HS.out.full HR.out.2.1 HR.out.2.2
 have HS1:=hide hs1
 have HM1:=hide hm1
 have HN1:=hide (HR.out.1.keep (F':=Sf w1 c b13 vo m) (fun _ _ _=>rfl) (fun j hj hlt=>HS.out.fresh hj hlt))
 obtain ⟨vi,vk,hb,_,hi1,hk1'⟩:=HN1.out
 obtain ⟨Ai,ci,xi,rfl,_⟩:=hi1
 obtain ⟨Ak,ck,xk,rfl,_⟩:=hk1'
 obtain ⟨mk,hmk⟩:∃ x,(kis.map Prod.fst).length = x:=⟨_,rfl⟩
 have HMK:=hide (show kis.length = mk from by rw [← hmk,List.length_map])
 rw [hmk] at hb
 have HK1:=hide (show SLk 2 KdR w1 (Sf w1 c b13 vo m) (.slice Ak mk ck) (kis.map Prod.fst) from by
  obtain ⟨vi',vk',hb',_,_,hk'⟩:=HN1.out
  have:=blk_same hb hb'
  have e:vk' = .slice Ak mk ck:=by
   have:=congrArg (fun x:Array Value=>x[1]?) this
   simpa using this.symm
  rw [← e]
  exact hk')
 have kn:=hb.cell; have zn:=hb.lt
 have HNB:=hide hb
 have HLF:=hide (leaf_any (HN1.out.keep (F':=fun j=>j < w1.heap.size) (fun _ _ _=>rfl) (fun j hj _=>hj.1)))
 rw [dlf] at HLF
 have HF1:=hide (show BS w1 (Sf w1 c b13 vo m) (.slice Af fl cf) fr from by
  have:=HF.out.keep (F':=Sf w1 c b13 vo m) (fun j hj _=>HM1.out.heap hj) (fun j hj _=>HM1.out.sf hj)
  rw [HFL.out] at this
  exact this)
 have HDN:=hide (fun (w3:World) (hb3:Below w1.heap.size w1 w3)=>ndown_any (w:=w3) (HN1.out.keep (F':=fun j=>j < w3.heap.size) (fun j hj hlt=>hb3.block j hlt) (fun j hj hlt=>Nat.lt_of_lt_of_le hlt hb3.size)) (HF1.out.all.later hb3) (by rw [List.length_map]; omega))
 obtain ⟨hmc,hmm,-⟩:=HK1.out.caps
 obtain ⟨bk,ok,rfl,zbk,-⟩:=HK1.out.base (fun a cs h=>KdR.two a cs h) (by omega) (by rw [List.length_map]; omega)
 rw [HMK.out] at hkl hk1
 clear hs1 hm1 hb hmk
 go_wp2_with fail
 go_loopw [10,11,40] (fun v10 v11 v40 wr=>v10 = .bool false ∧ v11 = .int .i64 0 ∧ v40 = .int .i64 0 ∧ w1 = wr) (fun _ _ _ _=>0)
 case atStart=>exact ⟨rfl,rfl,rfl,rfl⟩
 case round=>
  obtain ⟨rfl,rfl,rfl,rfl⟩:=hrel
  go_upto_region 14 with (go_at_call 28; (refine HLF.out.mono ?_); rintro e w2 ⟨rfl,e2⟩; rw [e2]; clear e2)
  have HB0:=hide (Below.refl w1.heap.size w1)
  refine wp_region_dag (by kernel_rfl) (by kernel_rfl) 90 0
   [⟨some 58,[0],[],[],[],[],fun _ _ v _=>v = .pointer (some ⟨g,0,none⟩)⟩,
    ⟨some 59,[0],[],[],[0],[],fun _ _ v _=>v = .pointer (some ⟨g,0,none⟩)⟩,
    ⟨some 60,[0],[],[],[1],[],fun _ _ v _=>v = .pointer (some ⟨g,1,none⟩)⟩,
    ⟨some 61,[0],[],[],[2],[],fun _ _ v _=>v = .slice (some ⟨bk,ok,none⟩) mk ck⟩,
    ⟨some 62,[0],[],[],[],[],fun _ _ v _=>v = .pointer (some ⟨g,0,none⟩)⟩,
    ⟨some 63,[0],[],[],[],[],fun _ _ v _=>v = .slice Af fl cf⟩,
    ⟨some 64,[0],[],[],[4,5],[],fun st a v w'=>∃ k:Nat,v = .int .i64 (k:Int) ∧ k < mk ∧ DownAt ((kis.map Prod.fst).map Kd.k) fr k⟩,
    ⟨some 65,[0],[],[],[3,6],[64],fun st a v w'=>∃ k:Nat,a.eval (.tmp 64) = .int .i64 (k:Int) ∧ k < mk ∧ DownAt ((kis.map Prod.fst).map Kd.k) fr k ∧ v = .slice (some ⟨bk,ok + k * 2,none⟩) (mk - k) (ck - k)⟩,
    ⟨some 66,[0],[],[],[6,7],[64],fun st a v w'=>∃ k:Nat,a.eval (.tmp 64) = .int .i64 (k:Int) ∧ v = .int .i64 ((mk - k:Nat):Int)⟩,
    ⟨some 67,[0],[],[],[],[],fun _ _ v _=>v = .int .i64 0⟩] (fun _ w'=>Below w1.heap.size w1 w') (fun _ _ _ _ _=>False) (fun _ w w'=>Below w.heap.size w w') ?gu ?ru ?put [58,59,60,61,62,63,64,65,66,67] rfl (by kernel_rfl) rfl ?g0 ?keep ?steps ?fin
  case ru=>
   intro e he s a v w w' hu hv
   simp only [List.mem_cons,List.not_mem_nil,or_false] at he
   rcases he with rfl | rfl | rfl | rfl | rfl | rfl | rfl | rfl | rfl | rfl
   all_goals first | exact hv
  case put=>
   intro e he s a d u v w hnd hv
   simp only [List.mem_cons,List.not_mem_nil,or_false] at he
   rcases he with rfl | rfl | rfl | rfl | rfl | rfl | rfl | rfl | rfl | rfl
   all_goals first | exact hv | (obtain ⟨k,h1,h2⟩:=hv; exact ⟨k,(act_ne (by simpa using fun e=>hnd (by simp [e]))).trans h1,h2⟩)
  case keep=>
   intro e he s s' a v w w' hsl hm ht hv
   simp only [List.mem_cons,List.not_mem_nil,or_false] at he
   rcases he with rfl | rfl | rfl | rfl | rfl | rfl | rfl | rfl | rfl | rfl
   all_goals first | exact hv | (exact ht.elim)
  case steps=>
   refine ⟨?_,?_,?_,?_,?_,?_,?_,?_,?_,?_,trivial⟩
   ·intro st hst ac w3 hg hG hd K hK
    dsimp only at hst hG hK
    exact op_move _ rfl (hK _ _ (Below.refl _ _) (hg.kp 12 (by simp)))
   ·intro st hst ac w3 hg hG hd K hK
    dsimp only at hst hG hK
    have f0:=hd 0 (by simp) _ rfl _ rfl
    (try simp [Act.eval] at f0)
    go_simp
    exact hK _ _ (Below.refl _ _) rfl
   ·intro st hst ac w3 hg hG hd K hK
    dsimp only at hst hG hK
    have f1:=hd 1 (by simp) _ rfl _ rfl
    (try simp [Act.eval] at f1)
    go_simp
    exact hK _ _ (Below.refl _ _) rfl
   ·intro st hst ac w3 hg hG hd K hK
    dsimp only at hst hG hK
    have hX:=HNB.out.below hG HNB.out.lt
    have kk:=hX.cell 1
    have zz:=hX.lt
    simp at kk
    clear hG hX
    have f2:=hd 2 (by simp) _ rfl _ rfl
    (try simp [Act.eval] at f2)
    go_simp
    exact hK _ _ (Below.refl _ _) rfl
   ·intro st hst ac w3 hg hG hd K hK
    dsimp only at hst hG hK
    exact op_move _ rfl (hK _ _ (Below.refl _ _) (hg.kp 12 (by simp)))
   ·intro st hst ac w3 hg hG hd K hK
    dsimp only at hst hG hK
    exact op_move _ rfl (hK _ _ (Below.refl _ _) (hg.kp 3 (by simp)))
   ·intro st hst ac w3 hg hG hd K hK
    dsimp only at hst hG hK
    have f4:=hd 4 (by simp) _ rfl _ rfl
    have f5:=hd 5 (by simp) _ rfl _ rfl
    have HG9:=hide hG
    clear hG
    simp [Act.eval] at f4 f5
    go_simp
    (refine (HDN.out w3 HG9.out).mono ?_)
    rintro e w5 ⟨k,rfl,hda,hb⟩
    have hkm:=hda.lt (by rw [List.length_map,List.length_map,HMK.out]; exact hk1)
    rw [List.length_map,List.length_map,HMK.out] at hkm
    exact hK _ _ hb ⟨k,rfl,hkm,hda⟩
   ·intro st hst ac w3 hg hG hd K hK
    dsimp only at hst hG hK
    have f3:=hd 3 (by simp) _ rfl _ rfl
    obtain ⟨k,f6,hkm,hda⟩:=hd 6 (by simp) _ rfl _ rfl
    have F6:=hide f6
    have HDA:=hide hda
    have hkc:k ≤ ck:=by omega
    have hkc2:k < ck:=by omega
    have hkm2:k ≤ mk:=by omega
    have hnk:¬ ck = k:=by omega
    clear hG hda
    simp [Act.eval] at f3 f6
    go_simp
    exact hK _ _ (Below.refl _ _) ⟨k,F6.out,hkm,HDA.out,rfl⟩
   ·intro st hst ac w3 hg hG hd K hK
    dsimp only at hst hG hK
    have h6:=hd 6 (by simp) _ rfl _ rfl
    clear h6
    obtain ⟨k,e6,hkm,hda,f7⟩:=hd 7 (by simp) _ rfl _ rfl
    have E6:=hide e6
    obtain ⟨nn,hnn⟩:∃ nn,mk - k = nn:=⟨_,rfl⟩
    rw [hnn] at f7
    have HNN:=hide hnn
    clear hG hda e6 hnn
    simp [Act.eval] at f7
    go_simp
    exact hK _ _ (Below.refl _ _) ⟨k,E6.out,by rw [HNN.out]⟩
   ·intro st hst ac w3 hg hG hd K hK
    dsimp only at hst hG hK
    exact op_move _ rfl (hK _ _ (Below.refl _ _) rfl)
  case gu=>intro s a b hG hu; exact hG.trans (hu.mono hG.size)
  case g0=>exact (Below.refl _ _).drew
  case fin=>
   intro f9 w6 hG hall
   obtain ⟨k1,h64,hkm,hda⟩:=hall _ (List.mem_of_getElem? (i:=6) rfl) 64 rfl
   obtain ⟨k2,e65,_,_,h65⟩:=hall _ (List.mem_of_getElem? (i:=7) rfl) 65 rfl
   obtain ⟨k3,e66,h66⟩:=hall _ (List.mem_of_getElem? (i:=8) rfl) 66 rfl
   have h67:=hall _ (List.mem_of_getElem? (i:=9) rfl) 67 rfl
   rw [fillF_eval _ _ _ 64 (by simp),if_pos (by simp),h64] at e65 e66
   obtain rfl:k1 = k2:=by
    have:(k1:Int) = k2:=by simpa using e65
    omega
   obtain rfl:k1 = k3:=by
    have:(k1:Int) = k3:=by simpa using e66
    omega
   have HDA:=hide hda
   have HB6:=hide hG
   clear hall hG e65 e66 hda
   simp only [fillF,List.map_cons,List.map_nil,List.foldl_cons,List.foldl_nil,Act.put,List.setIfInBounds_toArray,List.set_cons_zero,List.set_cons_succ]
   rw [h64,h65,h66,h67]
   clear h64 h65 h66 h67
   have hfr6:Fr (PF m.F c.pb c.sb) w1 w6:=Fr.low HB6.out
   have HS6:=hide (HS1.out.below HB6.out)
   have HM6:=hide (show MkS w1 c b13 vo m w6 vo m from MkS.low HB6.out)
   have HKS:=hide (HM6.out.slk @KdR.keep (by omega) HK1.out)
   have HF6:=hide (HF1.out.keep (F':=Sf w6 c b13 vo m) (fun j hj _=>HM6.out.heap hj) (fun j hj _=>HM6.out.sf hj))
   have hkl2:k1 < kis.length:=by rw [HMK.out]; exact hkm
   have HGO:=hide (goL_kids (te:=te) (most:=most) HRI.out HHD.out HDA.out hkl2 o)
   obtain ⟨nk,hnk⟩:∃ nk,mk - k1 = nk:=⟨_,rfl⟩
   have hnk2:k1 + nk = mk:=by omega
   rw [hnk]
   obtain ⟨ck2,hck2⟩:∃ x,ck - k1 = x:=⟨_,rfl⟩
   have hck3:nk ≤ ck2:=by omega
   rw [hck2]
   clear hnk hck2
   have HST0:=hide (show ∃ vo',(goL fr te most o (((kis.drop k1).take 0).flatMap Prod.snd)).1 = true ∧ ScW w6 c tb b8 b9 b13 B0 m vto te most vo' (goL fr te most o (((kis.drop k1).take 0).flatMap Prod.snd)).2 ∧ MkS w6 c b13 vo m w6 vo' m from ⟨vo,rfl,HS6.out,MkS.refl _ _ _ _ _⟩)
   go_wp2_with fail
   go_loopw [10,11,67] (fun v10 v11 v67 wr=>∃ j:Nat,v10 = .bool false ∧ v11 = .int .i64 0 ∧ v67 = .int .i64 (j:Int) ∧ j ≤ nk ∧ Hid (∃ vo',(goL fr te most o (((kis.drop k1).take j).flatMap Prod.snd)).1 = true ∧ ScW wr c tb b8 b9 b13 B0 m vto te most vo' (goL fr te most o (((kis.drop k1).take j).flatMap Prod.snd)).2 ∧ MkS w6 c b13 vo m wr vo' m)) (fun _ _ v67 _=>nk - (intOf v67).toNat)
   case atStart=>exact ⟨0,rfl,rfl,by go_num,by omega,HST0⟩
   case round=>
    clear HST0 kn
    obtain ⟨j,rfl,rfl,rfl,hj,HST⟩:=hrel
    obtain ⟨vo',hg1,hsc,hms⟩:=HST.out
    by_cases hlt:j < nk
    ·have hjj:k1 + j < kis.length:=by rw [HMK.out]; omega
     have hjm:k1 + j < (kis.map Prod.fst).length:=by rw [List.length_map]; exact hjj
     obtain ⟨b,ob,A1,c1,eb,zb,-,q0,q1,-⟩:=(hms.slk @KdR.keep (by omega) HKS.out).at_kd hjm
     injection eb with eb
     injection eb with e1 e2
     subst e1 e2
     have ei:(kis.map Prod.fst)[k1 + j] = kis[k1 + j].1:=List.getElem_map ..
     rw [ei] at q0 q1
     have HTJ:=hide (HKT.out kis[k1 + j] (List.getElem_mem hjj))
     have HRJ:=hide (kids_rise HRI.out hjj)
     have hdl:j < (kis.drop k1).length:=by rw [List.length_drop]; omega
     have hTK:=take_next hdl
     rw [List.getElem_drop] at hTK
     obtain ⟨x,hx⟩:∃ x,kis[k1 + j] = x:=⟨_,rfl⟩
     rw [hx] at q0 q1 hTK HTJ HRJ
     have HTK:=hide hTK
     have hxl:x.2.length ≤ (kis.flatMap Prod.snd).length:=by
      have hm:x ∈ kis:=hx ▸ List.getElem_mem hjj
      have:=List.sublist_flatten_of_mem (List.mem_map_of_mem (f:=Prod.snd) hm)
      rw [List.flatMap_def]
      exact this.length_le
     have hadd:ok + (k1 + j) * 2 = ok + k1 * 2 + j * 2:=by omega
     rw [hadd] at q0 q1
     obtain ⟨kl,hkl⟩:∃ q,x.1.k.length = q:=⟨_,rfl⟩
     obtain ⟨px,hpx⟩:∃ q,x.1.p = q:=⟨_,rfl⟩
     rw [hkl] at q0
     rw [hpx] at q1 HTJ
     obtain ⟨o',ho'⟩:∃ q,(goL fr te most o (((kis.drop k1).take j).flatMap Prod.snd)).2 = q:=⟨_,rfl⟩
     rw [ho'] at hsc
     have hol:o'.length + x.2.length ≤ 500000:=by
      have h1:=goL_len (fr:=fr) (te:=te) (most:=most) (((kis.drop k1).take (j + 1)).flatMap Prod.snd) o
      have h2:=goL_len (fr:=fr) (te:=te) (most:=most) (((kis.drop k1).take j).flatMap Prod.snd) o
      rw [ho'] at h2
      have h3:(((kis.drop k1).take (j + 1)).flatMap Prod.snd).length ≤ (kis.flatMap Prod.snd).length:=by
       have:=flat_sub ((List.take_sublist (j + 1) (kis.drop k1)).trans (List.drop_sublist k1 kis))
       exact this
      rw [HTK.out,List.flatMap_append,List.length_append,List.flatMap_cons,List.flatMap_nil,List.append_nil] at h3
      have:=HN.out
      omega
     have HSN:=hide (show goL fr te most o (((kis.drop k1).take (j + 1)).flatMap Prod.snd) = goL fr te most o' x.2 from by rw [HTK.out,List.flatMap_append,List.flatMap_cons,List.flatMap_nil,List.append_nil,goL_app,if_pos hg1,ho'])
     obtain ⟨w2,hw2⟩:∃ w2,wr.alloc (.cells #[.slice A1 kl c1,.int .i64 (px:Int)] TKd) = w2:=⟨_,rfl⟩
     have HB2:=hide (show Below wr.heap.size wr w2 from hw2 ▸ al_below wr _)
     have hbx:Blk w2 wr.heap.size TKd #[.slice A1 kl c1,.int .i64 (px:Int)]:=hw2 ▸ Blk.new _ _ _
     have cx:=hbx.cell; have zx:=hbx.lt
     have HSC2:=hide (hsc.below HB2.out)
     have HMS2:=hide (hms.trans (MkS.low HB2.out))
     have HF2:=hide (HF6.out.keep (F':=Sf w2 c b13 vo' m) (fun j hj _=>HMS2.out.heap hj) (fun j hj _=>HMS2.out.sf hj))
     have hB2:B0 ≤ w2.heap.size:=Nat.le_trans (Nat.le_trans HBB.out (HM1.out.trans HM6.out).fr.size) HMS2.out.fr.size
     have HRC:=hide (HREC.out w2 vo' px o' x.2 HSC2.out hB2 HF2.out hol HTJ.out HRJ.out)
     have HW2:=hide hw2
     have HMT:=hide (HM1.out.trans (HM6.out.trans HMS2.out))
     have HMS0:=hide hms
     clear hjj hjm hsc hms ei hdl hTK hw2 hbx hx hkl hpx hxl hadd hg1 ho' HST hol
     go_upto_region 17 with fail
     rw [HW2.out]
     obtain ⟨⟨on,o2⟩,hgo⟩:∃ q,goL fr te most o' x.2 = q:=⟨_,rfl⟩
     rw [hgo] at HRC HSN
     simp only at HRC
     clear hgo
     cases on with
     | true=>
      go_wp2_with (go_at_call 24; (refine HRC.out.mono ?_); rintro e w3 ⟨rfl,hr⟩; have HR3:=hide hr; clear hr)
      refine ⟨⟨j + 1,rfl,rfl,by push_cast; rfl,by omega,hide ?_⟩,?_⟩
      ·obtain ⟨vo3,h1,h2⟩:=HR3.out
       rw [HSN.out]
       exact ⟨vo3,rfl,h1,HMS2.out.trans h2⟩
      ·simp [intOf]
       omega
     | false=>
      have HE:=hide (show goL fr te most o ((kis.drop k1).flatMap Prod.snd) = (false,o2) from by
       conv=>lhs; rw [← List.take_append_drop (j + 1) (kis.drop k1)]
       rw [List.flatMap_append,goL_app,HSN.out]
       simp)
      go_wp2_with (go_at_call 24; (refine HRC.out.mono ?_); rintro e w3 ⟨rfl,hr⟩; have HR3:=hide hr; clear hr)
      refine bodyPost_ret (v:=.tuple #[.bool false,.int .i64 0]) (by simp (maxDischargeDepth:=9) [results,Try.results24,go_sem]; done) rfl ?_
      rw [HGO.out,HE.out]
      obtain ⟨vo3,h1,h2⟩:=HR3.out
      exact ⟨rfl,vo3,h1,HMT.out.trans h2⟩
    ·obtain rfl:nk = j:=by omega
     have htk:(kis.drop k1).take nk = kis.drop k1:=List.take_of_length_le (by rw [List.length_drop,HMK.out]; omega)
     rw [htk] at hg1 hsc
     have HSC:=hide hsc
     have HMS:=hide (HM1.out.trans (HM6.out.trans hms))
     have HG1:=hide hg1
     clear hg1 hsc hms HST htk
     go_wp2_with fail
     refine bodyPost_ret (v:=.tuple #[.bool true,.int .i64 0]) (by simp (maxDischargeDepth:=9) [results,Try.results24,go_sem]; done) rfl ?_
     rw [HGO.out,HG1.out]
     exact ⟨rfl,vo',HSC.out,HMS.out⟩
theorem scan_any:∀ (h:Nat) {w:World} {c:Pct} {tb b8 b9 b13 B0 p:Nat} {m:Pst} {vto vo vf:Value} {te fr:Cn} {most deep:Int} {o is:List It},ScW w c tb b8 b9 b13 B0 m vto te most vo o → B0 ≤ w.heap.size → BS w (Sf w c b13 vo m) vf fr → o.length + is.length ≤ 500000 → TrP (m.C c) c.n h p is → RiseI is → 0 ≤ deep → deep + (h:Int) ≤ 33 →
  Calls Try.prog 24 #[.pointer (some ⟨tb,0,none⟩),.int .i64 (p:Int),.int .i64 deep,vf,sclo b8 b9 b13] w fun e w'=>e = .returned (.tuple #[.bool (goL fr te most o is).1,.int .i64 0]) ∧ ScR w c tb b8 b9 b13 B0 m vto te most vo (goL fr te most o is).2 w'
 | 0,w,c,tb,b8,b9,b13,B0,p,m,vto,vo,vf,te,fr,most,deep,o,is,hs,hB,hf,hn,hT,hr,hd0,hd=>hT.elim
 | h + 1,w,c,tb,b8,b9,b13,B0,p,m,vto,vo,vf,te,fr,most,deep,o,is,hs,hB,hf,hn,⟨hpg,.inl ⟨h1,h2,h3,h4⟩⟩,hr,hd0,hd=>scan_leaf hs hB hf (by omega) hpg h1 h2 h3 h4 (by omega)
 | h + 1,w,c,tb,b8,b9,b13,B0,p,m,vto,vo,vf,te,fr,most,deep,o,is,hs,hB,hf,hn,⟨hpg,.inr ⟨ks,h1,h2,h3,h4,h5,h6⟩⟩,hr,hd0,hd=>by
  subst h5
  exact scan_inner hs hB hf hn hpg h1 h2 h3 h4 (fun x hx=>(h6 x hx).1) (fun x hx=>(h6 x hx).2) hr hd0 (by omega) (fun g1 g2 g3 g4 g5 g6=>scan_any h g1 g2 g3 g4 g5 g6 (by omega) (by omega))
end Go.Proofs.Ytkolacaceaamoaa
/- Scan. -/
namespace Go.Proofs.Ytkolacaceaamoaa
open Go.RowKit
open Go.Lib (compareBytes)
/-- A tree that can be scanned. -/
def ScT (c:Pct) (m:Pst) (r:Nat) (is:List It):Prop:=RiseI is ∧ ((r = 0 ∧ is = []) ∨ ∃ h,h ≤ 33 ∧ TrP (m.C c) c.n h r is)
/-- What Scan answers. -/
def ScA (w:World) (c:Pct) (m:Pst) (o:List It) (e:Ending) (w':World):Prop:=
 ∃ A cc,e = .returned (.tuple #[.slice A o.length cc,.int .i64 0]) ∧ SLk 2 ItR w' (fun j=>j < w'.heap.size ∧ ¬ PF m.F c.pb c.sb j) (.slice A o.length cc) o ∧ PgS w' c m ∧ Fr (PF m.F c.pb c.sb) w w'
set_option maxRecDepth 100000 in
theorem scan_zero {w:World} {tb b8 b9 b13:Nat} {vf:Value} {deep:Int} :
  Calls Try.prog 24 #[.pointer (some ⟨tb,0,none⟩),.int .i64 0,.int .i64 deep,vf,sclo b8 b9 b13] w fun e w'=>e = .returned (.tuple #[.bool true,.int .i64 0]) ∧ w' = w:=by
 go_enter Try.func24,Try.ntmps24
 go_wp2_with fail
 refine bodyPost_ret (v:=.tuple #[.bool true,.int .i64 0]) (by simp (maxDischargeDepth:=9) [results,Try.results24,go_sem]; done) rfl ⟨rfl,rfl⟩
set_option maxRecDepth 100000 in
set_option maxHeartbeats 2000000 in
theorem tscan_neg {w:World} {tb pb:Nat} {r:Int} {vf:Value} {A2:Option Addr} {n2 c2:Nat} {most:Int} (ht:Blk w tb TTr #[.pointer (some ⟨pb,0,none⟩)]) (hm:most < 0) :
  Calls Try.prog 10 #[.pointer (some ⟨tb,0,none⟩),.int .i64 r,vf,.slice A2 n2 c2,.int .i64 most] w fun e w'=>e = .returned (.tuple #[.slice none 0 0,.int .i64 1]) ∧ Below w.heap.size w w':=by
 obtain ⟨w1,hw1⟩:∃ y,((w.alloc (.cells #[.slice A2 n2 c2] 38)).alloc (.cells #[.int .i64 most] 3)) = y:=⟨_,rfl⟩
 have HB1:=hide (show Below w.heap.size w w1 from hw1 ▸ bal (al_below w _) _)
 have h9:Blk w1 (w.heap.size + 1) TI64 #[.int .i64 most]:=hw1 ▸ (by have:=Blk.new (w.alloc (.cells #[.slice A2 n2 c2] TBs)) TI64 #[.int .i64 most]; simpa using this)
 have HT1:=hide (ht.below HB1.out ht.lt)
 have k9:=h9.cell; have z9:=h9.lt
 have d9:decide (most < 0) = true:=by simpa using hm
 have HW1:=hide hw1
 clear hw1 ht h9 hm
 go_enter Try.func10,Try.ntmps10
 go_upto_region 1 with fail
 rw [HW1.out]
 go_wp2_with (go_at_call 23; (refine (talive_ok HT1.out).mono ?_); rintro e w2 ⟨rfl,e2⟩; rw [e2]; clear e2)
 refine bodyPost_ret (v:=.tuple #[.slice none 0 0,.int .i64 1]) (by simp (maxDischargeDepth:=9) [results,Try.results10,go_sem]; done) rfl ⟨rfl,HB1.out⟩
set_option maxRecDepth 100000 in
set_option maxHeartbeats 4000000 in
theorem tscan_ok {w:World} {c:Pct} {tb r:Nat} {m:Pst} {vf vto:Value} {fr te:Cn} {most:Int} {is:List It} (hp:PgS w c m) (ht:Blk w tb TTr #[.pointer (some ⟨c.pb,0,none⟩)]) (htb:¬ PF m.F c.pb c.sb tb) (hf:BS w (fun j=>¬ PF m.F c.pb c.sb j) vf fr) (hto:BS w (fun j=>¬ PF m.F c.pb c.sb j) vto te)
  (hm:0 ≤ most) (hT:ScT c m r is) (hn:is.length ≤ 500000) :
  Calls Try.prog 10 #[.pointer (some ⟨tb,0,none⟩),.int .i64 (r:Int),vf,vto,.int .i64 most] w fun e w'=>ScA w c m (goL fr te most [] is).2 e w':=by
 have HP:=hide hp
 have HT:=hide ht
 have HTB:=hide htb
 have HTT:=hide hT
 have HFF:=hide hf
 have HTO:=hide hto
 obtain ⟨At,ct,rfl,_,_⟩:=hto
 obtain ⟨tl,htl⟩:∃ q,te.length = q:=⟨_,rfl⟩
 have HTL:=hide htl
 rw [htl]
 obtain ⟨w1,hw1⟩:∃ y,((w.alloc (.cells #[.slice At tl ct] 38)).alloc (.cells #[.int .i64 most] 3)) = y:=⟨_,rfl⟩
 obtain ⟨w2,hw2⟩:∃ y,w1.alloc (.cells #[.slice none 0 0] TIts) = y:=⟨_,rfl⟩
 have HB1:=hide (show Below w.heap.size w w1 from hw1 ▸ bal (al_below w _) _)
 have HZ1:=hide (show w1.heap.size = w.heap.size + 2 from by rw [← hw1,heap_al,heap_al])
 have HB2:=hide (show Below w.heap.size w w2 from HB1.out.trans ((hw2 ▸ al_below w1 _:Below w1.heap.size w1 w2).mono HB1.out.size))
 have h9:Blk w1 (w.heap.size + 1) TI64 #[.int .i64 most]:=hw1 ▸ (by have:=Blk.new (w.alloc (.cells #[.slice At tl ct] TBs)) TI64 #[.int .i64 most]; simpa using this)
 have h8:Blk w1 w.heap.size TBs #[.slice At tl ct]:=hw1 ▸ (Blk.new w TBs _).alloc _
 have h13:Blk w2 w1.heap.size TIts #[.slice none 0 0]:=hw2 ▸ Blk.new _ _ _
 have HT1:=hide (ht.below HB1.out ht.lt)
 have hpl:∀ j,PF m.F c.pb c.sb j → j < w.heap.size:=fun j hj=>PF.lt hp hj
 have hnm:∀ j,MT c w1.heap.size (.slice none 0 0) m j → j < w.heap.size ∨ j = w1.heap.size:=fun j hj=>by
  rcases hj with hj | hj | hj
  ·exact .inl (hpl j hj)
  ·exact .inr hj
  ·cases hj
 have hsf:∀ j,¬ PF m.F c.pb c.sb j → j < w.heap.size → Sf w2 c w1.heap.size (.slice none 0 0) m j:=fun j hj hlt=>⟨Nat.lt_of_lt_of_le hlt HB2.out.size,fun hm=>by
  rcases hm with hm | hm | hm
  ·exact hj hm
  ·have:=HZ1.out; omega
  ·cases hm⟩
 have HSC:=hide (show ScW w2 c tb w.heap.size (w.heap.size + 1) w1.heap.size w2.heap.size m (.slice At tl ct) te most (.slice none 0 0) [] from
  { pg:=Pg.below hp HB2.out,tr:=ht.below HB2.out ht.lt,k8:=hw2 ▸ h8.alloc _,k9:=hw2 ▸ h9.alloc _,k13:=h13,row:=⟨[],World.ownsRow_nil _ _ _ _,rfl⟩,n13:=fun h=>by have:=hpl _ h; have:=HZ1.out; omega,nt:=(hsf tb htb ht.lt).2,n8:=fun h=>by have:=hnm _ h; have:=HZ1.out; omega,n9:=fun h=>by have:=hnm _ h; have:=HZ1.out; omega,nv:=fun g hg=>(by cases hg),te_:=by rw [← htl]; exact HTO.out.keep (fun j _ hlt=>HB2.out.block j hlt) (fun j hj hlt=>hsf j hj hlt) })
 have HF2:=hide (hf.keep (F':=Sf w2 c w1.heap.size (.slice none 0 0) m) (fun j _ hlt=>HB2.out.block j hlt) (fun j hj hlt=>hsf j hj hlt))
 have hk9:=h9.cell; have z9:=h9.lt
 have d9:decide (most < 0) = false:=by simpa using hm
 have HW1:=hide hw1
 have HW2:=hide hw2
 have HFIN:=hide (fun (on:Bool) (w3:World) (hr:ScR w2 c tb w.heap.size (w.heap.size + 1) w1.heap.size w2.heap.size m (.slice At tl ct) te most (.slice none 0 0) (goL fr te most [] is).2 w3)=>(show ∃ A cc,Blk w3 w1.heap.size TIts #[.slice A (goL fr te most [] is).2.length cc] ∧ ScA w c m (goL fr te most [] is).2 (.returned (.tuple #[.slice A (goL fr te most [] is).2.length cc,.int .i64 0])) w3 from by
  obtain ⟨vo,hs,hms⟩:=hr
  obtain ⟨xs,h1,h2⟩:=hs.row
  obtain ⟨A,cc,rfl,hcc⟩:=own_slice h1
  refine ⟨A,cc,hs.k13,A,cc,rfl,?_,hs.pg,?_⟩
  ·have h3:=LR.mono (fun a cs=>ItR.keep (F':=fun j=>j < w3.heap.size ∧ ¬ PF m.F c.pb c.sb j) (fun _ _ _=>rfl) (fun j hj _=>⟨hj.1,fun h=>hj.2 (.inl h)⟩) a cs) _ _ h2
   rcases h1.2 with ⟨e,hz⟩ | ⟨b,cap,cur,e,hb,hh,hc2,hm2,_⟩
   ·injection e with e1 e2 e3
    have hl:(goL fr te most [] is).2 = []:=List.eq_nil_of_length_eq_zero hz
    rw [hl]
    rw [e1,e3]
    exact SLk.nil _ _
   ·injection e with e1 e2 e3
    subst e1 e3
    refine ⟨some ⟨b,0,none⟩,cc,xs,rfl,⟨hc2,hm2⟩,⟨h1.1,fun hz=>?_⟩,h3⟩
    obtain ⟨ad,e2',_,hcell⟩:=(Reads.of_own h1).2 hz
    injection e2' with e2'
    subst e2'
    exact ⟨_,rfl,⟨(h1.lt b rfl).2,hs.nv b rfl⟩,hcell⟩
  ·refine (Fr.low (F:=PF m.F c.pb c.sb) HB2.out).trans hms.fr (fun j hj hm=>?_)
   rcases hm with hm | rfl | hm
   ·exact hm
   ·have:=HZ1.out; omega
   ·cases hm))
 obtain ⟨q,hq⟩:∃ q,goL fr te most [] is = q:=⟨_,rfl⟩
 rw [hq] at HFIN ⊢
 have HGO:=hide hq
 clear hp ht htb hf hw1 hw2 hm h8 h9 h13 htl hpl hnm hsf hq
 go_enter Try.func10,Try.ntmps10
 go_upto_region 1 with fail
 rw [HW1.out]
 go_upto_region 6 with (go_at_call 23; (refine (talive_ok HT1.out).mono ?_); rintro e w2 ⟨rfl,e2⟩; rw [e2]; clear e2)
 go_upto_region 7 with fail
 rw [HW2.out]
 obtain ⟨hri,⟨e1,e2⟩ | ⟨h,hh,hT⟩⟩:=HTT.out
 ·subst e1 e2
  go_upto_region 8 with (go_at_call 24; (refine scan_zero.mono ?_); rintro e w3 ⟨rfl,rfl⟩)
  have HR3:=hide (show ScR w3 c tb w.heap.size (w.heap.size + 1) w1.heap.size w3.heap.size m (.slice At tl ct) te most (.slice none 0 0) q.2 w3 from by rw [← HGO.out]; exact ⟨_,HSC.out,MkS.refl _ _ _ _ _⟩)
  obtain ⟨A,cc,hk13,ha⟩:=HFIN.out true w3 HR3.out
  obtain ⟨ol,hol⟩:∃ x,q.2.length = x:=⟨_,rfl⟩
  rw [hol] at hk13 ha
  have c13:=hk13.cell; have z13:=hk13.lt
  have HA:=hide ha
  clear hk13 ha hol
  go_wp2_with fail
  refine bodyPost_ret (v:=.tuple #[.slice A ol cc,.int .i64 0]) (by simp (maxDischargeDepth:=9) [results,Try.results10,go_sem]; done) rfl HA.out
 ·have HSA:=hide (scan_any h (o:=[]) (deep:=0) HSC.out (Nat.le_refl _) HF2.out (by simpa using hn) hT hri (by omega) (by omega))
  rw [HGO.out] at HSA
  clear hT hri
  go_upto_region 8 with (go_at_call 24; (refine HSA.out.mono ?_); rintro e w3 ⟨rfl,hr⟩; have HR3:=hide hr; clear hr)
  obtain ⟨A,cc,hk13,ha⟩:=HFIN.out true w3 HR3.out
  obtain ⟨ol,hol⟩:∃ x,q.2.length = x:=⟨_,rfl⟩
  rw [hol] at hk13 ha
  have c13:=hk13.cell; have z13:=hk13.lt
  have HA:=hide ha
  clear hk13 ha hol
  go_wp2_with fail
  refine bodyPost_ret (v:=.tuple #[.slice A ol cc,.int .i64 0]) (by simp (maxDischargeDepth:=9) [results,Try.results10,go_sem]; done) rfl HA.out
end Go.Proofs.Ytkolacaceaamoaa
