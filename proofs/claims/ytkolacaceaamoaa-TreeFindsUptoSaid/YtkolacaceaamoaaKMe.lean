/- The tree: plain facts of keys that stand in order (no program in sight). -/
import Derived.Test.YtkolacaceaamoaaKMd
import Derived.Test.YtkolacaceaamoaaKM1
/- The tree: plain facts of keys that stand in order (no program in sight). -/
set_option linter.unusedSimpArgs false
set_option linter.unusedVariables false
namespace Go.Proofs.Ytkolacaceaamoaa
open Go.Lib (compareBytes)
theorem cb_swap:∀ a b:Cn,compareBytes b a = - compareBytes a b
 | [],[]=>rfl
 | [],_ :: _=>rfl
 | _ :: _,[]=>rfl
 | a :: xs,b :: bs=>by
  have ih:=cb_swap xs bs
  simp only [compareBytes]
  by_cases h1:a < b
  ·have h2:¬ b < a:=fun h=>by rw [UInt8.lt_iff_toNat_lt] at h1 h; omega
   simp [h1,h2]
  ·by_cases h2:b < a
   ·simp [h1,h2]
   ·simp [h1,h2,ih]
theorem cb_zero:∀ {a b:Cn},compareBytes a b = 0 ↔ a = b
 | [],[]=>by simp [compareBytes]
 | [],_ :: _=>by simp [compareBytes]
 | _ :: _,[]=>by simp [compareBytes]
 | a :: xs,b :: bs=>by
  have ih:=@cb_zero xs bs
  simp only [compareBytes]
  by_cases h1:a < b
  ·have:a ≠ b:=fun e=>by subst e; rw [UInt8.lt_iff_toNat_lt] at h1; omega
   simp [h1,this]
  ·by_cases h2:b < a
   ·have:a ≠ b:=fun e=>by subst e; rw [UInt8.lt_iff_toNat_lt] at h2; omega
    simp [h1,h2,this]
   ·have e:a = b:=by
     rw [UInt8.lt_iff_toNat_lt] at h1 h2
     exact UInt8.toNat_inj.1 (by omega)
    simp [h1,h2,e,ih]
theorem cb_trans:∀ {a b c:Cn},compareBytes a b < 0 → compareBytes b c < 0 → compareBytes a c < 0
 | [],[],c,h,_=>by simp [compareBytes] at h
 | [],_ :: _,[],_,h=>by simp [compareBytes] at h
 | [],_ :: _,_ :: _,_,_=>by simp [compareBytes]
 | _ :: _,[],_,h,_=>by simp [compareBytes] at h
 | _ :: _,_ :: _,[],_,h=>by simp [compareBytes] at h
 | a :: xs,b :: bs,c :: cs,h1,h2=>by
  simp only [compareBytes] at h1 h2 ⊢
  simp only [UInt8.lt_iff_toNat_lt] at h1 h2 ⊢
  by_cases p1:a.toNat < b.toNat
  ·by_cases p2:b.toNat < c.toNat
   ·rw [if_pos (by omega)]; omega
   ·rw [if_neg p2] at h2
    by_cases p3:c.toNat < b.toNat
    ·rw [if_pos p3] at h2; omega
    ·rw [if_pos (by omega)]; omega
  ·rw [if_neg p1] at h1
   by_cases p3:b.toNat < a.toNat
   ·rw [if_pos p3] at h1; omega
   ·rw [if_neg p3] at h1
    by_cases p2:b.toNat < c.toNat
    ·rw [if_pos (by omega)]; omega
    ·rw [if_neg p2] at h2
     by_cases p4:c.toNat < b.toNat
     ·rw [if_pos p4] at h2; omega
     ·rw [if_neg p4] at h2
      rw [if_neg (by omega),if_neg (by omega)]
      exact cb_trans h1 h2
/-- Keys that rise. -/
def Rise (l:List Cn):Prop:=l.Pairwise fun a b=>compareBytes a b < 0
theorem Rise.at_ {l:List Cn} (h:Rise l) {i j:Nat} (hij:i < j) (hj:j < l.length):compareBytes (l.getD i []) (l.getD j []) < 0:=by
 have:=List.pairwise_iff_getElem.1 h i j (by omega) hj hij
 simpa [List.getD,show i < l.length by omega,hj] using this
/-- What a search finds among rising keys: all ahead are less, all behind are greater. -/
theorem FoundAt.ahead {l:List Cn} {key:Cn} {k:Nat} {f:Bool} (h:FoundAt l key k f) (hr:Rise l) {i:Nat} (hi:i < k):cmpK l key i < 0:=by
 have h1:=h.2.1 (by omega)
 rcases Nat.lt_or_ge i (k - 1) with h2 | h2
 ·exact cb_trans (hr.at_ h2 (by have:=h.1; omega)) h1
 ·rwa [show i = k - 1 by omega]
theorem FoundAt.behind {l:List Cn} {key:Cn} {k:Nat} {f:Bool} (h:FoundAt l key k f) (hr:Rise l) {i:Nat} (hi:k < i) (hl:i < l.length):0 < cmpK l key i:=by
 have h1:=h.2.2.1 (by omega)
 have h2:=hr.at_ hi hl
 unfold cmpK at h1 ⊢
 have h3:compareBytes key (l.getD k []) ≤ 0:=by rw [cb_swap]; omega
 have h4:compareBytes key (l.getD i []) < 0:=by
  rcases Int.lt_or_eq_of_le h3 with h5 | h5
  ·exact cb_trans h5 h2
  ·rw [cb_zero.1 h5]; exact h2
 rw [cb_swap] at h4
 omega
/-- A key's value. -/
def valOf (is:List It) (key:Cn):Option Cn:=(is.find? fun i=>i.k == key).map It.v
theorem valOf_append (a b:List It) (key:Cn):valOf (a ++ b) key = (valOf a key).or (valOf b key):=by
 unfold valOf
 rw [List.find?_append]
 cases a.find? _ <;> simp
theorem valOf_none {is:List It} {key:Cn} (h:∀ i ∈ is,i.k ≠ key):valOf is key = none:=by
 unfold valOf
 rw [List.find?_eq_none.2 (fun i hi=>by simpa using h i hi)]
 rfl
theorem valOf_found {is:List It} {key:Cn} {k:Nat} {f:Bool} (hr:Rise (is.map It.k)) (h:FoundAt (is.map It.k) key k f) :
  (f = true → ∃ hk:k < is.length,valOf is key = some is[k].v) ∧ (f = false → valOf is key = none):=by
 have hat:∀ (i:Nat) (hi:i < is.length),cmpK (is.map It.k) key i = compareBytes is[i].k key:=fun i hi=>by
  unfold cmpK
  simp [List.getD,hi]
 have hne:∀ (i:Nat) (hi:i < is.length),i ≠ k → is[i].k ≠ key:=fun i hi hik e=>by
  have h0:=hat i hi
  rw [e,cb_zero.2 rfl] at h0
  rcases Nat.lt_or_ge i k with h1 | h1
  ·have:=h.ahead hr h1; omega
  ·have:=h.behind hr (show k < i by omega) (by simpa using hi); omega
 refine ⟨fun e=>?_,fun e=>?_⟩
 ·have h4:=h.2.2.2.symm
  rw [e] at h4
  simp at h4
  obtain ⟨h5,h6⟩:=h4
  refine ⟨h5,?_⟩
  rw [hat k h5] at h6
  have e2:=cb_zero.1 h6
  have h7:valOf (is.take k ++ is[k] :: is.drop (k + 1)) key = some is[k].v:=by
   rw [valOf_append,valOf_none]
   ·unfold valOf
    rw [List.find?_cons]
    simp [e2]
   ·intro x hx
    obtain ⟨i,hi,rfl⟩:=List.getElem_of_mem hx
    simp at hi
    rw [List.getElem_take]
    exact hne i (by omega) (by omega)
  have h8:is.take k ++ is[k] :: is.drop (k + 1) = is:=by simp
  rw [h8] at h7
  exact h7
 ·refine valOf_none fun x hx e3=>?_
  obtain ⟨i,hi,rfl⟩:=List.getElem_of_mem hx
  by_cases hik:i = k
  ·subst hik
   have h4:=h.2.2.2
   rw [e,hat i hi,e3,cb_zero.2 rfl] at h4
   simp at h4
   omega
  ·exact hne i hi hik e3
end Go.Proofs.Ytkolacaceaamoaa
/- The tree: what a page's tree holds; the road down (plain, no program in sight). -/
namespace Go.Proofs.Ytkolacaceaamoaa
open Go.Lib (compareBytes)
/-- A tree's kids: each with its items. -/
abbrev KI:=Kd × List It
/-- The items of a page's tree, at most so high. -/
def TrP (C:Int → Cn) (n:Nat):Nat → Nat → List It → Prop
 | 0,_,_=>False
 | h + 1,p,is=>pgB n (p:Int) = true ∧ ((is ≠ [] ∧ (∀ i ∈ is,itOk i) ∧ (ndB is []).length ≤ 505 ∧ C p = sealC 2 (ndB is [])) ∨
   ∃ ks:List KI,ks ≠ [] ∧ (∀ x ∈ ks,kdOk x.1) ∧ (ndB [] (ks.map Prod.fst)).length ≤ 505 ∧ C p = sealC 2 (ndB [] (ks.map Prod.fst)) ∧ is = ks.flatMap Prod.snd ∧ ∀ x ∈ ks,TrP C n h x.1.p x.2 ∧ ∃ i r,x.2 = i :: r ∧ i.k = x.1.k)
theorem TrP.ne {C:Int → Cn} {n:Nat}:∀ {h p:Nat} {is:List It},TrP C n h p is → is ≠ []
 | 0,_,_,h=>h.elim
 | _ + 1,p,is,⟨_,.inl h⟩=>h.1
 | _ + 1,p,is,⟨_,.inr ⟨ks,a,_,_,_,e,f⟩⟩=>by
  cases ks with
  | nil=>exact absurd rfl a
  | cons x l=>
   obtain ⟨i,r,e2,_⟩:=(f x (List.mem_cons_self)).2
   rw [e,List.flatMap_cons,e2]
   simp
def cmpLt (a b:It):Prop:=compareBytes a.k b.k < 0
theorem rise_items {is:List It}:Rise (is.map It.k) ↔ is.Pairwise cmpLt:=by
 unfold Rise
 rw [List.pairwise_map]
 rfl
theorem descend {ks:List KI} (hr:Rise ((ks.flatMap Prod.snd).map It.k)) (hh:∀ x ∈ ks,∃ i r,x.2 = i :: r ∧ i.k = x.1.k) {key:Cn} {k:Nat} (hd:DownAt ((ks.map Prod.fst).map Kd.k) key k) (hk:k < ks.length) :
  valOf (ks.flatMap Prod.snd) key = valOf ks[k].2 key ∧ Rise (ks[k].2.map It.k):=by
 rw [rise_items,List.pairwise_flatMap] at hr
 obtain ⟨hr1,hr2⟩:=hr
 have hin:∀ (i:Nat) (hi:i < ks.length) (x:It),x ∈ ks[i].2 → compareBytes ks[i].1.k x.k ≤ 0:=fun i hi x hx=>by
  obtain ⟨y,r,e,e2⟩:=hh ks[i] (List.getElem_mem hi)
  have h1:=hr1 ks[i] (List.getElem_mem hi)
  rw [e] at hx h1
  rcases List.mem_cons.1 hx with rfl | hx
  ·rw [e2,cb_zero.2 rfl]; exact Int.le_refl 0
  ·have:=(List.pairwise_cons.1 h1).1 x hx
   unfold cmpLt at this
   rw [e2] at this
   omega
 have hout:∀ (i j:Nat) (hi:i < j) (hj:j < ks.length) (x:It),x ∈ (ks[i]'(by omega)).2 → compareBytes x.k ks[j].1.k < 0:=fun i j hi hj x hx=>by
  have h1:=List.pairwise_iff_getElem.1 hr2 i j (by omega) hj hi
  obtain ⟨y,r,e,e2⟩:=hh ks[j] (List.getElem_mem hj)
  have:=h1 x hx y (by rw [e]; exact List.mem_cons_self)
  unfold cmpLt at this
  rwa [e2] at this
 have hri:Rise ((ks.map Prod.fst).map Kd.k):=by
  unfold Rise
  rw [List.pairwise_iff_getElem]
  intro i j hi hj hij
  simp at hi hj
  simp only [List.getElem_map]
  obtain ⟨y,r,e,e2⟩:=hh ks[i] (List.getElem_mem hi)
  have:=hout i j hij hj y (by rw [e]; exact List.mem_cons_self)
  rwa [e2] at this
 have hat:∀ (i:Nat) (hi:i < ks.length),cmpK ((ks.map Prod.fst).map Kd.k) key i = compareBytes ks[i].1.k key:=fun i hi=>by
  unfold cmpK
  simp [List.getD,hi]
 have hlen:((ks.map Prod.fst).map Kd.k).length = ks.length:=by simp
 obtain ⟨k0,f,hf,e⟩:=hd
 -- the kid's own key is at most the key sought,unless it is the first
 have hA:0 < k → compareBytes ks[k].1.k key ≤ 0:=fun h0=>by
  rw [← hat k hk]
  cases f with
  | true=>
   simp at e
   have h4:=hf.2.2.2.symm
   simp only [decide_eq_true_eq] at h4
   rw [e,h4.2]
   exact Int.le_refl 0
  | false=>
   simp at e
   have:=hf.2.1 (by omega)
   rw [e]
   omega
 have hB:∀ (j:Nat) (hj:j < ks.length),k < j → 0 < compareBytes ks[j].1.k key:=fun j hj hkj=>by
  rw [← hat j hj]
  cases f with
  | true=>
   simp at e
   exact hf.behind hri (by omega) (by omega)
  | false=>
   simp at e
   rcases Nat.lt_or_ge k0 j with h1 | h1
   ·exact hf.behind hri h1 (by omega)
   ·have e3:j = k0:=by omega
    have h2:=hf.2.2.1 (by omega)
    have h4:=hf.2.2.2.symm
    simp only [decide_eq_false_iff_not,not_and] at h4
    have:=h4 (by omega)
    rw [e3]
    omega
 refine ⟨?_,rise_items.2 (hr1 _ (List.getElem_mem hk))⟩
 have hs:ks = ks.take k ++ ks[k] :: ks.drop (k + 1):=by simp
 have h7:valOf ((ks.take k ++ ks[k] :: ks.drop (k + 1)).flatMap Prod.snd) key = valOf ks[k].2 key:=by
  rw [List.flatMap_append,List.flatMap_cons,valOf_append,valOf_append]
  have n1:valOf ((ks.take k).flatMap Prod.snd) key = none:=by
   refine valOf_none fun x hx e=>?_
   obtain ⟨z,hz,hxz⟩:=List.mem_flatMap.1 hx
   obtain ⟨i,hi,rfl⟩:=List.getElem_of_mem hz
   simp at hi
   rw [List.getElem_take] at hxz
   have h1:=hout i k (by omega) hk x hxz
   have h2:=hA (by omega)
   rw [e,cb_swap] at h1
   omega
  have n2:valOf ((ks.drop (k + 1)).flatMap Prod.snd) key = none:=by
   refine valOf_none fun x hx e=>?_
   obtain ⟨z,hz,hxz⟩:=List.mem_flatMap.1 hx
   obtain ⟨i,hi,rfl⟩:=List.getElem_of_mem hz
   simp at hi
   rw [List.getElem_drop] at hxz
   have h1:=hin (k + 1 + i) (by omega) x hxz
   have h2:=hB (k + 1 + i) (by omega) (by omega)
   rw [e] at h1
   omega
  rw [n1,n2]
  cases valOf ks[k].2 key <;> rfl
 rw [← hs] at h7
 exact h7
end Go.Proofs.Ytkolacaceaamoaa
/- The tree: Get. -/
namespace Go.Proofs.Ytkolacaceaamoaa
open Go.RowKit
/-- What Get answers. -/
def GotV (w0 w':World) (e:Ending):Option Cn → Prop
 | some v=>∃ x,e = .returned (.tuple #[x,.int .i64 0]) ∧ BS w' (fun j=>w0.heap.size ≤ j) x v
 | none=>e = .returned (.tuple #[.slice none 0 0,.int .i64 5])
theorem leaf_yes {w:World} {F:Nat → Prop} {g:Nat} {is:List It} (h:NdR w F g is []) :
  Calls Try.prog 28 #[.pointer (some ⟨g,0,none⟩)] w fun e w'=>e = .returned (.bool true) ∧ w' = w:=leaf_any h
theorem leaf_no {w:World} {F:Nat → Prop} {g:Nat} {is:List It} {ks:List Kd} (h:NdR w F g is ks) (h0:ks ≠ []) :
  Calls Try.prog 28 #[.pointer (some ⟨g,0,none⟩)] w fun e w'=>e = .returned (.bool false) ∧ w' = w:=(leaf_any h).mono fun e w' ⟨h1,h2⟩=>⟨by rw [h1]; simp [h0],h2⟩
set_option maxRecDepth 100000 in
set_option maxHeartbeats 4000000 in
theorem tget_ok {w:World} {F:Nat → Prop} {pb sb db n:Nat} {left:Int} {S:Int → Cn} {L:List (Int × Cn)} {N:Nat} {seq root frm:Int} {st:Cn} {tb:Nat} {vk:Value} {key:Cn} {p H:Nat} {is:List It}
  (h:Pg w F pb sb db n left S L N seq root frm st) (ht:Blk w tb TTr #[.pointer (some ⟨pb,0,none⟩)]) (htb:¬ PF F pb sb tb) (hk:BS w (fun j=>¬ PF F pb sb j) vk key)
  (hT:TrP (nowC S L) n H p is) (hH:H ≤ 32) (hr:Rise (is.map It.k)) :
  Calls Try.prog 12 #[.pointer (some ⟨tb,0,none⟩),.int .i64 (p:Int),vk] w fun e w'=>GotV w w' e (valOf is key) ∧ Pg w' F pb sb db n left S L N seq root frm st ∧ Fr (PF F pb sb) w w':=by
 have HP:=hide h
 have HT:=hide ht
 have HTB:=hide htb
 have HK:=hide hk
 have HTr:=hide hT
 have HR:=hide hr
 have HF:=hide (Fr.refl (PF F pb sb) w)
 clear h ht htb hk hT hr
 go_enter Try.func12,Try.ntmps12
 go_upto_region 2 with (go_at_call 23; (refine (talive_ok HT.out).mono ?_); rintro e w2 ⟨rfl,e2⟩; rw [e2]; clear e2)
 go_wp2_with fail
 go_loopw [1,18] (fun bx iv wr=>∃ (c p' H':Nat) (is':List It),bx = .int .i64 (p':Int) ∧ iv = .int .i64 (c:Int) ∧ c + H' ≤ 32 ∧ Hid (TrP (nowC S L) n H' p' is') ∧ Hid (Rise (is'.map It.k)) ∧ Hid (valOf is key = valOf is' key) ∧ Hid (Pg wr F pb sb db n left S L N seq root frm st) ∧ Hid (Fr (PF F pb sb) w wr)) (fun _ iv _=>32 - (intOf iv).toNat)
 case atStart=>exact ⟨0,p,H,is,rfl,by go_num,by omega,HTr,HR,hide rfl,HP,HF⟩
 case round=>
  clear HP HTr HR HF
  obtain ⟨c,p',H',is',rfl,rfl,hc,HTr,HR,HV,HP,HF⟩:=hrel
  cases H' with
  | zero=>exact HTr.out.elim
  | succ H'=>
   have hc32:c < 32:=by omega
   have HTW:=hide (show Blk wr tb TTr #[.pointer (some ⟨pb,0,none⟩)] from (HF.out.block tb HT.out.lt HTB.out).trans HT.out)
   have HKW:=hide (show BS wr (fun j=>¬ PF F pb sb j) vk key from HK.out.keep (fun j hj hlt=>HF.out.block j hlt hj) (fun j hj _=>hj))
   obtain ⟨hpg,hcase⟩:=HTr.out
   have hp1:1 ≤ p':=by
    unfold pgB at hpg
    simp at hpg
    omega
   have HPG:=hide hpg
   clear hpg
   rcases hcase with ⟨a1,a2,a3,a4⟩ | ⟨ks,a1,a2,a3,a4,a5,a6⟩
   ·have A:=hide (And.intro a1 (And.intro a2 (And.intro a3 a4)))
    clear a1 a2 a3 a4
    go_upto_region 8 with (go_at_call 27; (refine (read_leaf HP.out HTW.out (p':Int) HPG.out is' A.out.1 A.out.2.1 A.out.2.2.1 A.out.2.2.2).mono ?_); rintro e w2 ⟨⟨g,rfl,hnd⟩,hp2,hf2⟩; have HN2:=hide hnd; have HP2:=hide hp2; have HF2:=hide hf2; clear hnd hp2 hf2)
    have hl:is'.length ≤ 100000:=by
     have h1:=A.out.2.2.1
     rw [ndB_len] at h1
     have:=len_sumI is'
     omega
    have HN3:=hide (HN2.out.keep (F':=fun j=>j < w2.heap.size) (fun _ _ _=>rfl) (fun _ _ hl=>hl))
    obtain ⟨vi,vks,hb,hgF,h1,h2⟩:=HN2.out
    obtain ⟨vi',vks',hb',_,h1',_⟩:=HN3.out
    obtain ⟨rfl,rfl⟩:vi = vi' ∧ vks = vks':=by
     have:=hb.symm.trans hb'
     injection this with this
     injection this with this _ _
     simpa using this
    clear hb' h2
    have HB2:=hide hb
    have HS2:=hide h1'
    have HS2':=hide h1
    have HKW2:=hide (show BS w2 (fun j=>¬ PF F pb sb j) vk key from HKW.out.keep (fun j hj hlt=>HF2.out.block j hlt hj) (fun j hj _=>hj))
    have kg:=hb.cell; have fg:=hb.frozen; have zg:=hb.lt
    clear hb h1 h1'
    go_upto_region 12 with (go_at_call 28; (refine (leaf_yes HN3.out).mono ?_); rintro e w3 ⟨rfl,e3⟩; rw [e3]; clear e3)
    go_upto_region 13 with (go_at_call 30; (refine (search_items HS2.out HKW2.out.all hl).mono ?_); rintro e w3 ⟨k,f,rfl,hfa,hb3⟩; have HFA:=hide hfa; have HB3:=hide hb3; clear hfa hb3 kg fg zg)
    have HBb:=hide (HB2.out.below HB3.out HB2.out.lt)
    have kg:=HBb.out.cell; have fg:=HBb.out.frozen; have zg:=HBb.out.lt
    have HFo:=hide (valOf_found HR.out HFA.out)
    cases f with
    | true=>
     obtain ⟨hk,hval⟩:=HFo.out.1 rfl
     have HVal:=hide hval
     have HS9:=HS2'.out.keep @ItR.keep (F':=fun j=>wr.heap.size ≤ j ∧ j < w2.heap.size) (fun _ _ _=>rfl) (fun j hj hl=>⟨hj,hl⟩)
     obtain ⟨Ai,ci,xs,rfl,hci,hri,hli⟩:=HS9
     obtain ⟨ad,hA,had,hcell⟩:=hri.2 (by omega)
     subst hA
     obtain ⟨cs,hit,hcs⟩:=LR.at_ (k:=2) (fun a cs h=>h.two) is' xs hli k hk
     obtain ⟨a0,a1,rfl,_,hv⟩:=hit
     have HBV:=hide (show BS w3 (fun j=>w.heap.size ≤ j) a1 is'[k].v from hv.keep (fun j hj hlt=>HB3.out.block j hlt) (fun j hj _=>Nat.le_trans HF.out.size hj.1))
     have k1:=(HB3.out.cell (p:=ad.add (k * 2 + 1)) (by rw [block_of_add]; exact had.2)).trans (hcell (k * 2 + 1) _ (hcs 1 (by omega)))
     have zz0:ad.block < w3.heap.size:=Nat.lt_of_lt_of_le had.2 HB3.out.size
     have hs1:=spot_none k1
     have k2:w3.cell? ⟨(ad.add (k * 2)).block,(ad.add (k * 2)).off + 1,none⟩ = some a1:=by
      have hs0:(ad.add (k * 2)).spot = none:=by
       have:=hcell (k * 2 + 0) _ (hcs 0 (by omega))
       exact spot_none (by simpa using this)
      rw [add_plain _ 1 hs0,add_of_add]
      exact k1
     have hjc:k < ci:=by omega
     obtain ⟨yv,hyv⟩:∃ yv,is'[k].v = yv:=⟨_,rfl⟩
     rw [hyv] at HBV HVal
     clear hri hli hcs hcell hv k1 hs1 hval hyv
     obtain ⟨m,hm⟩:∃ m,is'.length = m:=⟨_,rfl⟩
     rw [hm] at hk hci kg
     clear hm
     go_wp2_with fail
     refine bodyPost_ret (v:=.tuple #[a1,.int .i64 0]) (by simp (maxDischargeDepth:=9) [results,Try.results12,go_sem]; done) rfl ⟨?_,HP2.out.below HB3.out,(HF.out.trans HF2.out (fun _ _ h=>h)).trans (Fr.low HB3.out) (fun _ _ h=>h)⟩
     rw [HV.out,HVal.out]
     exact ⟨a1,rfl,HBV.out⟩
    | false=>
     have HVN:=hide (HFo.out.2 rfl)
     go_wp2_with fail
     refine bodyPost_ret (v:=.tuple #[.slice none 0 0,.int .i64 5]) (by simp (maxDischargeDepth:=9) [results,Try.results12,go_sem]; done) rfl ⟨?_,HP2.out.below HB3.out,(HF.out.trans HF2.out (fun _ _ h=>h)).trans (Fr.low HB3.out) (fun _ _ h=>h)⟩
     rw [HV.out,HVN.out]
     rfl
   ·obtain ⟨km,hkm⟩:∃ km,ks.map Prod.fst = km:=⟨_,rfl⟩
    have HKM:=hide hkm
    rw [hkm] at a3 a4
    have hk0:km ≠ []:=by rw [← hkm]; simpa using a1
    have hkd:∀ i ∈ km,kdOk i:=by
     intro i hi
     rw [← hkm] at hi
     obtain ⟨x,hx,rfl⟩:=List.mem_map.1 hi
     exact a2 x hx
    have A:=hide (And.intro hk0 (And.intro hkd (And.intro a3 a4)))
    have HE:=hide a5
    have HKids:=hide a6
    have hlk:0 < km.length:=List.length_pos_iff.2 hk0
    clear a1 a2 a3 a4 a5 a6 hk0 hkd hkm
    go_upto_region 8 with (go_at_call 27; (refine (read_inner HP.out HTW.out (p':Int) HPG.out km A.out.1 A.out.2.1 A.out.2.2.1 A.out.2.2.2).mono ?_); rintro e w2 ⟨⟨g,rfl,hnd⟩,hp2,hf2⟩; have HN2:=hide hnd; have HP2:=hide hp2; have HF2:=hide hf2; clear hnd hp2 hf2)
    have hl:km.length ≤ 100000:=by
     have h1:=A.out.2.2.1
     rw [ndB_len] at h1
     have:=len_sumK km
     omega
    have HN3:=hide (HN2.out.keep (F':=fun j=>j < w2.heap.size) (fun _ _ _=>rfl) (fun _ _ hl=>hl))
    obtain ⟨vi,vks,hb,_,_,h2⟩:=HN3.out
    obtain ⟨Ai,ci,xs,rfl,hci,hri,hli⟩:=h2
    obtain ⟨ad,hA,had,hcell⟩:=hri.2 (by omega)
    subst hA
    have HC:=hide (show ∀ k,k < km.length → w2.cell? ⟨(ad.add (k * 2)).block,(ad.add (k * 2)).off + 1,none⟩ = some (.int .i64 (((km.map Kd.p).getD k 0:Nat):Int)) from fun k hk=>by
     obtain ⟨cs,hit,hcs⟩:=LR.at_ (k:=2) (fun a cs h=>h.two) km xs hli k hk
     obtain ⟨a0,rfl,_⟩:=hit
     have q0:=hcell (k * 2 + 0) _ (hcs 0 (by omega))
     have q1:=hcell (k * 2 + 1) _ (hcs 1 (by omega))
     rw [(two_cells (by simpa using q0) q1).2]
     simp [List.getD,hk])
    have HSP:=hide (show ∀ k,k < km.length → (ad.add (k * 2)).spot = none from fun k hk=>by
     obtain ⟨cs,hit,hcs⟩:=LR.at_ (k:=2) (fun a cs h=>h.two) km xs hli k hk
     obtain ⟨a0,rfl,_⟩:=hit
     have q0:=hcell (k * 2 + 0) _ (hcs 0 (by omega))
     exact spot_none (by simpa using q0))
    have HBd:=hide hb
    have HKW2:=hide (show BS w2 (fun j=>¬ PF F pb sb j) vk key from HKW.out.keep (fun j hj hlt=>HF2.out.block j hlt hj) (fun j hj _=>hj))
    clear hb hri hli hcell
    go_upto_region 11 with (go_at_call 28; (refine (leaf_no HN3.out A.out.1).mono ?_); rintro e w3 ⟨rfl,e3⟩; rw [e3]; clear e3)
    obtain ⟨M,hM⟩:∃ M,km.length = M:=⟨_,rfl⟩
    have HM:=hide hM
    rw [hM] at hci hlk hl HBd
    clear hM
    refine wp_region_facts (by kernel_rfl) (by kernel_rfl) 63
     [⟨34,fun v _=>v = .pointer (some ⟨g,0,none⟩)⟩,
      ⟨35,fun v _=>v = .pointer (some ⟨g,0,none⟩)⟩,
      ⟨36,fun v _=>v = .pointer (some ⟨g,1,none⟩)⟩,
      ⟨37,fun v _=>v = .slice (some ad) M ci⟩,
      ⟨38,fun v _=>v = .pointer (some ⟨g,0,none⟩)⟩,
      ⟨39,fun v _=>v = vk⟩,
      ⟨40,fun v _=>∃ k:Nat,v = .int .i64 (k:Int) ∧ DownAt (km.map Kd.k) key k⟩,
      ⟨41,fun v _=>∃ k:Nat,v = .pointer (some (ad.add (k * 2))) ∧ DownAt (km.map Kd.k) key k⟩,
      ⟨42,fun v _=>∃ k:Nat,v = .pointer (some ⟨(ad.add (k * 2)).block,(ad.add (k * 2)).off + 1,none⟩) ∧ DownAt (km.map Kd.k) key k⟩,
      ⟨43,fun v _=>∃ k:Nat,v = .int .i64 (((km.map Kd.p).getD k 0:Nat):Int) ∧ DownAt (km.map Kd.k) key k⟩,
      ⟨1,fun v _=>∃ k:Nat,v = .int .i64 (((km.map Kd.p).getD k 0:Nat):Int) ∧ DownAt (km.map Kd.k) key k⟩] (by kernel_rfl) rfl rfl ?_ ?_ ?_
    ·intro e he v w w' _ hb hv
     simp only [List.mem_cons,List.not_mem_nil,or_false] at he
     rcases he with rfl | rfl | rfl | rfl | rfl | rfl | rfl | rfl | rfl | rfl | rfl
     all_goals first | exact hv
    ·refine ⟨?_,?_,?_,?_,?_,?_,?_,?_,?_,?_,?_,trivial⟩
     ·intro ac w3 hg hd K hK
      exact op_move _ rfl (hK _ _ (Below.refl _ _) (hg.kp 9 (by simp)))
     ·intro ac w3 hg hd K hK
      have f0:=hd ⟨0,.data⟩ (by simp) rfl _ rfl
      (try simp [Act.eval] at f0)
      go_simp
      exact hK _ _ (Below.refl _ _) rfl
     ·intro ac w3 hg hd K hK
      have f1:=hd ⟨1,.data⟩ (by simp) rfl _ rfl
      (try simp [Act.eval] at f1)
      go_simp
      exact hK _ _ (Below.refl _ _) rfl
     ·intro ac w3 hg hd K hK
      have HBw:=HBd.out.below hg.hb HBd.out.lt
      have kk:=HBw.cell 1
      have zz:=HBw.lt
      simp at kk
      have f2:=hd ⟨2,.data⟩ (by simp) rfl _ rfl
      (try simp [Act.eval] at f2)
      go_simp
      exact hK _ _ (Below.refl _ _) rfl
     ·intro ac w3 hg hd K hK
      exact op_move _ rfl (hK _ _ (Below.refl _ _) (hg.kp 9 (by simp)))
     ·intro ac w3 hg hd K hK
      exact op_move _ rfl (hK _ _ (Below.refl _ _) (hg.kp 2 (by simp)))
     ·intro ac w3 hg hd K hK
      have f4:=hd ⟨4,.data⟩ (by simp) rfl _ rfl
      have f5:=hd ⟨5,.data⟩ (by simp) rfl _ rfl
      simp [Act.eval] at f4 f5
      go_simp
      refine (ndown_any (HN3.out.keep (F':=fun j=>j < w3.heap.size) (fun j hj _=>hg.hb.block j hj) (fun j hj _=>Nat.lt_of_lt_of_le hj hg.hb.size)) (HKW2.out.all.later hg.hb) (by rw [HM.out]; exact hl)).mono ?_
      rintro e w4 ⟨k,rfl,hdn,hbb⟩
      exact hK _ _ hbb ⟨k,rfl,hdn⟩
     ·intro ac w3 hg hd K hK
      have f3:=hd ⟨3,.data⟩ (by simp) rfl _ rfl
      obtain ⟨k,f6,hdn⟩:=hd ⟨6,.data⟩ (by simp) rfl _ rfl
      have hkl:=hdn.lt (by rw [List.length_map,HM.out]; exact hlk)
      rw [List.length_map,HM.out] at hkl
      have hkc:k < ci:=by omega
      simp [Act.eval] at f3 f6
      go_simp
      exact hK _ _ (Below.refl _ _) ⟨k,rfl,hdn⟩
     ·intro ac w3 hg hd K hK
      obtain ⟨k,f7,hdn⟩:=hd ⟨7,.data⟩ (by simp) rfl _ rfl
      have hs0:=HSP.out k (by have:=hdn.lt (by rw [List.length_map,HM.out]; exact hlk); rwa [List.length_map] at this)
      simp [Act.eval] at f7
      go_simp
      exact hK _ _ (Below.refl _ _) ⟨k,rfl,hdn⟩
     ·intro ac w3 hg hd K hK
      obtain ⟨k,f8,hdn⟩:=hd ⟨8,.data⟩ (by simp) rfl _ rfl
      have hkl:=hdn.lt (by rw [List.length_map,HM.out]; exact hlk)
      rw [List.length_map] at hkl
      have kk:=(hg.hb.cell (p:=⟨(ad.add (k * 2)).block,(ad.add (k * 2)).off + 1,none⟩) (show (ad.add (k * 2)).block < w2.heap.size by rw [block_of_add]; exact had)).trans (HC.out k hkl)
      have zz:ad.block < w3.heap.size:=Nat.lt_of_lt_of_le had hg.hb.size
      simp [Act.eval] at f8
      go_simp
      exact hK _ _ (Below.refl _ _) ⟨k,by first | rfl | simp [List.getD,hkl],hdn⟩
     ·intro ac w3 hg hd K hK
      exact op_assign _ rfl (hK _ _ (Below.refl _ _) (hd ⟨9,.data⟩ (by simp) rfl _ rfl))
    ·intro f w5 hb5 hall
     obtain ⟨k,h1,hdn⟩:=hall ⟨1,fun v _=>∃ k:Nat,v = .int .i64 (((km.map Kd.p).getD k 0:Nat):Int) ∧ DownAt (km.map Kd.k) key k⟩ (by simp)
     simp only [fillF,List.map_cons,List.map_nil,List.foldl_cons,List.foldl_nil,Act.put,List.setIfInBounds_toArray,List.set_cons_zero,List.set_cons_succ]
     rw [h1]
     clear h1 hall
     have HB5:=hide hb5
     clear hb5
     have hkl:=hdn.lt (by rw [List.length_map,HM.out]; exact hlk)
     have hks:k < ks.length:=by rw [← HKM.out] at hkl; simpa using hkl
     have hrise:=HR.out
     rw [HE.out] at hrise
     have hds:=descend hrise (fun x hx=>(HKids.out x hx).2) (key:=key) (k:=k) (by rw [HKM.out]; exact hdn) hks
     obtain ⟨pq,hpq⟩:∃ pq,(km.map Kd.p).getD k 0 = pq:=⟨_,rfl⟩
     have hpk:ks[k].1.p = pq:=by rw [← hpq,← HKM.out]; simp [List.getD,hks]
     have HT9:=hide (show TrP (nowC S L) n H' pq ks[k].2 from hpk ▸ (HKids.out ks[k] (List.getElem_mem hks)).1)
     have HR9:=hide hds.2
     have HV9:=hide (show valOf is key = valOf ks[k].2 key from by rw [HV.out,HE.out]; exact hds.1)
     have HP9:=hide (HP2.out.below HB5.out)
     have HF9:=hide ((HF.out.trans HF2.out (fun _ _ h=>h)).trans (Fr.low HB5.out) (fun _ _ h=>h))
     rw [hpq]
     clear hpq hpk hds hrise hdn hkl
     obtain ⟨is9,his9⟩:∃ is9,ks[k].2 = is9:=⟨_,rfl⟩
     rw [his9] at HT9 HR9 HV9
     clear his9 hks
     go_wp2_with fail
     go_roundw
     ·exact ⟨c + 1,pq,H',is9,rfl,by go_num,by omega,HT9,HR9,HV9,HP9,HF9⟩
     ·simp [intOf]
      omega
end Go.Proofs.Ytkolacaceaamoaa
/- The tree: Get where there is nothing. -/
namespace Go.Proofs.Ytkolacaceaamoaa
open Go.RowKit
set_option maxRecDepth 100000 in
theorem tget_zero {w:World} {tb pb:Nat} {vk:Value} (ht:Blk w tb TTr #[.pointer (some ⟨pb,0,none⟩)]) :
  Calls Try.prog 12 #[.pointer (some ⟨tb,0,none⟩),.int .i64 0,vk] w fun e w'=>e = .returned (.tuple #[.slice none 0 0,.int .i64 5]) ∧ w' = w:=by
 have HT:=hide ht
 clear ht
 go_enter Try.func12,Try.ntmps12
 go_upto_region 2 with (go_at_call 23; (refine (talive_ok HT.out).mono ?_); rintro e w2 ⟨rfl,e2⟩; rw [e2]; clear e2)
 go_wp2_with fail
 go_loopw [1,18] (fun bx iv wr=>bx = .int .i64 0 ∧ iv = .int .i64 0 ∧ wr = w) (fun _ iv _=>32 - (intOf iv).toNat)
 case atStart=>exact ⟨rfl,rfl,rfl⟩
 case round=>
  obtain ⟨rfl,rfl,rfl⟩:=hrel
  go_wp2_with fail
  refine bodyPost_ret (v:=.tuple #[.slice none 0 0,.int .i64 5]) (by simp (maxDischargeDepth:=9) [results,Try.results12,go_sem]; done) rfl ⟨rfl,rfl⟩
/-- A tree that can't do anything. -/
def noTree (w:World) (t:Value):Prop:=t = .pointer none ∨ ∃ tb,t = .pointer (some ⟨tb,0,none⟩) ∧ Blk w tb TTr #[.pointer none]
end Go.Proofs.Ytkolacaceaamoaa
/- The tree: sizes; Scan of a tree that can't do anything. -/
namespace Go.Proofs.Ytkolacaceaamoaa
open Go.RowKit
set_option maxRecDepth 100000 in
theorem sizeItem_any {w:World} {A B:Option Addr} {n c m d:Nat} (hn:n ≤ 100000) (hm:m ≤ 100000) :
  Calls Try.prog 70 #[.agg #[.slice A n c,.slice B m d]] w fun e w'=>e = .returned (.int .i64 ((2 + n + m:Nat):Int)) ∧ Below w.heap.size w w':=by
 obtain ⟨w1,hw1⟩:∃ y,w.alloc (.cells #[.slice A n c,.slice B m d] TIt) = y:=⟨_,rfl⟩
 have HB1:=hide (show Below w.heap.size w w1 from hw1 ▸ al_below w _)
 have HC1:=hide (show Blk w1 w.heap.size TIt #[.slice A n c,.slice B m d] from hw1 ▸ Blk.new _ _ _)
 have HW1:=hide hw1
 clear hw1
 go_enter Try.func70,Try.ntmps70
 go_upto_region 1 with fail
 rw [HW1.out]
 have kv:=HC1.out.cell; have fv:=HC1.out.frozen; have zv:=HC1.out.lt
 go_wp2_with fail
 go_ret
 refine ⟨?_,HB1.out⟩
 have e:((2 + n + m:Nat):Int) = 2 + (n:Int) + (m:Int):=by push_cast; rfl
 rw [e]
 rfl
set_option maxRecDepth 100000 in
theorem sizeKid_any {w:World} {A:Option Addr} {n c:Nat} {p:Int} (hn:n ≤ 100000) :
  Calls Try.prog 58 #[.agg #[.slice A n c,.int .i64 p]] w fun e w'=>e = .returned (.int .i64 ((5 + n:Nat):Int)) ∧ Below w.heap.size w w':=by
 obtain ⟨w1,hw1⟩:∃ y,w.alloc (.cells #[.slice A n c,.int .i64 p] TKd) = y:=⟨_,rfl⟩
 have HB1:=hide (show Below w.heap.size w w1 from hw1 ▸ al_below w _)
 have HC1:=hide (show Blk w1 w.heap.size TKd #[.slice A n c,.int .i64 p] from hw1 ▸ Blk.new _ _ _)
 have HW1:=hide hw1
 clear hw1
 go_enter Try.func58,Try.ntmps58
 go_upto_region 1 with fail
 rw [HW1.out]
 have kv:=HC1.out.cell; have fv:=HC1.out.frozen; have zv:=HC1.out.lt
 go_wp2_with fail
 go_ret
 refine ⟨?_,HB1.out⟩
 have e:((5 + n:Nat):Int) = 5 + (n:Int):=by push_cast; rfl
 rw [e]
 rfl
end Go.Proofs.Ytkolacaceaamoaa
