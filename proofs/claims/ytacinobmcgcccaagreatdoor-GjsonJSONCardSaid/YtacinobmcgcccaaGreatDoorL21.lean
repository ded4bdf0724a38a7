/- The JSON reader: a string. -/
import Derived.Test.YtacinobmcgcccaaGreatDoorL20
import Derived.Test.YtacinobmcgcccaaGreatDoorL09
import Derived.Lib.MapLaws
set_option linter.unusedSimpArgs false
set_option linter.unusedVariables false
namespace Go.Proofs.YtacinobmcgcccaaGreatDoor
open Go.RowKit
abbrev Tabs (w:World):Prop:=Lib.Utf8Tabs 0 1 w
theorem cell_lt' {w:World} {p:Addr} {v:Value} (h:w.cell? p=some v):p.block<w.heap.size:=by
 rcases Nat.lt_or_ge p.block w.heap.size with h'|h'
 ·exact h'
 ·simp [World.cell?,Array.getElem?_eq_none h'] at h
theorem Tabs.keep {w w':World} (h:Tabs w) (hk:∀ p:Addr,p.block<2→w.cell? p=w'.cell? p):Tabs w':=
 ⟨fun c hc=>(hk ⟨0,c,none⟩ (by show 0<2;omega)).symm.trans (h.1 c hc),fun i hi=>⟨(hk ⟨1,2 * i,none⟩ (by show 1<2;omega)).symm.trans (h.2 i hi).1,(hk ⟨1,2 * i+1,none⟩ (by show 1<2;omega)).symm.trans (h.2 i hi).2⟩⟩
theorem Tabs.size {w:World} (h:Tabs w):2≤w.heap.size:=by
 have:=cell_lt' (h.2 0 (by decide)).1;simp at this;omega
theorem Tabs.below {w w':World} (h:Tabs w) (hb:Below w.heap.size w w'):Tabs w':=h.keep fun p hp=>(hb.cell (by have:=h.size;omega)).symm
theorem spot_none {w:World} {p:Addr} {v:Value} (h:w.cell? p=some v):p.spot=none:=by
 unfold World.cell? at h;split at h
 ·cases hs:p.spot with
  | none=>rfl
  | some s=>rw [hs] at h;simp at h
 ·cases h
def chW (s:L8):Nat:=if (Lib.decodeL s).1=65533∧(Lib.decodeL s).2=1 then 0 else (Lib.decodeL s).2
def strF:Nat→L8→L8→Nat→Option (L8 × Nat)
 | 0,_,_,_=>none
 | _+1,[],_,_=>none
 | f+1,c :: t,out,i=>
   if c.toNat=34 then some (out,i+1)
   else if c.toNat=92 then
    match escS t with
    | none=>none
    | some (x,d)=>strF f (t.drop d) (out++x) (i+1+d)
   else if c.toNat<32 then none
   else if chW (c :: t)=0 then none
   else strF f ((c :: t).drop (chW (c :: t))) (out++(c :: t).take (chW (c :: t))) (i+chW (c :: t))
def strS (s:L8):Option (L8 × Nat):=strF (s.length+1) s [] 0
theorem escS_len {s x:L8} {d:Nat} (h:escS s=some (x,d)):1≤d∧d≤11∧x.length≤4 * d:=by
 have hr:∀ r:Int,(Lib.encodeRune r).length≤4:=fun r=>by have:=Lib.runeCells_le r;rw [Lib.runeCells_length] at this;exact this.2
 unfold escS at h;split at h
 ·simp at h;obtain ⟨rfl,rfl⟩:=h;simp
 ·split at h
  ·split at h
   ·cases h
   ·split at h
    ·split at h
     ·cases h
     ·split at h
      ·simp at h;obtain ⟨rfl,rfl⟩:=h;have:=hr;exact ⟨by omega,by omega,Nat.le_trans (hr _) (by omega)⟩
      ·cases h
    ·split at h
     ·cases h
     ·simp at h;obtain ⟨rfl,rfl⟩:=h;exact ⟨by omega,by omega,Nat.le_trans (hr _) (by omega)⟩
  ·cases h
section
variable {w w' w0:World} {rb:Nat} {A:Option Addr} {n c:Nat} {b l:L8} {at_ k ta bb:Nat} {tx:L8}
theorem escape_any (at0:Nat) (x0:Int) (hx0:x0=(at0:Int)) (ha0:at0≤1000000) (h:Rd w0 rb A n c b at_ k ta tx) (hw:Below w0.heap.size w0 w) (hb:IsB w0.heap.size bb l w) (hl:l.length≤1048576) :
 Calls Tryz.prog 126 #[.pointer (some ⟨rb,0,none⟩),.pointer (some ⟨bb,0,none⟩),.int .i64 x0] w fun e w'=>
  (∃ x d,escS (b.drop at0)=some (x,d)∧e=.returned (.int .i64 ((at0+d:Nat):Int))∧BuAt w0.heap.size bb (l++x) w'∧Below w0.heap.size w w')∨(escS (b.drop at0)=none∧e=.panicked (flt ta 11)∧Below w0.heap.size w w'):=by
 cases hs:isS (b.drop at0) escFrom
 ·exact escape_long at0 x0 hx0 ha0 h hw hb hl hs
 ·refine (escape_short at0 x0 hx0 ha0 h hw hb hl hs).mono ?_;rintro e w' ⟨rfl,h1,h2⟩;exact .inl ⟨_,1,by unfold escS;rw [if_pos hs],rfl,h1,h2⟩
theorem esc_no {o:Option (L8 × Nat)} {y:L8} {d:Nat} (h:o=some (y,d)) (k:o=none):False:=by rw [h] at k;cases k
theorem esc_uni {o:Option (L8 × Nat)} {y y':L8} {d d':Nat} (h:o=some (y,d)) (k:o=some (y',d')):y=y'∧d=d':=by
 have:=Option.some.inj (h.symm.trans k);injection this with e1 e2;exact ⟨e1,e2⟩
theorem add_plain (q:Addr) (j:Nat) (h:q.spot=none):(⟨q.block,q.off+j,none⟩:Addr)=q.add j:=by
 obtain ⟨x,o,s⟩:=q;simp at h;subst h;unfold Addr.add;by_cases h0:j=0
 ·subst h0;simp
 ·simp [h0]
theorem rune_at' {B:Nat} (r x:Int) (hx:x=r) (hr0:-2147483648≤r) (hr1:r≤2147483647) (h:IsB B bb l w) (hl:l.length≤1048576) (hBw:B≤w.heap.size) :
 Calls Tryz.prog 128 #[.pointer (some ⟨bb,0,none⟩),.int .i32 x] w fun e w'=>(∃ v,e=.returned v)∧BuAt B bb (l++Lib.encodeRune r) w'∧Below B w w':=by
 subst hx;exact rune_any x hr0 hr1 h hl hBw
theorem rune_at (i:Nat) (hi:i<n) (h:Rd w0 rb A n c b at_ k ta tx) (hw:Below w0.heap.size w0 w) (hT:Tabs w0) (ad:Addr) (hA:A=some ad) (p:Addr) (m:Nat) (cc:Nat) (hp:p=ad.add i) (hm:m=n - i) :
 Calls Tryz.prog 127 #[.slice (some p) m cc] w fun e w'=>e=.returned (.tuple #[.int .i32 ((Lib.decodeL (b.drop i)).1:Int),.int .i64 ((Lib.decodeL (b.drop i)).2:Int)])∧Below w.heap.size w w':=by
 subst hA hp hm;have hl:=h.len;have hd:(b.drop i).length=n - i:=by rw [List.length_drop,hl]
 obtain ⟨ad',e,hab,hc0⟩:=RB.at_ h.rd hi (by omega);injection e with e;subst e;have hsp:(ad.add i).spot=none:=spot_none hc0;have e1:ad.add i=⟨(ad.add i).block,(ad.add i).off,none⟩:=by rw [← hsp]
 have ht:=Tryz.utf8_DecodeRune ⟨(b.drop i).toArray⟩ (ad.add i).block (ad.add i).off cc w (hT.below hw) (fun j hj=>by
  have hj':j<n - i:=by simpa [ByteArray.size,hl] using hj
  obtain ⟨ad',e,hab',hc⟩:=RB.at_ (h.below hw).rd (k:=i+j) (by omega) (by omega);injection e with e;subst e;have e2:(⟨(ad.add i).block,(ad.add i).off+j,none⟩:Addr)=ad.add (i+j):=by
   rw [← add_of_add];exact add_plain _ j hsp
  rw [e2,hc];congr 2;show _=((((b.drop i).toArray)[j]!).toNat:Int);rw [getElem!_pos _ _ (by simpa [hl] using hj')];simp)
 have e3:(⟨(b.drop i).toArray⟩:ByteArray).size=n - i:=by simp [ByteArray.size,hl]
 rw [e3] at ht;rw [e1];refine ht.mono ?_;rintro e w' ⟨rfl,hb⟩;refine ⟨?_,hb⟩;have e4:Lib.decodeGo ⟨(b.drop i).toArray⟩=Lib.decodeL (b.drop i):=by
  unfold Lib.decodeGo Lib.decodeL;rw [e3,if_neg (by omega)]
 rw [e4]
theorem strF_at (f i d:Nat) (o:L8) (h:i<b.length):strF (f+1) (b.drop i) o d =
 if b[i].toNat=34 then some (o,d+1)
 else if b[i].toNat=92 then
  match escS (b.drop (i+1)) with
  | none=>none
  | some (x,e)=>strF f (b.drop (i+1+e)) (o++x) (d+1+e)
 else if b[i].toNat<32 then none
 else if chW (b.drop i)=0 then none
 else strF f (b.drop (i+chW (b.drop i))) (o++(b.drop i).take (chW (b.drop i))) (d+chW (b.drop i)):=by
 conv=>lhs;rw [drop_cons h]
 simp only [strF];rw [← drop_cons h];simp only [List.drop_drop]
theorem chW_ok {s:L8} (hs:s≠[]) (h:¬ ((Lib.decodeL s).1=65533∧(Lib.decodeL s).2=1)):chW s=(Lib.decodeL s).2∧s.take (chW s)=Lib.encodeRune ((Lib.decodeL s).1:Int):=by
 have e:chW s=(Lib.decodeL s).2:=by unfold chW;rw [if_neg h]
 exact ⟨e,by rw [e,Lib.encode_decode s hs h]⟩
theorem decodeL_max (s:L8):1≤(Lib.decodeL s).2∧(Lib.decodeL s).2≤4∧(Lib.decodeL s).1≤1114111:=by
 have h0:=(s.getD 0 0).toNat_lt;rw [Lib.decodeL_N];rcases Lib.decodeN_shape s.length (s.getD 0 0).toNat (s.getD 1 0).toNat (s.getD 2 0).toNat (s.getD 3 0).toNat with ⟨c,e⟩|⟨c1,c2,c3,cv,e⟩|⟨c1,c2,c3,c4,cv,cs,e⟩|⟨c1,c2,c3,c4,c5,cv,cw,e⟩|e
 all_goals (rw [e];dsimp only;omega)
set_option maxRecDepth 100000 in
set_option maxHeartbeats 4000000 in
theorem str_any (h:Rd w rb A n c b at_ k ta tx) (hat:at_<n) (hT:Tabs w) :
 Calls Tryz.prog 75 #[.pointer (some ⟨rb,0,none⟩)] w fun e w'=>
  (∃ t d,strS (b.drop (at_+1))=some (t,d)∧e=.returned (.tuple #[])∧Rd w' rb A n c b (at_+1+d) 5 ta t∧w.grownBy w' (some rb))∨(strS (b.drop (at_+1))=none∧e=.panicked (flt ta 11)∧Below w.heap.size w w'):=by
 have H:=hide h;have HL:=hide h.len;have hn:=h.hn;have HX:=hide (show ∀ i,i<n → ∀ hl:i<b.length,∃ ad,A=some ad∧ad.block<w.heap.size∧w.cell? (ad.add i)=some (.int .u8 (b[i].toNat:Int)) from fun i hi hl=>RB.at_ h.rd hi hl);have HT:=hide hT;have kr:=h.blk.cell;have fr:=h.blk.frozen;have zr:=h.blk.lt;obtain ⟨S0,hS0⟩:∃ S0,strS (b.drop (at_+1))=S0:=⟨_,rfl⟩;have HS0:=hide (show strF ((b.drop (at_+1)).length+1) (b.drop (at_+1)) [] 0=S0 from hS0);rw [hS0];clear h hT hS0;have HU:=hide (show IsB w.heap.size w.heap.size [] (w.alloc (.cells #[.pointer none,.slice none 0 0] TBu)) from Lib.fresh_isBuilder TBu T8 w);have HB:=hide (al_below w (.cells #[.pointer none,.slice none 0 0] TBu))
 go_enter Tryz.func75,Tryz.ntmps75
 go_wp2_with fail
 clear kr fr zr
 go_loopw [3] (fun iv wr=>∃ (i f:Nat) (o:L8),at_+1≤i∧i≤n+12∧iv=.int .i64 (i:Int)∧Hid (Below w.heap.size w wr)∧Hid (IsB w.heap.size w.heap.size o wr)∧Hid (strF (f+1) (b.drop i) o (i - (at_+1))=S0)∧o.length≤4 * i∧Hid ((b.drop i).length≤f)) (fun iv _=>n - (intOf iv).toNat)
 case atStart=>exact ⟨at_+1,_,[],by omega,by omega,by go_num,HB,HU,hide (by rw [Nat.sub_self];exact HS0.out),by simp,hide (Nat.le_refl _)⟩
 case round=>
  obtain ⟨i,f,o,hi,hin,rfl,HBr,HUr,HR,ho,HF⟩:=hrel;clear HB HU HS0;have kr:=(H.out.below HBr.out).blk.cell;have fr:=(H.out.below HBr.out).blk.frozen;have zr:=(H.out.below HBr.out).blk.lt;by_cases hlt:i<n
  ·have hib:i<b.length:=by rw [HL.out];exact hlt
   obtain ⟨ad,hA,hab,hcell⟩:=HX.out i hlt hib;subst hA;have HFS:=hide (strF_at f i (i - (at_+1)) o hib);obtain ⟨x,hx⟩:∃ x,b[i]=x:=⟨_,rfl⟩;rw [hx] at hcell HFS;have HNE:=hide (show b.drop i≠[] by intro e;have:=congrArg List.length e;rw [List.length_drop] at this;simp at this;omega);have HC:=hide (show ∀ w2,Below w.heap.size w w2→w2.cell? (ad.add i)=some (.int .u8 (x.toNat:Int)) from fun w2 hb=>(hb.cell (by rw [block_of_add];exact hab)).trans hcell);have zx:ad.block<w.heap.size:=hab;have cx:=HC.out _ HBr.out;have HF1:=hide (show (b.drop (i+1)).length≤f - 1∧1≤f by have:=HF.out;rw [List.length_drop] at this ⊢;omega);clear hcell hx hib hab;by_cases h34:x.toNat=34
   ·have d34:decide ((x.toNat:Int)=34)=true:=by simp;omega
    have HE:=hide (show S0=some (o,i - (at_+1)+1) by rw [← HR.out,HFS.out,if_pos h34]);clear HR HFS HF HF1 HX;go_wp2_with (go_at_call 125;(refine (Tryz.Builder_String_any w.heap.size w.heap.size o wr HUr.out HBr.out.size).mono ?_);rintro e w6 ⟨rfl,hb⟩;have HB6:=hide (HBr.out.trans hb);clear hb;have kr6:=(H.out.below HB6.out).blk.cell;have fr6:=(H.out.below HB6.out).blk.frozen;have zr6:=(H.out.below HB6.out).blk.lt)
    have HQ:=H.out.below HB6.out;refine ⟨rfl,.tuple #[],results_none rfl _ _ _,.inl ⟨o,i - (at_+1)+1,HE.out,rfl,?_,gb_trans (gb_trans (gb_trans (gb_below HB6.out) (gby_set w6 rb 2 _)) (gby_set _ rb 4 _)) (gby_set _ rb 1 _)⟩⟩;rw [show at_+1+(i - (at_+1)+1)=i+1 by omega];exact HQ.own (gb_trans (gb_trans (gby_set w6 rb 2 _) (gby_set _ rb 4 _)) (gby_set _ rb 1 _)) (((HQ.blk.set_ 2 (.int .i64 5)).set_ 4 (.string ⟨o.toArray⟩)).set_ 1 (.int .i64 ((i:Int)+1))) (by omega)
   ·have d34:decide ((x.toNat:Int)=34)=false:=by simp;omega
    by_cases h92:x.toNat=92
    ·have d92:decide ((x.toNat:Int)=92)=true:=by simp;omega
     cases hes:escS (b.drop (i+1)) with
     | none=>
       have HES:=hide hes;have HE:=hide (show S0=none by rw [← HR.out,HFS.out,if_neg h34,if_pos h92,hes]);clear HR HFS HF HF1 HX hes;go_wp2_with (go_at_call 126;(refine (escape_any (i+1) _ (by omega) (by omega) H.out HBr.out HUr.out (by omega)).mono ?_);rintro e w6 (⟨y,d,he,rfl,hB,hb⟩|⟨he,rfl,hb⟩);(exact (esc_no he HES.out).elim);have HB9:=hide (HBr.out.trans hb);clear hb he)
       exact ⟨rfl,.inr ⟨HE.out,rfl,HB9.out⟩⟩
     | some yd=>
       obtain ⟨y,d⟩:=yd;have HES:=hide hes;have hyd:=escS_len hes;have HE:=hide (show strF f (b.drop (i+1+d)) (o++y) (i - (at_+1)+1+d)=S0 by rw [← HR.out,HFS.out,if_neg h34,if_pos h92,hes]);clear HR HFS HX hes;go_wp2_with (go_at_call 126;(refine (escape_any (i+1) _ (by omega) (by omega) H.out HBr.out HUr.out (by omega)).mono ?_);rintro e w6 (⟨y',d',he,rfl,hB,hb⟩|⟨he,rfl,hb⟩);rotate_left;(exact (esc_no HES.out he).elim);(obtain ⟨rfl,rfl⟩:=esc_uni HES.out he);have HB6:=hide (HBr.out.trans hb);have HU6:=hide hB;clear hb he hB)
       go_roundw
       case rel=>exact ⟨i+1+d,f - 1,o++y,by omega,by omega,by go_num,HB6,hide (.inr HU6.out),hide (by rw [show f - 1+1=f by have:=HF1.out;omega,show i+1+d - (at_+1)=i - (at_+1)+1+d by omega];exact HE.out),by rw [List.length_append];omega,hide (by have:=HF1.out.1;rw [List.length_drop] at this ⊢;omega)⟩
       case measure=>simp [intOf];omega
    ·have d92:decide ((x.toNat:Int)=92)=false:=by simp;omega
     by_cases h32:x.toNat<32
     ·have d32:decide ((x.toNat:Int)<32)=true:=by simp;omega
      have HE:=hide (show S0=none by rw [← HR.out,HFS.out,if_neg h34,if_neg h92,if_pos h32]);clear HR HFS HF HF1 HX;go_wp2_with (go_at_call 35;(refine (fail_any 11 (H.out.below HBr.out)).mono ?_);rintro e w9 ⟨rfl,hb⟩;have HB9:=hide (HBr.out.trans (hb.mono HBr.out.size));clear hb)
      exact ⟨rfl,.inr ⟨HE.out,rfl,HB9.out⟩⟩
     ·have d32:decide ((x.toNat:Int)<32)=false:=by simp;omega
      have hcn:=H.out.hc;have hcc:¬ c=i:=by omega
      have hcd:i<c:=by omega
      have hce:i≤c:=by omega
      obtain ⟨hq1,hq4,hrr⟩:=decodeL_max (b.drop i);have hdec:=decodeL_max (b.drop i);by_cases hbad:(Lib.decodeL (b.drop i)).1=65533∧(Lib.decodeL (b.drop i)).2=1
      ·have HRR:=hide hbad.1;have HQQ:=hide hbad.2;have HE:=hide (show S0=none by rw [← HR.out,HFS.out,if_neg h34,if_neg h92,if_neg h32,if_pos (by unfold chW;rw [if_pos hbad])]);clear HR HFS HF HF1 HX hbad hdec hq1 hq4 hrr;go_wp2_with (first|(go_at_call 35;(refine (fail_any 11 (H.out.below HB6.out)).mono ?_);rintro e w9 ⟨rfl,hb⟩;have HB9:=hide (HB6.out.trans (hb.mono HB6.out.size));clear hb)|(go_at_call 127;(refine (rune_at i hlt H.out HBr.out HT.out ad rfl _ _ _ rfl rfl).mono ?_);rw [HRR.out,HQQ.out];rintro e w6 ⟨rfl,hb⟩;have HB6:=hide (HBr.out.trans (hb.mono HBr.out.size));have HU6:=hide (bu_kept HUr.out hb);clear hb))
       exact ⟨rfl,.inr ⟨HE.out,rfl,HB9.out⟩⟩
      ·obtain ⟨hc1,hc2⟩:=chW_ok HNE.out hbad;have HE:=hide (show strF f (b.drop (i+chW (b.drop i))) (o++(b.drop i).take (chW (b.drop i))) (i - (at_+1)+chW (b.drop i))=S0 by rw [← HR.out,HFS.out,if_neg h34,if_neg h92,if_neg h32,if_neg (by omega)]);rw [hc2,hc1] at HE;have HLE:=hide (show (Lib.encodeRune ((Lib.decodeL (b.drop i)).1:Int)).length≤(Lib.decodeL (b.drop i)).2 by rw [← hc2,← hc1,List.length_take];omega);have HWN:=hide (show i+(Lib.decodeL (b.drop i)).2≤n+4 by omega);obtain ⟨r,hr⟩:∃ r,(Lib.decodeL (b.drop i)).1=r:=⟨_,rfl⟩;obtain ⟨q,hq⟩:∃ q,(Lib.decodeL (b.drop i)).2=q:=⟨_,rfl⟩;have HRR:=hide hr;have HQQ:=hide hq;rw [hr,hq] at HE HLE hbad;rw [hq] at hq1 hq4 HWN;rw [hr] at hrr;clear HR HFS HX hc1 hc2 hdec hr hq;by_cases h3:r=65533
       ·have d3:decide ((r:Int)=65533)=true:=by simp;omega
        have d4:decide ((q:Int)<2)=false:=by simp;omega
        clear hbad;go_wp2_with (first|(go_at_call 128;(refine (rune_at' (r:Int) _ (by omega) (by omega) (by omega) HU6.out (by omega) HB6.out.size).mono ?_);rintro e w7 ⟨⟨vv,rfl⟩,hB,hb⟩;have HB7:=hide (HB6.out.trans hb);have HU7:=hide hB;clear hB hb)|(go_at_call 127;(refine (rune_at i hlt H.out HBr.out HT.out ad rfl _ _ _ rfl rfl).mono ?_);rw [HRR.out,HQQ.out];rintro e w6 ⟨rfl,hb⟩;have HB6:=hide (HBr.out.trans (hb.mono HBr.out.size));have HU6:=hide (bu_kept HUr.out hb);clear hb))
        go_roundw
        case rel=>exact ⟨i+q,f - 1,o++Lib.encodeRune (r:Int),by omega,by omega,by go_num,HB7,hide (.inr HU7.out),hide (by rw [show f - 1+1=f by have:=HF1.out;omega,show i+q - (at_+1)=i - (at_+1)+q by omega];exact HE.out),by rw [List.length_append];have:=HLE.out;omega,hide (by have:=HF1.out.1;rw [List.length_drop] at this ⊢;omega)⟩
        case measure=>simp [intOf];omega

       ·have d3:decide ((r:Int)=65533)=false:=by simp;omega
        clear hbad;go_wp2_with (first|(go_at_call 128;(refine (rune_at' (r:Int) _ (by omega) (by omega) (by omega) HU6.out (by omega) HB6.out.size).mono ?_);rintro e w7 ⟨⟨vv,rfl⟩,hB,hb⟩;have HB7:=hide (HB6.out.trans hb);have HU7:=hide hB;clear hB hb)|(go_at_call 127;(refine (rune_at i hlt H.out HBr.out HT.out ad rfl _ _ _ rfl rfl).mono ?_);rw [HRR.out,HQQ.out];rintro e w6 ⟨rfl,hb⟩;have HB6:=hide (HBr.out.trans (hb.mono HBr.out.size));have HU6:=hide (bu_kept HUr.out hb);clear hb))
        go_roundw
        case rel=>exact ⟨i+q,f - 1,o++Lib.encodeRune (r:Int),by omega,by omega,by go_num,HB7,hide (.inr HU7.out),hide (by rw [show f - 1+1=f by have:=HF1.out;omega,show i+q - (at_+1)=i - (at_+1)+q by omega];exact HE.out),by rw [List.length_append];have:=HLE.out;omega,hide (by have:=HF1.out.1;rw [List.length_drop] at this ⊢;omega)⟩
        case measure=>simp [intOf];omega

  ·have HE:=hide (show S0=none by rw [← HR.out,List.drop_of_length_le (by rw [HL.out];omega)];rfl);clear HR HX;go_wp2_with (go_at_call 35;(refine (fail_any 11 (H.out.below HBr.out)).mono ?_);rintro e w9 ⟨rfl,hb⟩;have HB9:=hide (HBr.out.trans (hb.mono HBr.out.size));clear hb)
   exact ⟨rfl,.inr ⟨HE.out,rfl,HB9.out⟩⟩
end
end Go.Proofs.YtacinobmcgcccaaGreatDoor
