/- The JSON reader: the next token. -/
import Derived.Test.YtacinobmcgcccaaGreatDoorL21
import Derived.Test.YtacinobmcgcccaaGreatDoorL05
import Derived.BigQuiet
set_option linter.unusedSimpArgs false
set_option linter.unusedVariables false
namespace Go.Proofs.YtacinobmcgcccaaGreatDoor
open Go.RowKit
def blL:L8:=[32,9,10,13]
def sgL:L8:=[123,125,91,93,58,44]
def blS (s:L8):Nat:=(s.takeWhile blL.contains).length
def lexS (s:L8):Option (Nat × L8 × Nat):=
 match s with
 | []=>some (0,[],0)
 | c :: t=>
   if sgL.contains c then some (c.toNat,[],1)
   else if c.toNat=34 then (match strS t with|none=>none|some (tx,d)=>some (5,tx,d+1))
   else if isDg c||decide (c.toNat=45) then (match numL (c :: t) with|none=>none|some m=>some (4,(c :: t).take m,m))
   else if isLo c then (if kindW ((c :: t).take (runLo (c :: t)))=0 then none else some (kindW ((c :: t).take (runLo (c :: t))),[],runLo (c :: t)))
   else none
theorem blS_at {b:L8} (i:Nat) (h:i<b.length):blS (b.drop i)=if blL.contains b[i] then blS (b.drop (i+1))+1 else 0:=by
 rw [drop_cons h];unfold blS;rw [List.takeWhile_cons];split <;> rfl
theorem blS_end {b:L8} (i:Nat) (h:b.length≤i):blS (b.drop i)=0:=by rw [List.drop_of_length_le h];rfl
theorem lexS_at {b:L8} (j:Nat) (h:j<b.length):lexS (b.drop j) =
 if sgL.contains b[j] then some (b[j].toNat,[],1)
 else if b[j].toNat=34 then (match strS (b.drop (j+1)) with|none=>none|some (tx,d)=>some (5,tx,d+1))
 else if isDg b[j]||decide (b[j].toNat=45) then (match numL (b.drop j) with|none=>none|some m=>some (4,(b.drop j).take m,m))
 else if isLo b[j] then (if kindW ((b.drop j).take (runLo (b.drop j)))=0 then none else some (kindW ((b.drop j).take (runLo (b.drop j))),[],runLo (b.drop j)))
 else none:=by
 conv=>lhs;rw [drop_cons h]
 simp only [lexS];rw [← drop_cons h]
theorem one_is (x:UInt8) (k:UInt8) (hk:k.toNat=k.toNat):([k]:L8).contains x=decide (x.toNat=k.toNat):=by
 by_cases h:x=k
 ·subst h;simp
 ·have h2:¬ x.toNat=k.toNat:=fun e=>h (UInt8.toNat_inj.1 e)
  simp [h,h2]
section
variable {w w' w0:World} {rb:Nat} {A:Option Addr} {n c:Nat} {b l:L8} {at_ k ta bb:Nat} {tx:L8}
theorem Tabs.grown {w w':World} {rb:Nat} (h:Tabs w) (hg:w.grownBy w' (some rb)) (hr:2≤rb):Tabs w':=h.keep fun p hp=>(cell_heap (hg.block p.block (by have:=h.size;omega) (fun e=>by injection e with e;omega))).symm
set_option maxRecDepth 100000 in
set_option maxHeartbeats 2000000 in
theorem next_any (h:Rd w rb A n c b at_ k ta tx) (hT:Tabs w) (hr2:2≤rb) :
 Calls Tryz.prog 33 #[.pointer (some ⟨rb,0,none⟩)] w fun e w'=>
  (∃ k' t d,lexS (b.drop (at_+blS (b.drop at_)))=some (k',t,d)∧e=.returned (.tuple #[])∧Rd w' rb A n c b (at_+blS (b.drop at_)+d) k' (at_+blS (b.drop at_)) t∧w.grownBy w' (some rb)) ∨
  (lexS (b.drop (at_+blS (b.drop at_)))=none∧e=.panicked (flt (at_+blS (b.drop at_)) 11)∧w.grownBy w' (some rb)):=by
 have H:=hide h;have HL:=hide h.len;have hn:=h.hn;have hat:=h.ha;have HT:=hide hT;clear h hT
 go_enter Tryz.func33,Tryz.ntmps33
 go_wp2_with fail
 go_loopw [] (fun wr=>∃ j:Nat,at_≤j∧j≤n∧Hid (Rd wr rb A n c b j k ta tx)∧Hid (w.grownBy wr (some rb))∧Hid (j+blS (b.drop j)=at_+blS (b.drop at_))) (fun wr=>n - (intOf ((wr.cell? ⟨rb,1,none⟩).getD undef)).toNat)
 case atStart=>exact ⟨at_,by omega,by omega,H,hide (World.grownBy.refl _ _),by first|trivial|exact hide rfl⟩
 case round=>
  obtain ⟨j,hij,hjn,HRd,HG,HR⟩:=hrel;have kr:=HRd.out.blk.cell;have fr:=HRd.out.blk.frozen;have zr:=HRd.out.blk.lt;cases hbl:isS (b.drop j) blL
  ·have HBL:=hide hbl;have HJ:=hide (show at_+blS (b.drop at_)=j by
    have e1:=HR.out;have e2:blS (b.drop j)=0:=by
     rcases Nat.lt_or_ge j b.length with h1|h1
     ·rw [blS_at j h1];rw [isS_at h1] at hbl;rw [hbl];rfl
     ·exact blS_end j h1
    omega)
   clear HR hbl;go_upto_region 4 with (go_at_call 74;(refine (is_any blL j HRd.out).mono ?_);rw [HBL.out];rintro e w1 ⟨rfl,hb⟩;have HR1:=hide (HRd.out.below hb);have HG1:=hide (gb_trans HG.out (gb_below hb));clear hb;have kr1:=HR1.out.blk.cell;have fr1:=HR1.out.blk.frozen;have zr1:=HR1.out.blk.lt)
   obtain ⟨w2,hw2⟩:∃ w2,(((w1.setCell ⟨rb,2,none⟩ (.int .i64 0)).setCell ⟨rb,3,none⟩ (.int .i64 (j:Int))).setCell ⟨rb,4,none⟩ (.string ⟨#[]⟩))=w2:=⟨_,rfl⟩;have HQ0:=hide (show Rd w2 rb A n c b j 0 j [] by
    rw [← hw2];exact HR1.out.own (gb_trans (gb_trans (gby_set w1 rb 2 _) (gby_set _ rb 3 _)) (gby_set _ rb 4 _)) (((HR1.out.blk.set_ 2 (.int .i64 0)).set_ 3 (.int .i64 (j:Int))).set_ 4 (.string ⟨#[]⟩)) hjn)
   have HG0:=hide (show w.grownBy w2 (some rb) by
    rw [← hw2];exact gb_trans HG1.out (gb_trans (gb_trans (gby_set w1 rb 2 _) (gby_set _ rb 3 _)) (gby_set _ rb 4 _)))
   rw [hw2];have HT2:=hide (HT.out.grown HG0.out hr2);clear hw2 kr fr zr kr1 fr1 zr1 HR1 HG1 HG;have kr0:=HQ0.out.blk.cell;have fr0:=HQ0.out.blk.frozen;have zr0:=HQ0.out.blk.lt
   go_quiet (fail)
   obtain ⟨w3,hw3⟩:∃ w3,w2.drewN nq=w3:=⟨_,rfl⟩;have HQ0:=hide (show Rd w3 rb A n c b j 0 j [] from hw3 ▸ HQ0.out.below (below_drewN w2 nq));have HG0:=hide (show w.grownBy w3 (some rb) from hw3 ▸ gb_trans HG0.out (gb_below (below_drewN w2 nq)));have HT2:=hide (HT.out.grown HG0.out hr2);rw [hw3];clear hw3 kr0 fr0 zr0;have kr0:=HQ0.out.blk.cell;have fr0:=HQ0.out.blk.frozen;have zr0:=HQ0.out.blk.lt;by_cases hjn2:j<n
   ·have hjb:j<b.length:=by rw [HL.out];exact hjn2
    obtain ⟨ad,hA,hab,hcell⟩:=RB.at_ HQ0.out.rd hjn2 hjb;subst hA;obtain ⟨x,hx⟩:∃ x,b[j]=x:=⟨_,rfl⟩;rw [hx] at hcell;have HCC:=hide (show ∀ (w2:World) (k2:Nat),Rd w2 rb (some ad) n c b j k2 j []→w2.cell? (ad.add j)=some (.int .u8 (x.toNat:Int)) from fun w2 k2 h=>by
     obtain ⟨ad',e,_,hc⟩:=RB.at_ h.rd hjn2 hjb;injection e with e;subst e;rw [hx] at hc;exact hc)
    have cx0:=HCC.out _ _ HQ0.out;have hx255:x.toNat<256:=x.toNat_lt;have HSG:=hide (show isS (b.drop j) sgL=sgL.contains x by rw [isS_at hjb,hx]);have HS34:=hide (show isS (b.drop j) [34]=decide (x.toNat=34) by rw [isS_at hjb,hx];exact one_is x 34 (by decide));have HDG:=hide (show digS (b.drop j)=isDg x by rw [digS_at hjb,hx]);have HS45:=hide (show isS (b.drop j) [45]=decide (x.toNat=45) by rw [isS_at hjb,hx];exact one_is x 45 (by decide));have HLX:=hide (lexS_at j hjb);rw [hx] at HLX;clear hx hjb hcell;cases hsg:sgL.contains x
    ·rw [hsg] at HSG HLX;clear hsg;by_cases h34:x.toNat=34
     ·have d34:decide (x.toNat=34)=true:=by simp [h34]
      rw [d34] at HS34;cases hst:strS (b.drop (j+1)) with
      | none=>
        have HST:=hide hst;have HE:=hide (show lexS (b.drop j)=none by rw [HLX.out,if_neg (by decide),if_pos h34,hst]);clear hst HLX d34;go_wp2_with (first|(go_at_call 75;(refine (str_any HQ2.out hjn2 (HT.out.grown HG2.out hr2)).mono ?_);rintro e w6 (⟨t',d',he,rfl,hR,hg⟩|⟨he,rfl,hb⟩);(exact (esc_no he HST.out).elim);have HG9:=hide (gb_trans HG2.out (gb_below hb));clear hb he)|(go_at_call 74;(refine (is_any [34] j HQ1.out).mono ?_);rw [HS34.out];rintro e w5 ⟨rfl,hb⟩;have HQ2:=hide (HQ1.out.below hb);have HG2:=hide (gb_trans HG1.out (gb_below hb));clear hb;have kr2:=HQ2.out.blk.cell;have fr2:=HQ2.out.blk.frozen;have zr2:=HQ2.out.blk.lt;have cx2:=HCC.out _ _ HQ2.out)|(go_at_call 74;(refine (is_any sgL j HQ0.out).mono ?_);rw [HSG.out];rintro e w5 ⟨rfl,hb⟩;have HQ1:=hide (HQ0.out.below hb);have HG1:=hide (gb_trans HG0.out (gb_below hb));clear hb;have kr1:=HQ1.out.blk.cell;have fr1:=HQ1.out.blk.frozen;have zr1:=HQ1.out.blk.lt;have cx1:=HCC.out _ _ HQ1.out))
        exact ⟨rfl,.inr ⟨by rw [HJ.out];exact HE.out,by rw [HJ.out],HG9.out⟩⟩
      | some td=>
        obtain ⟨t,d⟩:=td;have HST:=hide hst;have HE:=hide (show lexS (b.drop j)=some (5,t,d+1) by rw [HLX.out,if_neg (by decide),if_pos h34,hst]);clear hst HLX d34;go_wp2_with (first|(go_at_call 75;(refine (str_any HQ2.out hjn2 (HT.out.grown HG2.out hr2)).mono ?_);rintro e w6 (⟨t',d',he,rfl,hR,hg⟩|⟨he,rfl,hb⟩);rotate_left;(exact (esc_no HST.out he).elim);(obtain ⟨rfl,rfl⟩:=esc_uni HST.out he);have HQ9:=hide hR;have HG9:=hide (gb_trans HG2.out hg);clear hR hg he)|(go_at_call 74;(refine (is_any [34] j HQ1.out).mono ?_);rw [HS34.out];rintro e w5 ⟨rfl,hb⟩;have HQ2:=hide (HQ1.out.below hb);have HG2:=hide (gb_trans HG1.out (gb_below hb));clear hb;have kr2:=HQ2.out.blk.cell;have fr2:=HQ2.out.blk.frozen;have zr2:=HQ2.out.blk.lt;have cx2:=HCC.out _ _ HQ2.out)|(go_at_call 74;(refine (is_any sgL j HQ0.out).mono ?_);rw [HSG.out];rintro e w5 ⟨rfl,hb⟩;have HQ1:=hide (HQ0.out.below hb);have HG1:=hide (gb_trans HG0.out (gb_below hb));clear hb;have kr1:=HQ1.out.blk.cell;have fr1:=HQ1.out.blk.frozen;have zr1:=HQ1.out.blk.lt;have cx1:=HCC.out _ _ HQ1.out))
        refine ⟨rfl,.tuple #[],results_none rfl _ _ _,.inl ⟨5,t,d+1,by rw [HJ.out];exact HE.out,rfl,by rw [HJ.out,show j+(d+1)=j+1+d by omega];exact HQ9.out,HG9.out⟩⟩
     ·have d34:decide (x.toNat=34)=false:=by simp [h34]
      rw [d34] at HS34;clear d34;cases hdg:isDg x
      ·rw [hdg] at HDG HLX;clear hdg;by_cases h45:x.toNat=45
       ·have d45:decide (x.toNat=45)=true:=by simp [h45]
        rw [d45] at HS45 HLX;clear d45;cases hst:numL (b.drop j) with
        | none=>
          have HST:=hide hst;have HE:=hide (show lexS (b.drop j)=none by rw [HLX.out,if_neg (by decide),if_neg h34,if_pos (by decide),hst]);clear hst HLX;go_wp2_with (first|(go_at_call 77;(refine (number_any HQ4.out).mono ?_);rintro e w6 (⟨m',he,rfl,hR,hg⟩|⟨he,rfl,hb⟩);(exact (some_no he HST.out).elim);have HG9:=hide (gb_trans HG4.out (gb_below hb));clear hb he)|(go_at_call 74;(refine (is_any [45] j HQ3.out).mono ?_);rw [HS45.out];rintro e w5 ⟨rfl,hb⟩;have HQ4:=hide (HQ3.out.below hb);have HG4:=hide (gb_trans HG3.out (gb_below hb));clear hb;have kr4:=HQ4.out.blk.cell;have fr4:=HQ4.out.blk.frozen;have zr4:=HQ4.out.blk.lt;have cx4:=HCC.out _ _ HQ4.out)|(go_at_call 76;(refine (digit_any j HQ2.out).mono ?_);rw [HDG.out];rintro e w5 ⟨rfl,hb⟩;have HQ3:=hide (HQ2.out.below hb);have HG3:=hide (gb_trans HG2.out (gb_below hb));clear hb;have kr3:=HQ3.out.blk.cell;have fr3:=HQ3.out.blk.frozen;have zr3:=HQ3.out.blk.lt;have cx3:=HCC.out _ _ HQ3.out)|(go_at_call 74;(refine (is_any [34] j HQ1.out).mono ?_);rw [HS34.out];rintro e w5 ⟨rfl,hb⟩;have HQ2:=hide (HQ1.out.below hb);have HG2:=hide (gb_trans HG1.out (gb_below hb));clear hb;have kr2:=HQ2.out.blk.cell;have fr2:=HQ2.out.blk.frozen;have zr2:=HQ2.out.blk.lt;have cx2:=HCC.out _ _ HQ2.out)|(go_at_call 74;(refine (is_any sgL j HQ0.out).mono ?_);rw [HSG.out];rintro e w5 ⟨rfl,hb⟩;have HQ1:=hide (HQ0.out.below hb);have HG1:=hide (gb_trans HG0.out (gb_below hb));clear hb;have kr1:=HQ1.out.blk.cell;have fr1:=HQ1.out.blk.frozen;have zr1:=HQ1.out.blk.lt;have cx1:=HCC.out _ _ HQ1.out))
          exact ⟨rfl,.inr ⟨by rw [HJ.out];exact HE.out,by rw [HJ.out],HG9.out⟩⟩
        | some m=>
          have HST:=hide hst;have HE:=hide (show lexS (b.drop j)=some (4,(b.drop j).take m,m) by rw [HLX.out,if_neg (by decide),if_neg h34,if_pos (by decide),hst]);clear hst HLX;go_wp2_with (first|(go_at_call 77;(refine (number_any HQ4.out).mono ?_);rintro e w6 (⟨m',he,rfl,hR,hg⟩|⟨he,rfl,hb⟩);rotate_left;(exact (some_no HST.out he).elim);(obtain rfl:m=m':=some_uni HST.out he);have HQ9:=hide hR;have HG9:=hide (gb_trans HG4.out hg);clear hR hg he)|(go_at_call 74;(refine (is_any [45] j HQ3.out).mono ?_);rw [HS45.out];rintro e w5 ⟨rfl,hb⟩;have HQ4:=hide (HQ3.out.below hb);have HG4:=hide (gb_trans HG3.out (gb_below hb));clear hb;have kr4:=HQ4.out.blk.cell;have fr4:=HQ4.out.blk.frozen;have zr4:=HQ4.out.blk.lt;have cx4:=HCC.out _ _ HQ4.out)|(go_at_call 76;(refine (digit_any j HQ2.out).mono ?_);rw [HDG.out];rintro e w5 ⟨rfl,hb⟩;have HQ3:=hide (HQ2.out.below hb);have HG3:=hide (gb_trans HG2.out (gb_below hb));clear hb;have kr3:=HQ3.out.blk.cell;have fr3:=HQ3.out.blk.frozen;have zr3:=HQ3.out.blk.lt;have cx3:=HCC.out _ _ HQ3.out)|(go_at_call 74;(refine (is_any [34] j HQ1.out).mono ?_);rw [HS34.out];rintro e w5 ⟨rfl,hb⟩;have HQ2:=hide (HQ1.out.below hb);have HG2:=hide (gb_trans HG1.out (gb_below hb));clear hb;have kr2:=HQ2.out.blk.cell;have fr2:=HQ2.out.blk.frozen;have zr2:=HQ2.out.blk.lt;have cx2:=HCC.out _ _ HQ2.out)|(go_at_call 74;(refine (is_any sgL j HQ0.out).mono ?_);rw [HSG.out];rintro e w5 ⟨rfl,hb⟩;have HQ1:=hide (HQ0.out.below hb);have HG1:=hide (gb_trans HG0.out (gb_below hb));clear hb;have kr1:=HQ1.out.blk.cell;have fr1:=HQ1.out.blk.frozen;have zr1:=HQ1.out.blk.lt;have cx1:=HCC.out _ _ HQ1.out))
          refine ⟨rfl,.tuple #[],results_none rfl _ _ _,.inl ⟨4,(b.drop j).take m,m,by rw [HJ.out];exact HE.out,rfl,by rw [HJ.out];exact HQ9.out,HG9.out⟩⟩
       ·have d45:decide (x.toNat=45)=false:=by simp [h45]
        rw [d45] at HS45 HLX;clear d45;by_cases h97:97≤x.toNat
        ·have d1:decide ((97:Int)≤(x.toNat:Int))=true:=by simp;omega
         by_cases h122:x.toNat≤122
         ·have d2:decide ((x.toNat:Int)≤122)=true:=by simp;omega
          have hlo:isLo x=true:=by unfold isLo;simp [h97,h122]
          by_cases hk0:kindW ((b.drop j).take (runLo (b.drop j)))=0
          ·have HK:=hide hk0;have HE:=hide (show lexS (b.drop j)=none by rw [HLX.out,if_neg (by decide),if_neg h34,if_neg (by decide),hlo,if_pos rfl,if_pos hk0]);clear HLX hlo hk0;go_upto_region 12 with (first|(go_at_call 74;(refine (is_any [45] j HQ3.out).mono ?_);rw [HS45.out];rintro e w5 ⟨rfl,hb⟩;have HQ4:=hide (HQ3.out.below hb);have HG4:=hide (gb_trans HG3.out (gb_below hb));clear hb;have kr4:=HQ4.out.blk.cell;have fr4:=HQ4.out.blk.frozen;have zr4:=HQ4.out.blk.lt;have cx4:=HCC.out _ _ HQ4.out)|(go_at_call 76;(refine (digit_any j HQ2.out).mono ?_);rw [HDG.out];rintro e w5 ⟨rfl,hb⟩;have HQ3:=hide (HQ2.out.below hb);have HG3:=hide (gb_trans HG2.out (gb_below hb));clear hb;have kr3:=HQ3.out.blk.cell;have fr3:=HQ3.out.blk.frozen;have zr3:=HQ3.out.blk.lt;have cx3:=HCC.out _ _ HQ3.out)|(go_at_call 74;(refine (is_any [34] j HQ1.out).mono ?_);rw [HS34.out];rintro e w5 ⟨rfl,hb⟩;have HQ2:=hide (HQ1.out.below hb);have HG2:=hide (gb_trans HG1.out (gb_below hb));clear hb;have kr2:=HQ2.out.blk.cell;have fr2:=HQ2.out.blk.frozen;have zr2:=HQ2.out.blk.lt;have cx2:=HCC.out _ _ HQ2.out)|(go_at_call 74;(refine (is_any sgL j HQ0.out).mono ?_);rw [HSG.out];rintro e w5 ⟨rfl,hb⟩;have HQ1:=hide (HQ0.out.below hb);have HG1:=hide (gb_trans HG0.out (gb_below hb));clear hb;have kr1:=HQ1.out.blk.cell;have fr1:=HQ1.out.blk.frozen;have zr1:=HQ1.out.blk.lt;have cx1:=HCC.out _ _ HQ1.out))
           go_quiet (fail)
           obtain ⟨w7,hw7⟩:∃ w7,w5.drewN nq=w7:=⟨_,rfl⟩;have HQ5:=hide (show Rd w7 rb (some ad) n c b j 0 j [] from hw7 ▸ HQ4.out.below (below_drewN w5 nq));have HG5:=hide (show w.grownBy w7 (some rb) from hw7 ▸ gb_trans HG4.out (gb_below (below_drewN w5 nq)));rw [hw7];clear hw7 kr4 fr4 zr4 cx4;go_wp2_with (go_at_call 78;(refine (word_any HQ5.out hjn2).mono ?_);rintro e w6 (⟨he,rfl,hR,hg⟩|⟨he,rfl,hb⟩);(exact (he HK.out).elim);have HG9:=hide (gb_trans HG5.out (gb_below hb));clear hb he)
           exact ⟨rfl,.inr ⟨by rw [HJ.out];exact HE.out,by rw [HJ.out],HG9.out⟩⟩
          ·have HK:=hide hk0;have HE:=hide (show lexS (b.drop j)=some (kindW ((b.drop j).take (runLo (b.drop j))),[],runLo (b.drop j)) by rw [HLX.out,if_neg (by decide),if_neg h34,if_neg (by decide),hlo,if_pos rfl,if_neg hk0]);clear HLX hlo hk0;go_upto_region 12 with (first|(go_at_call 74;(refine (is_any [45] j HQ3.out).mono ?_);rw [HS45.out];rintro e w5 ⟨rfl,hb⟩;have HQ4:=hide (HQ3.out.below hb);have HG4:=hide (gb_trans HG3.out (gb_below hb));clear hb;have kr4:=HQ4.out.blk.cell;have fr4:=HQ4.out.blk.frozen;have zr4:=HQ4.out.blk.lt;have cx4:=HCC.out _ _ HQ4.out)|(go_at_call 76;(refine (digit_any j HQ2.out).mono ?_);rw [HDG.out];rintro e w5 ⟨rfl,hb⟩;have HQ3:=hide (HQ2.out.below hb);have HG3:=hide (gb_trans HG2.out (gb_below hb));clear hb;have kr3:=HQ3.out.blk.cell;have fr3:=HQ3.out.blk.frozen;have zr3:=HQ3.out.blk.lt;have cx3:=HCC.out _ _ HQ3.out)|(go_at_call 74;(refine (is_any [34] j HQ1.out).mono ?_);rw [HS34.out];rintro e w5 ⟨rfl,hb⟩;have HQ2:=hide (HQ1.out.below hb);have HG2:=hide (gb_trans HG1.out (gb_below hb));clear hb;have kr2:=HQ2.out.blk.cell;have fr2:=HQ2.out.blk.frozen;have zr2:=HQ2.out.blk.lt;have cx2:=HCC.out _ _ HQ2.out)|(go_at_call 74;(refine (is_any sgL j HQ0.out).mono ?_);rw [HSG.out];rintro e w5 ⟨rfl,hb⟩;have HQ1:=hide (HQ0.out.below hb);have HG1:=hide (gb_trans HG0.out (gb_below hb));clear hb;have kr1:=HQ1.out.blk.cell;have fr1:=HQ1.out.blk.frozen;have zr1:=HQ1.out.blk.lt;have cx1:=HCC.out _ _ HQ1.out))
           go_quiet (fail)
           obtain ⟨w7,hw7⟩:∃ w7,w5.drewN nq=w7:=⟨_,rfl⟩;have HQ5:=hide (show Rd w7 rb (some ad) n c b j 0 j [] from hw7 ▸ HQ4.out.below (below_drewN w5 nq));have HG5:=hide (show w.grownBy w7 (some rb) from hw7 ▸ gb_trans HG4.out (gb_below (below_drewN w5 nq)));rw [hw7];clear hw7 kr4 fr4 zr4 cx4;go_wp2_with (go_at_call 78;(refine (word_any HQ5.out hjn2).mono ?_);rintro e w6 (⟨he,rfl,hR,hg⟩|⟨he,rfl,hb⟩);rotate_left;(exact (HK.out he).elim);have HQ9:=hide hR;have HG9:=hide (gb_trans HG5.out hg);clear hR hg he)
           refine ⟨rfl,.tuple #[],results_none rfl _ _ _,.inl ⟨_,_,_,by rw [HJ.out];exact HE.out,rfl,by rw [HJ.out];exact HQ9.out,HG9.out⟩⟩
         ·have d2:decide ((x.toNat:Int)≤122)=false:=by simp;omega
          have hlo:isLo x=false:=by unfold isLo;simp [h122]
          have HE:=hide (show lexS (b.drop j)=none by rw [HLX.out,if_neg (by decide),if_neg h34,if_neg (by decide),hlo];rfl);clear HLX hlo;go_upto_region 12 with (first|(go_at_call 74;(refine (is_any [45] j HQ3.out).mono ?_);rw [HS45.out];rintro e w5 ⟨rfl,hb⟩;have HQ4:=hide (HQ3.out.below hb);have HG4:=hide (gb_trans HG3.out (gb_below hb));clear hb;have kr4:=HQ4.out.blk.cell;have fr4:=HQ4.out.blk.frozen;have zr4:=HQ4.out.blk.lt;have cx4:=HCC.out _ _ HQ4.out)|(go_at_call 76;(refine (digit_any j HQ2.out).mono ?_);rw [HDG.out];rintro e w5 ⟨rfl,hb⟩;have HQ3:=hide (HQ2.out.below hb);have HG3:=hide (gb_trans HG2.out (gb_below hb));clear hb;have kr3:=HQ3.out.blk.cell;have fr3:=HQ3.out.blk.frozen;have zr3:=HQ3.out.blk.lt;have cx3:=HCC.out _ _ HQ3.out)|(go_at_call 74;(refine (is_any [34] j HQ1.out).mono ?_);rw [HS34.out];rintro e w5 ⟨rfl,hb⟩;have HQ2:=hide (HQ1.out.below hb);have HG2:=hide (gb_trans HG1.out (gb_below hb));clear hb;have kr2:=HQ2.out.blk.cell;have fr2:=HQ2.out.blk.frozen;have zr2:=HQ2.out.blk.lt;have cx2:=HCC.out _ _ HQ2.out)|(go_at_call 74;(refine (is_any sgL j HQ0.out).mono ?_);rw [HSG.out];rintro e w5 ⟨rfl,hb⟩;have HQ1:=hide (HQ0.out.below hb);have HG1:=hide (gb_trans HG0.out (gb_below hb));clear hb;have kr1:=HQ1.out.blk.cell;have fr1:=HQ1.out.blk.frozen;have zr1:=HQ1.out.blk.lt;have cx1:=HCC.out _ _ HQ1.out))
          go_quiet (fail)
          obtain ⟨w7,hw7⟩:∃ w7,w5.drewN nq=w7:=⟨_,rfl⟩;have HQ5:=hide (show Rd w7 rb (some ad) n c b j 0 j [] from hw7 ▸ HQ4.out.below (below_drewN w5 nq));have HG5:=hide (show w.grownBy w7 (some rb) from hw7 ▸ gb_trans HG4.out (gb_below (below_drewN w5 nq)));rw [hw7];clear hw7 kr4 fr4 zr4 cx4;go_wp2_with (go_at_call 35;(refine (fail_any 11 HQ5.out).mono ?_);rintro e w9 ⟨rfl,hb⟩;have HG9:=hide (gb_trans HG5.out (gb_below hb));clear hb)
          exact ⟨rfl,.inr ⟨by rw [HJ.out];exact HE.out,by rw [HJ.out],HG9.out⟩⟩
        ·have d1:decide ((97:Int)≤(x.toNat:Int))=false:=by simp;omega
         have hlo:isLo x=false:=by unfold isLo;simp [h97]
         have HE:=hide (show lexS (b.drop j)=none by rw [HLX.out,if_neg (by decide),if_neg h34,if_neg (by decide),hlo];rfl);clear HLX hlo;go_upto_region 12 with (first|(go_at_call 74;(refine (is_any [45] j HQ3.out).mono ?_);rw [HS45.out];rintro e w5 ⟨rfl,hb⟩;have HQ4:=hide (HQ3.out.below hb);have HG4:=hide (gb_trans HG3.out (gb_below hb));clear hb;have kr4:=HQ4.out.blk.cell;have fr4:=HQ4.out.blk.frozen;have zr4:=HQ4.out.blk.lt;have cx4:=HCC.out _ _ HQ4.out)|(go_at_call 76;(refine (digit_any j HQ2.out).mono ?_);rw [HDG.out];rintro e w5 ⟨rfl,hb⟩;have HQ3:=hide (HQ2.out.below hb);have HG3:=hide (gb_trans HG2.out (gb_below hb));clear hb;have kr3:=HQ3.out.blk.cell;have fr3:=HQ3.out.blk.frozen;have zr3:=HQ3.out.blk.lt;have cx3:=HCC.out _ _ HQ3.out)|(go_at_call 74;(refine (is_any [34] j HQ1.out).mono ?_);rw [HS34.out];rintro e w5 ⟨rfl,hb⟩;have HQ2:=hide (HQ1.out.below hb);have HG2:=hide (gb_trans HG1.out (gb_below hb));clear hb;have kr2:=HQ2.out.blk.cell;have fr2:=HQ2.out.blk.frozen;have zr2:=HQ2.out.blk.lt;have cx2:=HCC.out _ _ HQ2.out)|(go_at_call 74;(refine (is_any sgL j HQ0.out).mono ?_);rw [HSG.out];rintro e w5 ⟨rfl,hb⟩;have HQ1:=hide (HQ0.out.below hb);have HG1:=hide (gb_trans HG0.out (gb_below hb));clear hb;have kr1:=HQ1.out.blk.cell;have fr1:=HQ1.out.blk.frozen;have zr1:=HQ1.out.blk.lt;have cx1:=HCC.out _ _ HQ1.out))
         go_quiet (fail)
         obtain ⟨w7,hw7⟩:∃ w7,w5.drewN nq=w7:=⟨_,rfl⟩;have HQ5:=hide (show Rd w7 rb (some ad) n c b j 0 j [] from hw7 ▸ HQ4.out.below (below_drewN w5 nq));have HG5:=hide (show w.grownBy w7 (some rb) from hw7 ▸ gb_trans HG4.out (gb_below (below_drewN w5 nq)));rw [hw7];clear hw7 kr4 fr4 zr4 cx4;go_wp2_with (go_at_call 35;(refine (fail_any 11 HQ5.out).mono ?_);rintro e w9 ⟨rfl,hb⟩;have HG9:=hide (gb_trans HG5.out (gb_below hb));clear hb)
         exact ⟨rfl,.inr ⟨by rw [HJ.out];exact HE.out,by rw [HJ.out],HG9.out⟩⟩
      ·rw [hdg] at HDG HLX;clear hdg;cases hst:numL (b.drop j) with
       | none=>
         have HST:=hide hst;have HE:=hide (show lexS (b.drop j)=none by rw [HLX.out,if_neg (by decide),if_neg h34,if_pos (by simp),hst]);clear hst HLX;go_wp2_with (first|(go_at_call 77;(refine (number_any HQ3.out).mono ?_);rintro e w6 (⟨m',he,rfl,hR,hg⟩|⟨he,rfl,hb⟩);(exact (some_no he HST.out).elim);have HG9:=hide (gb_trans HG3.out (gb_below hb));clear hb he)|(go_at_call 76;(refine (digit_any j HQ2.out).mono ?_);rw [HDG.out];rintro e w5 ⟨rfl,hb⟩;have HQ3:=hide (HQ2.out.below hb);have HG3:=hide (gb_trans HG2.out (gb_below hb));clear hb;have kr3:=HQ3.out.blk.cell;have fr3:=HQ3.out.blk.frozen;have zr3:=HQ3.out.blk.lt;have cx3:=HCC.out _ _ HQ3.out)|(go_at_call 74;(refine (is_any [34] j HQ1.out).mono ?_);rw [HS34.out];rintro e w5 ⟨rfl,hb⟩;have HQ2:=hide (HQ1.out.below hb);have HG2:=hide (gb_trans HG1.out (gb_below hb));clear hb;have kr2:=HQ2.out.blk.cell;have fr2:=HQ2.out.blk.frozen;have zr2:=HQ2.out.blk.lt;have cx2:=HCC.out _ _ HQ2.out)|(go_at_call 74;(refine (is_any sgL j HQ0.out).mono ?_);rw [HSG.out];rintro e w5 ⟨rfl,hb⟩;have HQ1:=hide (HQ0.out.below hb);have HG1:=hide (gb_trans HG0.out (gb_below hb));clear hb;have kr1:=HQ1.out.blk.cell;have fr1:=HQ1.out.blk.frozen;have zr1:=HQ1.out.blk.lt;have cx1:=HCC.out _ _ HQ1.out))
         exact ⟨rfl,.inr ⟨by rw [HJ.out];exact HE.out,by rw [HJ.out],HG9.out⟩⟩
       | some m=>
         have HST:=hide hst;have HE:=hide (show lexS (b.drop j)=some (4,(b.drop j).take m,m) by rw [HLX.out,if_neg (by decide),if_neg h34,if_pos (by simp),hst]);clear hst HLX;go_wp2_with (first|(go_at_call 77;(refine (number_any HQ3.out).mono ?_);rintro e w6 (⟨m',he,rfl,hR,hg⟩|⟨he,rfl,hb⟩);rotate_left;(exact (some_no HST.out he).elim);(obtain rfl:m=m':=some_uni HST.out he);have HQ9:=hide hR;have HG9:=hide (gb_trans HG3.out hg);clear hR hg he)|(go_at_call 76;(refine (digit_any j HQ2.out).mono ?_);rw [HDG.out];rintro e w5 ⟨rfl,hb⟩;have HQ3:=hide (HQ2.out.below hb);have HG3:=hide (gb_trans HG2.out (gb_below hb));clear hb;have kr3:=HQ3.out.blk.cell;have fr3:=HQ3.out.blk.frozen;have zr3:=HQ3.out.blk.lt;have cx3:=HCC.out _ _ HQ3.out)|(go_at_call 74;(refine (is_any [34] j HQ1.out).mono ?_);rw [HS34.out];rintro e w5 ⟨rfl,hb⟩;have HQ2:=hide (HQ1.out.below hb);have HG2:=hide (gb_trans HG1.out (gb_below hb));clear hb;have kr2:=HQ2.out.blk.cell;have fr2:=HQ2.out.blk.frozen;have zr2:=HQ2.out.blk.lt;have cx2:=HCC.out _ _ HQ2.out)|(go_at_call 74;(refine (is_any sgL j HQ0.out).mono ?_);rw [HSG.out];rintro e w5 ⟨rfl,hb⟩;have HQ1:=hide (HQ0.out.below hb);have HG1:=hide (gb_trans HG0.out (gb_below hb));clear hb;have kr1:=HQ1.out.blk.cell;have fr1:=HQ1.out.blk.frozen;have zr1:=HQ1.out.blk.lt;have cx1:=HCC.out _ _ HQ1.out))
         refine ⟨rfl,.tuple #[],results_none rfl _ _ _,.inl ⟨4,(b.drop j).take m,m,by rw [HJ.out];exact HE.out,rfl,by rw [HJ.out];exact HQ9.out,HG9.out⟩⟩
    ·rw [hsg] at HSG;have HE:=hide (show lexS (b.drop j)=some (x.toNat,[],1) by rw [HLX.out,if_pos hsg]);clear hsg HLX HS34 HDG HS45;go_upto_region 6 with (go_at_call 74;(refine (is_any sgL j HQ0.out).mono ?_);rw [HSG.out];rintro e w5 ⟨rfl,hb⟩;have HQ1:=hide (HQ0.out.below hb);have HG1:=hide (gb_trans HG0.out (gb_below hb));clear hb;have kr1:=HQ1.out.blk.cell;have fr1:=HQ1.out.blk.frozen;have zr1:=HQ1.out.blk.lt;have cx1:=HCC.out _ _ HQ1.out)
     clear kr0 fr0 zr0 kr1 fr1 zr1 cx0 cx1;refine wp_region_stage (by kernel_rfl) (by kernel_rfl) 118 1
      [⟨some 43,false,0,1,fun _ v _=>v=.pointer (some ⟨rb,0,none⟩)⟩,
       ⟨some 44,false,0,1,fun _ v _=>v=.pointer (some ⟨rb,0,none⟩)⟩,
       ⟨some 45,false,0,1,fun _ v _=>v=.pointer (some ⟨rb,0,none⟩)⟩,
       ⟨some 46,false,0,1,fun _ v _=>v=.pointer (some ⟨rb,0,none⟩)⟩,
       ⟨some 47,false,0,1,fun _ v _=>v=.slice (some ad) n c⟩,
       ⟨some 48,false,0,1,fun _ v _=>v=.pointer (some ⟨rb,0,none⟩)⟩,
       ⟨some 49,false,0,1,fun _ v _=>v=.pointer (some ⟨rb,0,none⟩)⟩,
       ⟨some 50,false,0,1,fun _ v _=>v=.pointer (some ⟨rb,1,none⟩)⟩,
       ⟨some 51,false,0,1,fun _ v _=>v=.int .i64 (j:Int)⟩,
       ⟨some 52,false,0,1,fun _ v _=>v=.pointer (some (ad.add j))⟩,
       ⟨some 53,false,0,1,fun _ v _=>v=.int .u8 (x.toNat:Int)⟩,
       ⟨some 54,false,0,1,fun _ v _=>v=.int .i64 (x.toNat:Int)⟩,
       ⟨some 55,false,0,1,fun _ v _=>v=.pointer (some ⟨rb,0,none⟩)⟩,
       ⟨some 56,false,0,1,fun _ v _=>v=.pointer (some ⟨rb,2,none⟩)⟩,
       ⟨some 57,false,0,1,fun _ v _=>v=.pointer (some ⟨rb,2,none⟩)⟩,
       ⟨none,true,0,0,fun _ _ _=>True⟩] (fun st w'=>Rd w' rb (some ad) n c b j (if 1≤st then x.toNat else 0) j []∧w5.grownBy w' (some rb)) (fun _ _ _=>True) [43,44,45,46,47,48,49,50,51,52,53,54,55,56,57] rfl (by kernel_rfl) rfl ?g0 ?keep ?steps ?fin
     case keep=>
      intro e he s v w w' hm hsM ht hv;simp only [List.mem_cons,List.not_mem_nil,or_false] at he;rcases he with rfl|rfl|rfl|rfl|rfl|rfl|rfl|rfl|rfl|rfl|rfl|rfl|rfl|rfl|rfl|rfl
      all_goals first|exact hv
     case steps=>
      refine ⟨?_,?_,?_,?_,?_,?_,?_,?_,?_,?_,?_,?_,?_,?_,?_,?_,trivial⟩
      ·intro st hlo hhi ac w3 hg hG hd K hK;dsimp only at hlo hhi hG hK;exact op_move _ rfl (hK _ (hg.kp 0 (by simp)))
      ·intro st hlo hhi ac w3 hg hG hd K hK;dsimp only at hlo hhi hG hK;exact op_move _ rfl (hK _ (hg.kp 0 (by simp)))
      ·intro st hlo hhi ac w3 hg hG hd K hK;dsimp only at hlo hhi hG hK;have f1:=hd ⟨1,.data⟩ (by simp) rfl _ rfl _ rfl;(try simp [Act.eval] at f1);go_simp;exact hK _ rfl
      ·intro st hlo hhi ac w3 hg hG hd K hK;dsimp only at hlo hhi hG hK;have f2:=hd ⟨2,.data⟩ (by simp) rfl _ rfl _ rfl;(try simp [Act.eval] at f2);go_simp;exact hK _ rfl
      ·intro st hlo hhi ac w3 hg hG hd K hK;dsimp only at hlo hhi hG hK;have kk:=hG.1.blk.cell 0;have zz:=hG.1.blk.lt;simp at kk;have f3:=hd ⟨3,.data⟩ (by simp) rfl _ rfl _ rfl;(try simp [Act.eval] at f3);go_simp;exact hK _ rfl
      ·intro st hlo hhi ac w3 hg hG hd K hK;dsimp only at hlo hhi hG hK;exact op_move _ rfl (hK _ (hg.kp 0 (by simp)))
      ·intro st hlo hhi ac w3 hg hG hd K hK;dsimp only at hlo hhi hG hK;have f5:=hd ⟨5,.data⟩ (by simp) rfl _ rfl _ rfl;(try simp [Act.eval] at f5);go_simp;exact hK _ rfl
      ·intro st hlo hhi ac w3 hg hG hd K hK;dsimp only at hlo hhi hG hK;have f6:=hd ⟨6,.data⟩ (by simp) rfl _ rfl _ rfl;(try simp [Act.eval] at f6);go_simp;exact hK _ rfl
      ·intro st hlo hhi ac w3 hg hG hd K hK;dsimp only at hlo hhi hG hK;have kk:=hG.1.blk.cell 1;have zz:=hG.1.blk.lt;simp at kk;have f7:=hd ⟨7,.data⟩ (by simp) rfl _ rfl _ rfl;(try simp [Act.eval] at f7);go_simp;exact hK _ rfl
      ·intro st hlo hhi ac w3 hg hG hd K hK;dsimp only at hlo hhi hG hK;have f4:=hd ⟨4,.data⟩ (by simp) rfl _ rfl _ rfl;have f8:=hd ⟨8,.data⟩ (by simp) rfl _ rfl _ rfl;(try simp [Act.eval] at f4);(try simp [Act.eval] at f8);go_simp;exact hK _ rfl
      ·intro st hlo hhi ac w3 hg hG hd K hK;dsimp only at hlo hhi hG hK;have kk:=HCC.out _ _ hG.1;clear hG;have f9:=hd ⟨9,.data⟩ (by simp) rfl _ rfl _ rfl;(try simp [Act.eval] at f9);go_simp;exact hK _ rfl
      ·intro st hlo hhi ac w3 hg hG hd K hK;dsimp only at hlo hhi hG hK;have f10:=hd ⟨10,.data⟩ (by simp) rfl _ rfl _ rfl;simp [Act.eval] at f10;go_simp;rw [wrap_small (by omega) (by omega)];exact hK _ rfl
      ·intro st hlo hhi ac w3 hg hG hd K hK;dsimp only at hlo hhi hG hK;have f0:=hd ⟨0,.data⟩ (by simp) rfl _ rfl _ rfl;(try simp [Act.eval] at f0);go_simp;exact hK _ rfl
      ·intro st hlo hhi ac w3 hg hG hd K hK;dsimp only at hlo hhi hG hK;have f12:=hd ⟨12,.data⟩ (by simp) rfl _ rfl _ rfl;(try simp [Act.eval] at f12);go_simp;exact hK _ rfl
      ·intro st hlo hhi ac w3 hg hG hd K hK;dsimp only at hlo hhi hG hK;have f13:=hd ⟨13,.data⟩ (by simp) rfl _ rfl _ rfl;(try simp [Act.eval] at f13);go_simp;exact hK _ rfl
      ·intro ac w3 hg hG hd K hK;dsimp only [Nat.zero_add,Nat.reduceAdd] at hG hK;have f11:=hd ⟨11,.data⟩ (by simp) rfl _ rfl _ rfl;have f14:=hd ⟨14,.data⟩ (by simp) rfl _ rfl _ rfl;have kk:=hG.1.blk.cell;have ff:=hG.1.blk.frozen;have zz:=hG.1.blk.lt;have HG':=hide hG;clear hG;simp [Act.eval] at f11 f14;go_simp;exact hK undef _ trivial (And.intro (HG'.out.1.own (gby_set w3 rb 2 (.int .i64 (x.toNat:Int))) (HG'.out.1.blk.set_ 2 (.int .i64 (x.toNat:Int))) hjn) (gb_trans HG'.out.2 (gby_set w3 rb 2 _))) trivial
     case g0=>exact And.intro (HQ1.out.below (bR.drew)) ⟨rfl,rfl,rfl,Nat.le_refl _,fun _ _ _=>rfl⟩
     case fin=>
      intro f w6 hG hall;clear hall;have HQ6:=hide (show Rd w6 rb (some ad) n c b j x.toNat j [] from hG.1);have HG6:=hide (show w.grownBy w6 (some rb) from gb_trans HG1.out hG.2);clear hG;simp only [fillF,List.map_cons,List.map_nil,List.foldl_cons,List.foldl_nil,Act.put,List.setIfInBounds_toArray,List.set_cons_zero,List.set_cons_succ];have kr6:=HQ6.out.blk.cell;have fr6:=HQ6.out.blk.frozen;have zr6:=HQ6.out.blk.lt;go_wp2_with fail
      refine ⟨rfl,.tuple #[],results_none rfl _ _ _,.inl ⟨x.toNat,[],1,by rw [HJ.out];exact HE.out,rfl,by rw [HJ.out];exact HQ6.out.own (gby_set w6 rb 1 _) (HQ6.out.blk.set_ 1 (.int .i64 ((j+1:Nat):Int))) (by omega),gb_trans HG6.out (gby_set w6 rb 1 _)⟩⟩
   ·have HE:=hide (show lexS (b.drop j)=some (0,[],0) by rw [List.drop_of_length_le (by rw [HL.out];omega)];rfl);go_wp2_with fail
    refine ⟨rfl,.tuple #[],results_none rfl _ _ _,.inl ⟨0,[],0,by rw [HJ.out];exact HE.out,rfl,by rw [HJ.out];exact HQ0.out,HG0.out⟩⟩
  ·have HBL:=hide hbl;have hjn':j<n:=by
    rcases Nat.lt_or_ge j n with h1|h1
    ·exact h1
    ·rw [isS_end (by rw [HL.out];exact h1)] at hbl;cases hbl
   have hjb:j<b.length:=by rw [HL.out];exact hjn'
   have HRN:=hide (show j+1+blS (b.drop (j+1))=at_+blS (b.drop at_) by
    have e1:=HR.out;rw [isS_at hjb] at hbl;rw [blS_at j hjb,hbl,if_pos rfl] at e1;omega)
   clear HR hbl hjb;go_wp2_with (go_at_call 74;(refine (is_any blL j HRd.out).mono ?_);rw [HBL.out];rintro e w1 ⟨rfl,hb⟩;have HR1:=hide (HRd.out.below hb);have HG1:=hide (gb_trans HG.out (gb_below hb));clear hb;have kr1:=HR1.out.blk.cell;have fr1:=HR1.out.blk.frozen;have zr1:=HR1.out.blk.lt)
   go_roundw
   case rel=>exact ⟨j+1,by omega,by omega,hide (HR1.out.own (gby_set _ rb 1 _) (HR1.out.blk.set_ 1 (.int .i64 ((j+1:Nat):Int))) (by omega)),hide (gb_trans HG1.out (gby_set _ rb 1 _)),HRN⟩
   case measure=>
    have c1:=(HR1.out.blk.set_ 1 (.int .i64 ((j:Int)+1))).cell 1;rw [c1,kr 1];simp [intOf];omega
end
structure Tk where
 k:Nat
 t:L8
 ts:L8
 s:L8
inductive Got (α:Type) where
 | ok (x:α)
 | bad (p:L8) (e:Nat)
def Got.bind {α β:Type} (g:Got α) (f:α→Got β):Got β:=match g with
 | .ok x=>f x
 | .bad p e=>.bad p e
def nextS (s:L8):Got Tk:=match lexS (s.drop (blS s)) with
 | none=>.bad (s.drop (blS s)) 11
 | some (k,t,d)=>.ok ⟨k,t,s.drop (blS s),(s.drop (blS s)).drop d⟩
def wantS (sign:Nat) (T:Tk):Got Tk:=if T.k=sign then nextS T.s else .bad T.ts 11
inductive JV where
 | mk (k:Int) (t:L8) (ks:List L8) (vs:List JV)
mutual
def valF:Nat→Nat→Tk→Got (JV × Tk)
 | 0,_,_=>.bad [] 0
 | f+1,dp,T=>
   if 1≤T.k∧T.k≤5 then (nextS T.s).bind fun T'=>.ok (.mk T.k T.t [] [],T')
   else if T.k=91 then manyF f 6 93 (dp+1) T.t T
   else if T.k=123 then manyF f 7 125 (dp+1) T.t T
   else .bad T.ts 11
def manyF:Nat→Nat→Nat→Nat→L8→Tk→Got (JV × Tk)
 | 0,_,_,_,_,_=>.bad [] 0
 | f+1,kind,shut,dp,t,T=>
   if 32<dp then .bad T.ts 12
   else (nextS T.s).bind fun T1=>loopF f kind shut dp T1 true t [] []
def loopF:Nat→Nat→Nat→Nat→Tk→Bool→L8→List L8→List JV→Got (JV × Tk)
 | 0,_,_,_,_,_,_,_,_=>.bad [] 0
 | f+1,kind,shut,dp,T,first,t,ks,vs=>
   if T.k=shut then (nextS T.s).bind fun T'=>.ok (.mk kind t ks vs,T')
   else (if first then .ok T else wantS 44 T).bind fun T2=>
    if kind=7 then
     (wantS 5 T2).bind fun T3=>(wantS 58 T3).bind fun T4=>(valF f dp T4).bind fun r=>loopF f kind shut dp r.2 false t (ks++[T2.t]) (vs++[r.1])
    else (valF f dp T2).bind fun r=>loopF f kind shut dp r.2 false t ks (vs++[r.1])
end
def Tk.W (T:Tk):Nat:=if T.k=0 then 0 else T.s.length+1
theorem Got.bind_ok {α β:Type} {g:Got α} {f:α→Got β} {y:β} (h:g.bind f=.ok y):∃ x,g=.ok x∧f x=.ok y:=by
 cases g with
 | ok x=>exact ⟨x,rfl,h⟩
 | bad p e=>cases h
theorem nextS_W {s:L8} {T:Tk} (h:nextS s=.ok T):T.W≤s.length:=by
 unfold nextS at h;split at h
 ·cases h
 ·next k t d hl=>
  injection h with h;subst h;unfold Tk.W;dsimp only;split
  ·omega
  ·next hk=>
   have hd:1≤d∧1≤(s.drop (blS s)).length:=by
    cases hs:s.drop (blS s) with
    | nil=>rw [hs] at hl;simp [lexS] at hl;omega
    | cons c u=>
      rw [hs] at hl;refine ⟨?_,by simp⟩;simp only [lexS] at hl;split at hl
      ·simp at hl;omega
      ·split at hl
       ·split at hl
        ·cases hl
        ·simp at hl;omega
       ·split at hl
        ·split at hl
         ·cases hl
         ·next m hm=>simp at hl;have:=(numL_le hm).1;omega
        ·split at hl
         ·next hlo=>
          split at hl
          ·cases hl
          ·simp at hl;have:runLo (c :: u)=runLo u+1:=by
            unfold runLo;rw [List.takeWhile_cons,if_pos hlo];rfl
           omega
         ·cases hl
   rw [List.length_drop,List.length_drop] at *;omega
theorem wantS_W {sign:Nat} {T T':Tk} (h0:sign≠0) (h:wantS sign T=.ok T'):T'.W<T.W:=by
 unfold wantS at h;split at h
 ·next hk=>
  have:=nextS_W h;have e:T.W=T.s.length+1:=by unfold Tk.W;rw [if_neg (by omega)]
  omega
 ·cases h
theorem W_of {T:Tk} (h:T.k≠0):T.W=T.s.length+1:=by unfold Tk.W;rw [if_neg h]
mutual
theorem valF_W:∀ (f dp:Nat) (T:Tk) (r:JV × Tk),valF f dp T=.ok r→r.2.W<T.W
 | 0,_,_,_,h=>by simp [valF] at h
 | f+1,dp,T,r,h=>by
   unfold valF at h;split at h
   ·next hk=>
    obtain ⟨T',h1,h2⟩:=Got.bind_ok h;injection h2 with h2;subst h2;have:=nextS_W h1;rw [W_of (T:=T) (by omega)];dsimp only;omega
   ·split at h
    ·next hk=>exact manyF_W f 6 93 (dp+1) T.t T r (by omega) (by omega) h
    ·split at h
     ·next hk=>exact manyF_W f 7 125 (dp+1) T.t T r (by omega) (by omega) h
     ·cases h
theorem manyF_W:∀ (f kind shut dp:Nat) (t:L8) (T:Tk) (r:JV × Tk),shut≠0→T.k≠0→manyF f kind shut dp t T=.ok r→r.2.W<T.W
 | 0,_,_,_,_,_,_,_,_,h=>by simp [manyF] at h
 | f+1,kind,shut,dp,t,T,r,h0,hk,h=>by
   unfold manyF at h;split at h
   ·cases h
   ·obtain ⟨T1,h1,h2⟩:=Got.bind_ok h;have a:=nextS_W h1;have b:=loopF_W f kind shut dp T1 true t [] [] r h0 h2;rw [W_of hk];omega
theorem loopF_W:∀ (f kind shut dp:Nat) (T:Tk) (first:Bool) (t:L8) (ks:List L8) (vs:List JV) (r:JV × Tk),shut≠0→loopF f kind shut dp T first t ks vs=.ok r→r.2.W<T.W
 | 0,_,_,_,_,_,_,_,_,_,_,h=>by simp [loopF] at h
 | f+1,kind,shut,dp,T,first,t,ks,vs,r,h0,h=>by
   unfold loopF at h;split at h
   ·next hk=>
    obtain ⟨T',h1,h2⟩:=Got.bind_ok h;injection h2 with h2;subst h2;have:=nextS_W h1;rw [W_of (T:=T) (by omega)];dsimp only;omega
   ·obtain ⟨T2,h1,h2⟩:=Got.bind_ok h;have a:T2.W≤T.W:=by
     cases first
     ·exact Nat.le_of_lt (wantS_W (by decide) h1)
     ·injection h1 with h1;subst h1;exact Nat.le_refl _
    split at h2
    ·obtain ⟨T3,h3,h2⟩:=Got.bind_ok h2;obtain ⟨T4,h4,h2⟩:=Got.bind_ok h2;obtain ⟨v,h5,h2⟩:=Got.bind_ok h2;have b3:=wantS_W (by decide) h3;have b4:=wantS_W (by decide) h4;have b5:=valF_W f dp T4 v h5;have b6:=loopF_W f kind shut dp v.2 false t _ _ r h0 h2;omega
    ·obtain ⟨v,h5,h2⟩:=Got.bind_ok h2;have b5:=valF_W f dp T2 v h5;have b6:=loopF_W f kind shut dp v.2 false t _ _ r h0 h2;omega
end
section
variable {w w' w0:World} {rb:Nat} {A:Option Addr} {n c:Nat} {b l:L8} {at_ k ta bb:Nat} {tx:L8}
theorem suf_drop {s b:L8} (h:s <:+ b):b.drop (b.length - s.length)=s:=(List.suffix_iff_eq_drop.1 h).symm
structure RdT (w:World) (rb:Nat) (A:Option Addr) (n c:Nat) (b:L8) (T:Tk):Prop where
 hs:T.s <:+ b
 hts:T.ts <:+ b
 rd:Rd w rb A n c b (n - T.s.length) T.k (n - T.ts.length) T.t
 hA:∀ ad,A=some ad→ad.block<w.heap.size
theorem RdT.below {T:Tk} (h:RdT w rb A n c b T) (hb:Below w.heap.size w w'):RdT w' rb A n c b T:={ h with rd:=h.rd.below hb,hA:=fun ad e=>nLl (h.hA ad e) hb.size }
theorem RdT.fr {F:Nat→Prop} {T:Tk} (h:RdT w rb A n c b T) (hf:Fr F w w') (hr:¬ F rb) (hA:∀ ad,A=some ad→¬ F ad.block):RdT w' rb A n c b T:={ h with rd:=h.rd.fr hf hr hA,hA:=fun ad e=>nLl (h.hA ad e) hf.size }
theorem next_tk {T:Tk} (h:RdT w rb A n c b T) (hT:Tabs w) (hr2:2≤rb) :
 Calls Tryz.prog 33 #[.pointer (some ⟨rb,0,none⟩)] w fun e w'=>
  (∃ T',nextS T.s=.ok T'∧e=.returned (.tuple #[])∧RdT w' rb A n c b T'∧w.grownBy w' (some rb)) ∨
  (∃ p,nextS T.s=.bad p 11∧e=.panicked (flt (n - p.length) 11)∧w.grownBy w' (some rb)):=by
 have hl:=h.rd.len;have hsl:T.s.length≤n:=by rw [← hl];exact h.hs.length_le
 have hd:b.drop (n - T.s.length)=T.s:=by rw [← hl];exact suf_drop h.hs
 have hbl:blS T.s≤T.s.length:=(List.takeWhile_sublist _).length_le;have hp:b.drop (n - T.s.length+blS T.s)=T.s.drop (blS T.s):=by rw [← List.drop_drop,hd]
 have hpn:n - T.s.length+blS T.s=n - (T.s.drop (blS T.s)).length:=by rw [List.length_drop];omega
 refine (next_any h.rd hT hr2).mono ?_;rw [hd,hp,hpn];rintro e w' (⟨k',t,d,h1,rfl,h2,h3⟩|⟨h1,rfl,h3⟩)
 ·refine .inl ⟨⟨k',t,T.s.drop (blS T.s),(T.s.drop (blS T.s)).drop d⟩,by unfold nextS;rw [h1],rfl,⟨((List.drop_suffix _ _).trans (List.drop_suffix _ _)).trans h.hs,(List.drop_suffix _ _).trans h.hs,?_,fun ad e=>nLl (h.hA ad e) h3.size⟩,h3⟩;have ha:=h2.ha;dsimp only;have hn2:(T.s.drop (blS T.s)).length≤n:=by rw [List.length_drop];omega
  have e:n - ((T.s.drop (blS T.s)).drop d).length=n - (T.s.drop (blS T.s)).length+d:=by
   rw [List.length_drop (l:=T.s.drop (blS T.s))];omega
  rw [e];exact h2
 ·exact .inr ⟨_,by unfold nextS;rw [h1],rfl,h3⟩
theorem fail_tk {T:Tk} (e0:Nat) (h:RdT w rb A n c b T) :
 Calls Tryz.prog 35 #[.pointer (some ⟨rb,0,none⟩),.int .i64 (e0:Int)] w fun e w'=>e=.panicked (flt (n - T.ts.length) e0)∧w.grownBy w' (some rb):=by
 refine (fail_any e0 h.rd).mono ?_;rintro e w' ⟨rfl,hb⟩;exact ⟨rfl,gb_below hb⟩
set_option maxRecDepth 100000 in
theorem want_tk {T:Tk} (sign:Nat) (h:RdT w rb A n c b T) (hT:Tabs w) (hr2:2≤rb) :
 Calls Tryz.prog 131 #[.pointer (some ⟨rb,0,none⟩),.int .i64 (sign:Int)] w fun e w'=>
  (∃ T',wantS sign T=.ok T'∧e=.returned (.tuple #[])∧RdT w' rb A n c b T'∧w.grownBy w' (some rb)) ∨
  (∃ p,wantS sign T=.bad p 11∧e=.panicked (flt (n - p.length) 11)∧w.grownBy w' (some rb)):=by
 have H:=hide h;have HT:=hide hT;have kr:=h.rd.blk.cell;have fr:=h.rd.blk.frozen;have zr:=h.rd.blk.lt;clear h hT;by_cases hk:T.k=sign
 ·have HE:=hide (show wantS sign T=nextS T.s by unfold wantS;rw [if_pos hk]);have hk':decide ((T.k:Int)=(sign:Int))=true:=by simp;omega
  go_enter Tryz.func131,Tryz.ntmps131
  go_wp2_with (go_at_call 33;(refine (next_tk H.out HT.out hr2).mono ?_);rw [← HE.out];rintro e w1 (⟨T',h1,rfl,h2,h3⟩|⟨p,h1,rfl,h3⟩))
  ·go_wp2_with fail
   exact ⟨rfl,.tuple #[],results_none rfl _ _ _,.inl ⟨T',h1,rfl,h2,h3⟩⟩
  ·exact ⟨rfl,.inr ⟨p,h1,rfl,h3⟩⟩
 ·have HE:=hide (show wantS sign T=.bad T.ts 11 by unfold wantS;rw [if_neg hk]);have hk':decide ((T.k:Int)=(sign:Int))=false:=by simp;omega
  go_enter Tryz.func131,Tryz.ntmps131
  go_wp2_with (go_at_call 35;(refine (fail_tk 11 H.out).mono ?_);rintro e w1 ⟨rfl,hg⟩)
  exact ⟨rfl,.inr ⟨T.ts,HE.out,rfl,hg⟩⟩
end
section
variable {P:Program} {Q:Exit→Act→World→Prop}
def ObU (P:Program) (Q:Exit→Act→World→Prop) (N:Nat) (a0:Act) (ds:List Nat) (G:Nat→World→Prop) (T:Nat→World→World→Prop) (U:World→World→Prop) (sp:List FactG) (o:Oper) (e:FactG):Prop:=
 match e.mem with
 | false=>∀ s,e.lo≤s→s≤e.hi → ∀ a w,GrD N a0 ds a→G s w→DepG sp o s a w → ∀ K:Act→World→Prop,(∀ v w',U w w'→e.R s v w'→K (a.put e.d v) w')→o.wp P a w K Q
 | true=>∀ a w,GrD N a0 ds a→G e.lo w→DepG sp o e.lo a w → ∀ K:Act→World→Prop,(∀ v w',T e.lo w w'→G (e.lo+1) w'→e.R (e.lo+1) v w'→K (a.put e.d v) w')→o.wp P a w K Q
def ObsU (P:Program) (Q:Exit→Act→World→Prop) (N:Nat) (a0:Act) (ds:List Nat) (G:Nat→World→Prop) (T:Nat→World→World→Prop) (U:World→World→Prop) (sp:List FactG):List Oper→List FactG→Prop
 | o :: os,e :: es=>ObU P Q N a0 ds G T U sp o e∧ObsU P Q N a0 ds G T U sp os es
 | [],[]=>True
 | _,_=>False
end
end Go.Proofs.YtacinobmcgcccaaGreatDoor
