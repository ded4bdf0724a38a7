/- The JSON writer: value. -/
import Derived.Test.YtacinobmcgcccaaGreatDoorL28
import Derived.Test.YtacinobmcgcccaaGreatDoorL17
import Derived.Lib.SmallJoins
import Derived.Lib.AppendIntMem
import Derived.Lib.ItoaLen
set_option linter.unusedSimpArgs false
set_option linter.unusedVariables false
namespace Go.Proofs.YtacinobmcgcccaaGreatDoor
open Go.RowKit
def itT (o:Bool):Bool→List L8→List L8→L8
 | _,_,[]=>[]
 | first,ks,t :: ts=>(if first then [] else [44])++((if o then quoteL (ks.headD [])++[58] else [])++(t++itT o false ks.tail ts))
mutual
def prJ:JV→L8
 | .mk k t ks vs=>
   if k=1 then [110,117,108,108] else if k=2 then [102,97,108,115,101] else if k=3 then [116,114,117,101] else if k=4 then t else if k=5 then quoteL t
   else if k=7 then 123 :: (itT true true ks (prL vs)++[125]) else 91 :: (itT false true ks (prL vs)++[93])
def prL:List JV→List L8
 | []=>[]
 | a :: az=>prJ a :: prL az
end
theorem numOk_len {t:L8} (h:numOk t=true):t.length≤262144:=by
 unfold numOk at h;simp only [Bool.and_eq_true,decide_eq_true_eq] at h;rcases Nat.lt_or_ge 262144 t.length with q|q
 ·exfalso;have h1:=h.1;unfold parseS at h1;rw [if_pos q] at h1;cases h1
 ·exact q
def ValueC (n:Nat):Prop:=∀ (base wb:Nat) (x:Option L8) (W:World) (J:JV) (cs:List Value) (left:Nat),szJ J≤n→smJ J→dpJ left J=true→WrX base wb x W→base≤W.heap.size→VRd W (fun j=>j<base) J cs →
 Calls Tryz.prog 64 #[.pointer (some ⟨wb,0,none⟩),.agg cs.toArray] W fun e W'=>e=.returned (.tuple #[])∧WrX base wb (putO x (prJ J)) W'∧Below base W W'∧KT W W'
theorem VRd.base {w w':World} {B:Nat} {J:JV} {cs:List Value} (h:VRd w (fun j=>j<B) J cs) (hb:Below B w w'):VRd w' (fun j=>j<B) J cs:=VRd.keep (fun j hj=>hb.block j hj) (fun _ h=>h) _ _ h
theorem itT_cons (o first:Bool) (ks:List L8) (t:L8) (ts:List L8):itT o first ks (t :: ts)=(if first then [] else [44])++((if o then quoteL (ks.headD [])++[58] else [])++(t++itT o false ks.tail ts)):=rfl
theorem prL_drop:∀ {vs:List JV} {i:Nat} (h:i<vs.length),prL (vs.drop i)=prJ vs[i] :: prL (vs.drop (i+1))
 | v :: vs,0,_=>by simp [prL]
 | v :: vs,i+1,h=>by
   rw [List.drop_succ_cons,prL_drop (by simpa using h),List.drop_succ_cons];rfl
theorem putO_none (s:L8):putO none s=none:=rfl
theorem it_step {o:Bool} {x y:Option L8} {ks:List L8} {vs:List JV} {i:Nat} {c:UInt8} (h:i<vs.length) (hk:o=true→i<ks.length)
 (e:putO y (itT o (decide (i=0)) (ks.drop i) (prL (vs.drop i))++[c])=x) (y1 y2 y3:Option L8) (h1:y1=if i=0 then y else putO y [44])
 (h2:y2=if o then putO (putO y1 (quoteL (ks.getD i []))) [58] else y1) (h3:y3=putO y2 (prJ vs[i])) :
 putO y3 (itT o (decide (i+1=0)) (ks.drop (i+1)) (prL (vs.drop (i+1)))++[c])=x:=by
 rw [← e,prL_drop h,itT_cons];have ht:(ks.drop i).tail=ks.drop (i+1):=by rw [List.tail_drop]
 have hd:(ks.drop i).headD []=ks.getD i []:=by
  rw [List.getD_eq_getElem?_getD];rcases Nat.lt_or_ge i ks.length with q|q
  ·rw [List.drop_eq_getElem_cons q,List.getElem?_eq_getElem q];rfl
  ·rw [List.drop_of_length_le q,List.getElem?_eq_none q];rfl
 rw [ht,hd,show decide (i+1=0)=false by simp];subst h3;cases o
 ·simp only [Bool.false_eq_true,if_false] at h2;subst h2;by_cases hi:i=0
  ·subst hi;simp only [if_true] at h1;subst h1;simp [putO_app]
  ·rw [if_neg hi] at h1;subst h1;simp [hi,putO_app]
 ·simp only [if_true] at h2;subst h2;by_cases hi:i=0
  ·subst hi;simp only [if_true] at h1;subst h1;simp [putO_app]
  ·rw [if_neg hi] at h1;subst h1;simp [hi,putO_app]
theorem dpL_at:∀ {left:Nat} {l:List JV} (i:Nat) (h:i<l.length),dpL left l=true→dpJ left l[i]=true
 | left,a :: l,0,_,h=>by unfold dpL at h;simp only [Bool.and_eq_true] at h;exact h.1
 | left,a :: l,i+1,hi,h=>by
   unfold dpL at h;simp only [Bool.and_eq_true] at h;exact dpL_at i (by simpa using hi) h.2
set_option maxRecDepth 100000 in
set_option maxHeartbeats 600000 in
theorem value_step (n:Nat) (ih:ValueC n):ValueC (n+1):=by
 intro base wb x W J cs left hsz hsm hdp hX hb h;obtain ⟨k,t,ks,vs⟩:=J;obtain ⟨A1,c1,A2,c2,xs,rfl,hc1,hr1,hc2,hr2,hl⟩:=h.mk';obtain ⟨hst,hsk,hsv⟩:=sm_mk hsm;have IH:=hide ih;have HSK:=hide hsk;have HSV:=hide hsv;have HDP:=hide hdp;obtain ⟨w1,hw1⟩:∃ y,W.alloc (.cells #[.int .i64 k,.string ⟨t.toArray⟩,.slice A1 ks.length c1,.slice A2 vs.length c2] TV)=y:=⟨_,rfl⟩;have hbel:Below W.heap.size W w1:=hw1 ▸ al_below W _;have HX1:=hide (wrx_below hX hbel);have HB1:=hide (hbel.mono hb);have HT1:=hide (KT.of_below hbel (Nat.le_refl _));have hb1:base≤w1.heap.size:=Nat.le_trans hb hbel.size;have HV:=hide (show Blk w1 W.heap.size TV #[.int .i64 k,.string ⟨t.toArray⟩,.slice A1 ks.length c1,.slice A2 vs.length c2] from hw1 ▸ Blk.new _ _ _);have HR1:=hide hr1;have HR2:=hide hr2;have HL:=hide hl;have HW1:=hide hw1;clear h ih hsk hsv hsm hdp hr1 hr2 hl hw1 hX hbel;have hM:maxLen=9223372036854775807:=rfl
 go_enter Tryz.func64,Tryz.ntmps64
 go_upto_region 1 with fail
 rw [HW1.out];clear HW1;have kv:=HV.out.cell;have fv:=HV.out.frozen;have zv:=HV.out.lt;by_cases k1:k=1
 ·subst k1;have HPR:=hide (show prJ (.mk 1 t ks vs)=[110,117,108,108] by simp [prJ]);go_wp2_with (go_at_call 108;(refine (put_at [110,117,108,108] _ (by rfl) (by decide) HX1.out hb1).mono ?_);rintro e w2 ⟨rfl,hx,hbl,hkt⟩;have HX2:=hide hx;have HB2:=hide (HB1.out.trans hbl);have HT2:=hide (HT1.out.trans hkt);clear hx hbl hkt)
  exact ⟨rfl,.tuple #[],results_none rfl _ _ _,rfl,HPR.out ▸ HX2.out,HB2.out,HT2.out⟩
 by_cases k2:k=2
 ·subst k2;have HPR:=hide (show prJ (.mk 2 t ks vs)=[102,97,108,115,101] by simp [prJ]);go_wp2_with (go_at_call 108;(refine (put_at [102,97,108,115,101] _ (by rfl) (by decide) HX1.out hb1).mono ?_);rintro e w2 ⟨rfl,hx,hbl,hkt⟩;have HX2:=hide hx;have HB2:=hide (HB1.out.trans hbl);have HT2:=hide (HT1.out.trans hkt);clear hx hbl hkt)
  exact ⟨rfl,.tuple #[],results_none rfl _ _ _,rfl,HPR.out ▸ HX2.out,HB2.out,HT2.out⟩
 by_cases k3:k=3
 ·subst k3;have HPR:=hide (show prJ (.mk 3 t ks vs)=[116,114,117,101] by simp [prJ]);go_wp2_with (go_at_call 108;(refine (put_at [116,114,117,101] _ (by rfl) (by decide) HX1.out hb1).mono ?_);rintro e w2 ⟨rfl,hx,hbl,hkt⟩;have HX2:=hide hx;have HB2:=hide (HB1.out.trans hbl);have HT2:=hide (HT1.out.trans hkt);clear hx hbl hkt)
  exact ⟨rfl,.tuple #[],results_none rfl _ _ _,rfl,HPR.out ▸ HX2.out,HB2.out,HT2.out⟩
 by_cases k4:k=4
 ·subst k4;have HPR:=hide (show prJ (.mk 4 t ks vs)=t by simp [prJ]);have hlen:t.length≤262144:=numOk_len (by have h:=HDP.out;simp [dpJ] at h;exact h.1);go_wp2_with (go_at_call 108;(refine (put_at t _ (by rfl) (by omega) HX1.out hb1).mono ?_);rintro e w2 ⟨rfl,hx,hbl,hkt⟩;have HX2:=hide hx;have HB2:=hide (HB1.out.trans hbl);have HT2:=hide (HT1.out.trans hkt);clear hx hbl hkt)
  exact ⟨rfl,.tuple #[],results_none rfl _ _ _,rfl,HPR.out ▸ HX2.out,HB2.out,HT2.out⟩
 by_cases k5:k=5
 ·subst k5;have HPR:=hide (show prJ (.mk 5 t ks vs)=quoteL t by simp [prJ]);go_wp2_with (go_at_call 109;(refine (wstr_any t hst HX1.out hb1).mono ?_);rintro e w2 ⟨rfl,hx,hbl,hkt⟩;have HX2:=hide hx;have HB2:=hide (HB1.out.trans hbl);have HT2:=hide (HT1.out.trans hkt);clear hx hbl hkt)
  exact ⟨rfl,.tuple #[],results_none rfl _ _ _,rfl,HPR.out ▸ HX2.out,HB2.out,HT2.out⟩
 have e1:(k == 1)=false:=by simp;omega
 have e2:(k == 2)=false:=by simp;omega
 have e3:(k == 3)=false:=by simp;omega
 have e4:(k == 4)=false:=by simp;omega
 have e5:(k == 5)=false:=by simp;omega
 by_cases k7:k=7
 ·subst k7;clear k1 k2 k3 k4 k5 e1 e2 e3 e4 e5;have HPR:=hide (show prJ (.mk 7 t ks vs)=123 :: (itT true true ks (prL vs)++[125]) by simp [prJ]);have HKN:=hide (show ks.length=vs.length by have h:=HDP.out;simp [dpJ] at h;exact h.1.1.2);go_upto_region 7 with (go_at_call 108;(refine (put_at [123] _ (by rfl) (by decide) HX1.out hb1).mono ?_);rintro e w2 ⟨rfl,hx,hbl,hkt⟩;have HX2:=hide hx;have HB2:=hide (HB1.out.trans hbl);have HT2:=hide (HT1.out.trans hkt);have HV2:=hide (hkt _ _ _ (by decide) (by decide) HV.out);clear hx hbl hkt)
  clear kv fv zv
  go_loopw [5] (fun iv wr=>∃ (i:Nat) (y:Option L8),iv=.int .i64 (i:Int)∧i≤vs.length∧Hid (WrX base wb y wr)∧Hid (putO y (itT true (decide (i=0)) (ks.drop i) (prL (vs.drop i))++[125])=putO x (prJ (.mk 7 t ks vs)))∧Hid (Below base W wr)∧Hid (KT W wr)∧Hid (Blk wr W.heap.size TV #[.int .i64 7,.string ⟨t.toArray⟩,.slice A1 ks.length c1,.slice A2 vs.length c2])) (fun iv _=>vs.length - (intOf iv).toNat)
  case atStart=>exact ⟨0,_,by go_num,by omega,HX2,hide (by rw [putO_app,HPR.out];rfl),HB2,HT2,HV2⟩
  case round=>
   clear HB2 HT2 HV2 HX2;obtain ⟨i,y,rfl,hi,HX,HE,HB,HT,HVr⟩:=hrel;have hbr:base≤wr.heap.size:=Nat.le_trans hb HB.out.size;have kv:=HVr.out.cell;have fv:=HVr.out.frozen;have zv:=HVr.out.lt;by_cases hlt:i<vs.length
   ·obtain ⟨o,bv,hwr⟩:=HX.out;have kw:=hwr.blk.cell;have fw:=hwr.blk.frozen;have zw:=hwr.blk.lt;clear hwr;cases y with
    | none=>
      simp only [Option.isNone_none] at kw;have HF:=hide (show putO x (prJ (.mk 7 t ks vs))=none from HE.out.symm);clear HE;go_wp2_with (go_at_call 108;(refine (put_at [125] _ (by rfl) (by decide) HX.out hbr).mono ?_);rintro e w3 ⟨rfl,hx,hbl,hkt⟩;(rw [putO_none,← HF.out] at hx);have HX3:=hide hx;have HB3:=hide (HB.out.trans hbl);have HT3:=hide (HT.out.trans hkt);clear hx hbl hkt)
      exact ⟨rfl,.tuple #[],results_none rfl _ _ _,rfl,HX3.out,HB3.out,HT3.out⟩
    | some y0=>
      simp only [Option.isNone_some] at kw;obtain ⟨ad,hA,had,hc⟩:=HR2.out.2 (by omega);subst hA;obtain ⟨cs,hv,hcs⟩:=VRdL.at_ vs xs HL.out i hlt;obtain ⟨a1,a2,a3,a4,a5,a6,a7,a8,rfl⟩:=hv.four;have HC:=hide (show ∀ w',Below base W w'→w'.cell? (ad.add (i * 4))=some (.int .i64 a1)∧w'.cell? ⟨(ad.add (i * 4)).block,(ad.add (i * 4)).off+1,none⟩=some (.string a2)∧w'.cell? ⟨(ad.add (i * 4)).block,(ad.add (i * 4)).off+2,none⟩=some (.slice a3 a4 a5)∧w'.cell? ⟨(ad.add (i * 4)).block,(ad.add (i * 4)).off+3,none⟩=some (.slice a6 a7 a8) from fun w' hb=>by
       have q:∀ m u,xs[i * 4+m]? = some u→w'.cell? (ad.add (i * 4+m))=some u:=fun m u hu=>(hb.cell (by rw [block_of_add];exact had)).trans (hc _ u hu)
       have z:=four_cells (q 0 _ (hcs 0 (by omega))) (q 1 _ (hcs 1 (by omega))) (q 2 _ (hcs 2 (by omega))) (q 3 _ (hcs 3 (by omega)));simpa only [Nat.add_zero] using z)
      have hcj:i≤c2:=by omega
      have hszm:szJ vs[i]≤n:=by have:=szL_at vs i hlt;have:szJ (.mk 7 t ks vs)=szL vs+1:=(by simp [szJ]);omega
      have HVm:=hide hv;have HSM:=hide (smL_at i hlt HSV.out);have HDM:=hide (show dpJ (left - 1) vs[i]=true from dpL_at i hlt (by have h:=HDP.out;simp [dpJ] at h;exact h.2));have HIH:=hide (show ∀ (y:Option L8) (w':World),WrX base wb y w'→base≤w'.heap.size→Below base W w'→Calls Tryz.prog 64 #[.pointer (some ⟨wb,0,none⟩),.agg #[.int .i64 a1,.string a2,.slice a3 a4 a5,.slice a6 a7 a8]] w' _ from fun y w' h1 h2 h3=>IH.out base wb y w' vs[i] _ (left - 1) hszm HSM.out HDM.out h1 h2 (HVm.out.base h3));clear hc hcs hv hszm;have hltk:i<ks.length:=by have:=HKN.out;omega
      obtain ⟨adk,hAk,hadk,hck⟩:=HR1.out.2 (by omega);subst hAk;obtain ⟨kx,hkx⟩:∃ kx,ks[i]=kx:=⟨_,rfl⟩;have HKC:=hide (show ∀ w',Below base W w'→w'.cell? (adk.add i)=some (bstr kx) from fun w' hb=>hkx ▸ (hb.cell (show (adk.add i).block<base by rw [block_of_add];exact hadk)).trans (hck i _ (sc_at hltk)));have HKL:=hide (show kx.length≤9223372036854775807 from hkx ▸ HSK.out ks[i] (List.getElem_mem hltk));have HKG:=hide (show ∀ y:Option L8,putO (putO y (quoteL kx)) [58]=if true then putO (putO y (quoteL (ks.getD i []))) [58] else y from fun y=>by rw [List.getD_eq_getElem?_getD,List.getElem?_eq_getElem hltk,hkx];rfl);have hcjk:i≤c1:=by omega
      clear hck hkx;by_cases hi0:0<i
      ·go_upto_region 11 with (go_at_call 108;(refine (put_at [44] _ (by rfl) (by decide) HX.out hbr).mono ?_);rintro e w2 ⟨rfl,hx,hbl,hkt⟩;have HX2:=hide hx;have HB2:=hide (HB.out.trans hbl);have HT2:=hide (HT.out.trans hkt);have HV2:=hide (hkt _ _ _ (by decide) (by decide) HVr.out);clear hx hbl hkt)
       have HY1:=hide (show putO (some y0) [44]=if i=0 then some y0 else putO (some y0) [44] by rw [if_neg (by omega)]);clear kw fw zw HX HB HT HVr;clear kv fv zv;have kv:=HV2.out.cell;have fv:=HV2.out.frozen;have zv:=HV2.out.lt;have cx:=HKC.out _ HB2.out;unfold bstr at cx;have zk:=nLl hadk (Nat.le_trans hb HB2.out.size);have hsz2:=Nat.le_trans hb HB2.out.size;go_upto_region 13 with (go_at_call 109;(refine (wstr_any kx HKL.out HX2.out hsz2).mono ?_);rintro e w3 ⟨rfl,hx,hbl,hkt⟩;have HX3:=hide hx;have HB3:=hide (HB2.out.trans hbl);have HT3:=hide (HT2.out.trans hkt);have HV3:=hide (hkt _ _ _ (by decide) (by decide) HV2.out);clear hx hbl hkt)
       clear kv fv zv cx zk hsz2;have hsz2:=Nat.le_trans hb HB3.out.size;go_upto_region 14 with (go_at_call 108;(refine (put_at [58] _ (by rfl) (by decide) HX3.out hsz2).mono ?_);rintro e w4 ⟨rfl,hx,hbl,hkt⟩;have HX4:=hide hx;have HB4:=hide (HB3.out.trans hbl);have HT4:=hide (HT3.out.trans hkt);have HV4:=hide (hkt _ _ _ (by decide) (by decide) HV3.out);clear hx hbl hkt)
       clear hsz2;have kv:=HV4.out.cell;have fv:=HV4.out.frozen;have zv:=HV4.out.lt;clear kv fv zv;have kv:=HV4.out.cell;have fv:=HV4.out.frozen;have zv:=HV4.out.lt;obtain ⟨g0,g1,g2,g3⟩:=HC.out _ HB4.out;have zx:=nLl had (Nat.le_trans hb HB4.out.size);have hsz2:=Nat.le_trans hb HB4.out.size;go_wp2_with (go_at_call 64;(refine (HIH.out _ _ HX4.out hsz2 HB4.out).mono ?_);rintro e w5 ⟨rfl,hx,hbl,hkt⟩;have HX5:=hide hx;have HB5:=hide (HB4.out.trans hbl);have HT5:=hide (HT4.out.trans hkt);have HV5:=hide (hkt _ _ _ (by decide) (by decide) HV4.out);clear hx hbl hkt)
       go_roundw
       case rel=>exact ⟨i+1,_,by go_num,by omega,HX5,hide (it_step hlt (fun _=>by have:=HKN.out;omega) HE.out _ _ _ HY1.out (HKG.out _) rfl),HB5,HT5,HV5⟩
       case measure=>simp [intOf];omega
      ·go_upto_region 11 with fail
       have HX2:=HX;have HB2:=HB;have HT2:=HT;have HV2:=HVr;have HY1:=hide (show some y0=if i=0 then some y0 else putO (some y0) [44] by rw [if_pos (by omega)]);clear kw fw zw HX HB HT HVr;clear kv fv zv;have kv:=HV2.out.cell;have fv:=HV2.out.frozen;have zv:=HV2.out.lt;have cx:=HKC.out _ HB2.out;unfold bstr at cx;have zk:=nLl hadk (Nat.le_trans hb HB2.out.size);have hsz2:=Nat.le_trans hb HB2.out.size;go_upto_region 13 with (go_at_call 109;(refine (wstr_any kx HKL.out HX2.out hsz2).mono ?_);rintro e w3 ⟨rfl,hx,hbl,hkt⟩;have HX3:=hide hx;have HB3:=hide (HB2.out.trans hbl);have HT3:=hide (HT2.out.trans hkt);have HV3:=hide (hkt _ _ _ (by decide) (by decide) HV2.out);clear hx hbl hkt)
       clear kv fv zv cx zk hsz2;have hsz2:=Nat.le_trans hb HB3.out.size;go_upto_region 14 with (go_at_call 108;(refine (put_at [58] _ (by rfl) (by decide) HX3.out hsz2).mono ?_);rintro e w4 ⟨rfl,hx,hbl,hkt⟩;have HX4:=hide hx;have HB4:=hide (HB3.out.trans hbl);have HT4:=hide (HT3.out.trans hkt);have HV4:=hide (hkt _ _ _ (by decide) (by decide) HV3.out);clear hx hbl hkt)
       clear hsz2;have kv:=HV4.out.cell;have fv:=HV4.out.frozen;have zv:=HV4.out.lt;clear kv fv zv;have kv:=HV4.out.cell;have fv:=HV4.out.frozen;have zv:=HV4.out.lt;obtain ⟨g0,g1,g2,g3⟩:=HC.out _ HB4.out;have zx:=nLl had (Nat.le_trans hb HB4.out.size);have hsz2:=Nat.le_trans hb HB4.out.size;go_wp2_with (go_at_call 64;(refine (HIH.out _ _ HX4.out hsz2 HB4.out).mono ?_);rintro e w5 ⟨rfl,hx,hbl,hkt⟩;have HX5:=hide hx;have HB5:=hide (HB4.out.trans hbl);have HT5:=hide (HT4.out.trans hkt);have HV5:=hide (hkt _ _ _ (by decide) (by decide) HV4.out);clear hx hbl hkt)
       go_roundw
       case rel=>exact ⟨i+1,_,by go_num,by omega,HX5,hide (it_step hlt (fun _=>by have:=HKN.out;omega) HE.out _ _ _ HY1.out (HKG.out _) rfl),HB5,HT5,HV5⟩
       case measure=>simp [intOf];omega
   ·have HF:=hide (show putO y [125]=putO x (prJ (.mk 7 t ks vs)) from by
     have h:=HE.out;rw [List.drop_of_length_le (show vs.length≤i by omega)] at h;exact h)
    clear HE;go_wp2_with (go_at_call 108;(refine (put_at [125] _ (by rfl) (by decide) HX.out hbr).mono ?_);rintro e w3 ⟨rfl,hx,hbl,hkt⟩;(rw [HF.out] at hx);have HX3:=hide hx;have HB3:=hide (HB.out.trans hbl);have HT3:=hide (HT.out.trans hkt);clear hx hbl hkt)
    exact ⟨rfl,.tuple #[],results_none rfl _ _ _,rfl,HX3.out,HB3.out,HT3.out⟩
 by_cases k6:k=6
 ·subst k6;clear k1 k2 k3 k4 k5 k7 e1 e2 e3 e4 e5;have HPR:=hide (show prJ (.mk 6 t ks vs)=91 :: (itT false true ks (prL vs)++[93]) by simp [prJ]);go_upto_region 7 with (go_at_call 108;(refine (put_at [91] _ (by rfl) (by decide) HX1.out hb1).mono ?_);rintro e w2 ⟨rfl,hx,hbl,hkt⟩;have HX2:=hide hx;have HB2:=hide (HB1.out.trans hbl);have HT2:=hide (HT1.out.trans hkt);have HV2:=hide (hkt _ _ _ (by decide) (by decide) HV.out);clear hx hbl hkt)
  clear kv fv zv
  go_loopw [5] (fun iv wr=>∃ (i:Nat) (y:Option L8),iv=.int .i64 (i:Int)∧i≤vs.length∧Hid (WrX base wb y wr)∧Hid (putO y (itT false (decide (i=0)) (ks.drop i) (prL (vs.drop i))++[93])=putO x (prJ (.mk 6 t ks vs)))∧Hid (Below base W wr)∧Hid (KT W wr)∧Hid (Blk wr W.heap.size TV #[.int .i64 6,.string ⟨t.toArray⟩,.slice A1 ks.length c1,.slice A2 vs.length c2])) (fun iv _=>vs.length - (intOf iv).toNat)
  case atStart=>exact ⟨0,_,by go_num,by omega,HX2,hide (by rw [putO_app,HPR.out];rfl),HB2,HT2,HV2⟩
  case round=>
   clear HB2 HT2 HV2 HX2;obtain ⟨i,y,rfl,hi,HX,HE,HB,HT,HVr⟩:=hrel;have hbr:base≤wr.heap.size:=Nat.le_trans hb HB.out.size;have kv:=HVr.out.cell;have fv:=HVr.out.frozen;have zv:=HVr.out.lt;by_cases hlt:i<vs.length
   ·obtain ⟨o,bv,hwr⟩:=HX.out;have kw:=hwr.blk.cell;have fw:=hwr.blk.frozen;have zw:=hwr.blk.lt;clear hwr;cases y with
    | none=>
      simp only [Option.isNone_none] at kw;have HF:=hide (show putO x (prJ (.mk 6 t ks vs))=none from HE.out.symm);clear HE;go_wp2_with (go_at_call 108;(refine (put_at [93] _ (by rfl) (by decide) HX.out hbr).mono ?_);rintro e w3 ⟨rfl,hx,hbl,hkt⟩;(rw [putO_none,← HF.out] at hx);have HX3:=hide hx;have HB3:=hide (HB.out.trans hbl);have HT3:=hide (HT.out.trans hkt);clear hx hbl hkt)
      exact ⟨rfl,.tuple #[],results_none rfl _ _ _,rfl,HX3.out,HB3.out,HT3.out⟩
    | some y0=>
      simp only [Option.isNone_some] at kw;obtain ⟨ad,hA,had,hc⟩:=HR2.out.2 (by omega);subst hA;obtain ⟨cs,hv,hcs⟩:=VRdL.at_ vs xs HL.out i hlt;obtain ⟨a1,a2,a3,a4,a5,a6,a7,a8,rfl⟩:=hv.four;have HC:=hide (show ∀ w',Below base W w'→w'.cell? (ad.add (i * 4))=some (.int .i64 a1)∧w'.cell? ⟨(ad.add (i * 4)).block,(ad.add (i * 4)).off+1,none⟩=some (.string a2)∧w'.cell? ⟨(ad.add (i * 4)).block,(ad.add (i * 4)).off+2,none⟩=some (.slice a3 a4 a5)∧w'.cell? ⟨(ad.add (i * 4)).block,(ad.add (i * 4)).off+3,none⟩=some (.slice a6 a7 a8) from fun w' hb=>by
       have q:∀ m u,xs[i * 4+m]? = some u→w'.cell? (ad.add (i * 4+m))=some u:=fun m u hu=>(hb.cell (by rw [block_of_add];exact had)).trans (hc _ u hu)
       have z:=four_cells (q 0 _ (hcs 0 (by omega))) (q 1 _ (hcs 1 (by omega))) (q 2 _ (hcs 2 (by omega))) (q 3 _ (hcs 3 (by omega)));simpa only [Nat.add_zero] using z)
      have hcj:i≤c2:=by omega
      have hszm:szJ vs[i]≤n:=by have:=szL_at vs i hlt;have:szJ (.mk 6 t ks vs)=szL vs+1:=(by simp [szJ]);omega
      have HVm:=hide hv;have HSM:=hide (smL_at i hlt HSV.out);have HDM:=hide (show dpJ (left - 1) vs[i]=true from dpL_at i hlt (by have h:=HDP.out;simp [dpJ] at h;exact h.2));have HIH:=hide (show ∀ (y:Option L8) (w':World),WrX base wb y w'→base≤w'.heap.size→Below base W w'→Calls Tryz.prog 64 #[.pointer (some ⟨wb,0,none⟩),.agg #[.int .i64 a1,.string a2,.slice a3 a4 a5,.slice a6 a7 a8]] w' _ from fun y w' h1 h2 h3=>IH.out base wb y w' vs[i] _ (left - 1) hszm HSM.out HDM.out h1 h2 (HVm.out.base h3));clear hc hcs hv hszm;by_cases hi0:0<i
      ·go_upto_region 11 with (go_at_call 108;(refine (put_at [44] _ (by rfl) (by decide) HX.out hbr).mono ?_);rintro e w2 ⟨rfl,hx,hbl,hkt⟩;have HX2:=hide hx;have HB2:=hide (HB.out.trans hbl);have HT2:=hide (HT.out.trans hkt);have HV2:=hide (hkt _ _ _ (by decide) (by decide) HVr.out);clear hx hbl hkt)
       have HY1:=hide (show putO (some y0) [44]=if i=0 then some y0 else putO (some y0) [44] by rw [if_neg (by omega)]);clear kw fw zw HX HB HT HVr;clear kv fv zv;have kv:=HV2.out.cell;have fv:=HV2.out.frozen;have zv:=HV2.out.lt;obtain ⟨g0,g1,g2,g3⟩:=HC.out _ HB2.out;have zx:=nLl had (Nat.le_trans hb HB2.out.size);have hsz2:=Nat.le_trans hb HB2.out.size;go_wp2_with (go_at_call 64;(refine (HIH.out _ _ HX2.out hsz2 HB2.out).mono ?_);rintro e w5 ⟨rfl,hx,hbl,hkt⟩;have HX5:=hide hx;have HB5:=hide (HB2.out.trans hbl);have HT5:=hide (HT2.out.trans hkt);have HV5:=hide (hkt _ _ _ (by decide) (by decide) HV2.out);clear hx hbl hkt)
       go_roundw
       case rel=>exact ⟨i+1,_,by go_num,by omega,HX5,hide (it_step hlt (fun h=>by cases h) HE.out _ _ _ HY1.out rfl rfl),HB5,HT5,HV5⟩
       case measure=>simp [intOf];omega
      ·go_upto_region 11 with fail
       have HX2:=HX;have HB2:=HB;have HT2:=HT;have HV2:=HVr;have HY1:=hide (show some y0=if i=0 then some y0 else putO (some y0) [44] by rw [if_pos (by omega)]);clear kw fw zw HX HB HT HVr;clear kv fv zv;have kv:=HV2.out.cell;have fv:=HV2.out.frozen;have zv:=HV2.out.lt;obtain ⟨g0,g1,g2,g3⟩:=HC.out _ HB2.out;have zx:=nLl had (Nat.le_trans hb HB2.out.size);have hsz2:=Nat.le_trans hb HB2.out.size;go_wp2_with (go_at_call 64;(refine (HIH.out _ _ HX2.out hsz2 HB2.out).mono ?_);rintro e w5 ⟨rfl,hx,hbl,hkt⟩;have HX5:=hide hx;have HB5:=hide (HB2.out.trans hbl);have HT5:=hide (HT2.out.trans hkt);have HV5:=hide (hkt _ _ _ (by decide) (by decide) HV2.out);clear hx hbl hkt)
       go_roundw
       case rel=>exact ⟨i+1,_,by go_num,by omega,HX5,hide (it_step hlt (fun h=>by cases h) HE.out _ _ _ HY1.out rfl rfl),HB5,HT5,HV5⟩
       case measure=>simp [intOf];omega
   ·have HF:=hide (show putO y [93]=putO x (prJ (.mk 6 t ks vs)) from by
     have h:=HE.out;rw [List.drop_of_length_le (show vs.length≤i by omega)] at h;exact h)
    clear HE;go_wp2_with (go_at_call 108;(refine (put_at [93] _ (by rfl) (by decide) HX.out hbr).mono ?_);rintro e w3 ⟨rfl,hx,hbl,hkt⟩;(rw [HF.out] at hx);have HX3:=hide hx;have HB3:=hide (HB.out.trans hbl);have HT3:=hide (HT.out.trans hkt);clear hx hbl hkt)
    exact ⟨rfl,.tuple #[],results_none rfl _ _ _,rfl,HX3.out,HB3.out,HT3.out⟩
 exact absurd HDP.out (by simp [dpJ,k1,k2,k3,k4,k5,k6,k7])
theorem value_all:∀ n,ValueC n
 | 0=>fun base wb x W J cs left hsz=>by
   obtain ⟨k,t,ks,vs⟩:=J;simp [szJ] at hsz
 | n+1=>value_step n (value_all n)
theorem wvalue_any {base wb:Nat} {x:Option L8} {W:World} {J:JV} {cs:List Value} {left:Nat} (hs:smJ J) (hd:dpJ left J=true) (h:WrX base wb x W) (hb:base≤W.heap.size) (hJ:VRd W (fun j=>j<base) J cs) :
 Calls Tryz.prog 64 #[.pointer (some ⟨wb,0,none⟩),.agg cs.toArray] W fun e W'=>e=.returned (.tuple #[])∧WrX base wb (putO x (prJ J)) W'∧Below base W W'∧KT W W':=
 value_all (szJ J) base wb x W J cs left (Nat.le_refl _) hs hd h hb hJ
def prE (J:JV):Nat:=if dpJ 32 J=true then (if (prJ J).length≤262144 then 0 else 12) else 2
def prR (J:JV):L8:=if prE J=0 then prJ J else []
theorem rb_none (w:World) (B:Nat):RB w B none 0 []:=⟨rfl,fun h=>absurd h (by decide)⟩
set_option maxRecDepth 100000 in
set_option maxHeartbeats 600000 in
theorem print_any {W:World} {F:Nat→Prop} {J:JV} {cs:List Value} (hs:smJ J) (hT:Tabs W) (hJ:VRd W F J cs) :
 Calls Tryz.prog 21 #[.agg cs.toArray] W fun e W'=>Below W.heap.size W W' ∧ ∃ A n c,e=.returned (.tuple #[.slice A n c,.int .i64 (prE J:Int)])∧n≤c∧(∀ ad,A=some ad→ad.block<W'.heap.size)∧RB W' W'.heap.size A n (prR J):=by
 obtain ⟨k,t,A1,n1,c1,A2,n2,c2,rfl⟩:=hJ.four;obtain ⟨w1,hw1⟩:∃ y,W.alloc (.cells #[.int .i64 k,.string t,.slice A1 n1 c1,.slice A2 n2 c2] TV)=y:=⟨_,rfl⟩;have HB1:=hide (show Below W.heap.size W w1 from hw1 ▸ al_below W _);have HV:=hide (show Blk w1 W.heap.size TV #[.int .i64 k,.string t,.slice A1 n1 c1,.slice A2 n2 c2] from hw1 ▸ Blk.new _ _ _);have HT1:=hide (hT.below HB1.out);have HJ1:=hide (hJ.all.later HB1.out);have HW1:=hide hw1;clear hw1 hJ hT
 go_enter Tryz.func21,Tryz.ntmps21
 go_upto_region 1 with fail
 rw [HW1.out];clear HW1;have kv:=HV.out.cell;have fv:=HV.out.frozen;have zv:=HV.out.lt;cases hd:dpJ 32 J
 ·have HD:=hide hd;have HE:=hide (show prE J=2 by unfold prE;rw [hd];rfl);have HR:=hide (show prR J=[] by unfold prR;rw [HE.out];rfl);clear hd;go_wp2_with (go_at_call 63;(refine (deep_all _ w1 J _ 32 32 rfl (by decide) (Nat.le_refl _) hs HT1.out HJ1.out).mono ?_);(rw [HD.out]);rintro e w2 ⟨rfl,hb⟩;have HB2:=hide (HB1.out.trans (hb.mono HB1.out.size));clear hb)
  refine bodyPost_ret (v:=.tuple #[.slice none 0 0,.int .i64 2]) (by simp (maxDischargeDepth:=9) [results,Tryz.results21,go_sem];done) rfl ?_;refine ⟨HB2.out,none,0,0,by rw [HE.out];rfl,Nat.le_refl _,(fun ad e=>by cases e),by rw [HR.out];exact rb_none _ _⟩
 ·have HD:=hide hd;clear hd;go_upto_region 3 with (go_at_call 63;(refine (deep_all _ w1 J _ 32 32 rfl (by decide) (Nat.le_refl _) hs HT1.out HJ1.out).mono ?_);(rw [HD.out]);rintro e w2 ⟨rfl,hb⟩;have HB2:=hide (HB1.out.trans (hb.mono HB1.out.size));have HV2:=hide (HV.out.below hb HV.out.lt);have HJ2:=hide (HJ1.out.later hb);clear hb)
  clear kv fv zv;go_upto_region 4 with fail
  obtain ⟨w3,hw3⟩:∃ y,w2.alloc (.cells #[.slice none 0 0,.bool false] TWr)=y:=⟨_,rfl⟩;have hbel:Below w2.heap.size w2 w3:=hw3 ▸ al_below w2 _;have HB3:=hide (HB2.out.trans (hbel.mono HB2.out.size));have HX3:=hide (show WrX w2.heap.size w2.heap.size (some []) w3 from ⟨[],.slice none 0 0,hw3 ▸ Blk.new _ _ _,World.ownsRow_nil _ _ _ _,by simp,(fun o' e=>by injection e with e;exact e.symm),Nat.le_refl _,(fun h=>by cases h)⟩);have HV3:=hide (HV2.out.below hbel HV2.out.lt);have HJ3:=hide (show VRd w3 (fun j=>j<w2.heap.size) J _ from VRd.keep (fun j hj=>hbel.block j hj) (fun _ h=>h) _ _ HJ2.out);have hs3:w2.heap.size≤w3.heap.size:=hbel.size;rw [hw3];clear hw3 hbel;have kv:=HV3.out.cell;have fv:=HV3.out.frozen;have zv:=HV3.out.lt;go_upto_region 5 with (go_at_call 64;(refine (wvalue_any hs HD.out HX3.out hs3 HJ3.out).mono ?_);rintro e w4 ⟨rfl,hx,hbl,hkt⟩;have HX4:=hide hx;have HB4:=hide (HB3.out.trans (hbl.mono HB2.out.size));clear hx hbl hkt)
  clear kv fv zv;obtain ⟨o,bv,hwr⟩:=HX4.out;have kw:=hwr.blk.cell;have fw:=hwr.blk.frozen;have zw:=hwr.blk.lt;have HWR:=hide hwr;clear hwr;by_cases hl:(prJ J).length≤262144
  ·have hp:putO (some []) (prJ J)=some (prJ J):=by unfold putO;simp [hl]
   have HE:=hide (show prE J=0 by unfold prE;rw [HD.out,if_pos rfl,if_pos hl]);have HR:=hide (show prR J=prJ J by unfold prR;rw [HE.out];rfl);obtain rfl:=HWR.out.eq _ hp;obtain ⟨A,c,rfl,hc⟩:=own_slice HWR.out.row;rw [hp] at kw;simp only [Option.isNone_some] at kw;clear hp hl;go_wp2_with fail
   refine bodyPost_ret (v:=.tuple #[.slice A (prJ J).length c,.int .i64 0]) (by simp (maxDischargeDepth:=9) [results,Tryz.results21,go_sem];done) rfl ?_;refine ⟨HB4.out,A,(prJ J).length,c,by rw [HE.out];rfl,hc,fun ad e=>own_lt HWR.out.row _ (by rw [e];rfl),by rw [HR.out];exact own_rb' HWR.out.row⟩
  ·have hp:putO (some []) (prJ J)=none:=by unfold putO;simp;omega
   have HE:=hide (show prE J=12 by unfold prE;rw [HD.out,if_pos rfl,if_neg hl]);have HR:=hide (show prR J=[] by unfold prR;rw [HE.out];rfl);rw [hp] at kw;simp only [Option.isNone_none] at kw;clear hp hl;go_wp2_with fail
   refine bodyPost_ret (v:=.tuple #[.slice none 0 0,.int .i64 12]) (by simp (maxDischargeDepth:=9) [results,Tryz.results21,go_sem];done) rfl ?_;refine ⟨HB4.out,none,0,0,by rw [HE.out];rfl,Nat.le_refl _,(fun ad e=>by cases e),by rw [HR.out];exact rb_none _ _⟩
end Go.Proofs.YtacinobmcgcccaaGreatDoor
/- gjson: text, number, array. -/
namespace Go.Proofs.YtacinobmcgcccaaGreatDoor
open Go.RowKit Go.Shelf
structure GT (w:World):Prop where
 tabs:Tabs w
 pow : Lib.TabIs Tryz.prog w "internal/strconv.uint64pow10" .u64 Lib.pow10Tab
theorem pow_named : Tryz.prog.globalNamed "internal/strconv.uint64pow10" = some 2 := by kernel_rfl
theorem GT.below {w w':World} (h:GT w) (hb:Below w.heap.size w w'):GT w':=⟨h.tabs.below hb,Go.Joins.tab_stays pow_named h.pow hb (Nat.le_refl _)⟩
theorem grow_below (w:World) (k:Nat) (os:Array Obj):Below w.heap.size w (Go.Sort.grow (w.drewN k) os):=Lib.below_grow _ _ (Nat.le_refl _) k os
def numJ (n:Int):JV:=.mk 4 (Lib.itoa n) [] []
def textJ (s:L8):JV:=.mk 5 s [] []
def arrJ (l:List JV):JV:=.mk 6 [] [] l
def objJ (l:List (L8 × JV)):JV:=.mk 7 [] (l.map (·.1)) (l.map (·.2))
set_option maxRecDepth 100000 in
theorem gtext_any (s:ByteArray) (w:World):Calls Tryz.prog 25 #[.string s] w fun e w'=>e=.returned (.agg #[.int .i64 5,.string s,.slice none 0 0,.slice none 0 0])∧Below w.heap.size w w':=by
 obtain ⟨w1,hw1⟩:∃ q,w.alloc (.cells #[.int .i64 0,.string ⟨#[]⟩,.slice none 0 0,.slice none 0 0] TV)=q:=⟨_,rfl⟩;have HB1:=hide (show Below w.heap.size w w1 from hw1 ▸ bal bR _);have hk1:Blk w1 w.heap.size TV #[.int .i64 0,.string ⟨#[]⟩,.slice none 0 0,.slice none 0 0]:=hw1 ▸ Blk.new _ _ _;have HK1:=hide hk1;have kc:=hk1.cell;have fc:=hk1.frozen;have zc:=hk1.lt;have HW1:=hide hw1;clear hw1 hk1
 go_enter Tryz.func25,Tryz.ntmps25
 go_upto_region 1 with fail
 rw [HW1.out];go_wp2_with fail
 refine ⟨rfl,.agg #[.int .i64 5,.string s,.slice none 0 0,.slice none 0 0],results_cell_row rfl _ _ w.heap.size TV _ (0,0) _ rfl (set4_blk HK1.out (.int .i64 5) (.string s) (.slice none 0 0) (.slice none 0 0)) Tryz.underlying39 rfl tv_info,rfl,set4_below HB1.out (Nat.le_refl _) _ _ _ _⟩
set_option maxRecDepth 100000 in
theorem gnumber_any (n:Int) (w:World) (h0:-9223372036854775808≤n) (h1:n≤9223372036854775807) (hT:GT w) :
 Calls Tryz.prog 26 #[.int .i64 n] w fun e w'=>e=.returned (.agg #[.int .i64 4,.string ⟨(Lib.itoa n).toArray⟩,.slice none 0 0,.slice none 0 0])∧Below w.heap.size w w':=by
 obtain ⟨w1,hw1⟩:∃ q,w.alloc (.cells #[.int .i64 0,.string ⟨#[]⟩,.slice none 0 0,.slice none 0 0] TV)=q:=⟨_,rfl⟩;have HB1:=hide (show Below w.heap.size w w1 from hw1 ▸ bal bR _);have hk1:Blk w1 w.heap.size TV #[.int .i64 0,.string ⟨#[]⟩,.slice none 0 0,.slice none 0 0]:=hw1 ▸ Blk.new _ _ _;have HK1:=hide hk1;have hc:=Tryz.strconv_Itoa n h0 h1 w1 (hT.below HB1.out).pow;change Calls Tryz.prog 72 _ _ _ at hc;have HC:=hide hc;have HW1:=hide hw1;clear hw1 hk1 hc hT;clear h0 h1
 go_enter Tryz.func26,Tryz.ntmps26
 go_upto_region 1 with fail
 rw [HW1.out];go_wp2_with (go_at_call 72;go_loud (refine HC.out.mono ?_);rintro e w2 ⟨rfl,k,os,e2⟩;have hb2:Below w1.heap.size w1 w2:=e2 ▸ grow_below w1 k os;clear e2;have HB2:=hide hb2;have hk:=HK1.out.below hb2 HK1.out.lt;have kc:=hk.cell;have fc:=hk.frozen;have zc:=hk.lt;have HK2:=hide hk;clear hb2 hk)
 refine ⟨rfl,.agg #[.int .i64 4,.string ⟨(Lib.itoa n).toArray⟩,.slice none 0 0,.slice none 0 0],results_cell_row rfl _ _ w.heap.size TV _ (0,0) _ rfl (set4_blk HK2.out (.int .i64 4) (.string ⟨(Lib.itoa n).toArray⟩) (.slice none 0 0) (.slice none 0 0)) Tryz.underlying39 rfl tv_info,rfl,set4_below (btr HB1.out HB2.out) (Nat.le_refl _) _ _ _ _⟩
set_option maxRecDepth 100000 in
theorem garray_any (A:Option Addr) (n c:Nat) (w:World):Calls Tryz.prog 28 #[.slice A n c] w fun e w'=>e=.returned (.agg #[.int .i64 6,.string ⟨#[]⟩,.slice none 0 0,.slice A n c])∧Below w.heap.size w w':=by
 obtain ⟨w1,hw1⟩:∃ q,w.alloc (.cells #[.int .i64 0,.string ⟨#[]⟩,.slice none 0 0,.slice none 0 0] TV)=q:=⟨_,rfl⟩;have HB1:=hide (show Below w.heap.size w w1 from hw1 ▸ bal bR _);have hk1:Blk w1 w.heap.size TV #[.int .i64 0,.string ⟨#[]⟩,.slice none 0 0,.slice none 0 0]:=hw1 ▸ Blk.new _ _ _;have HK1:=hide hk1;have kc:=hk1.cell;have fc:=hk1.frozen;have zc:=hk1.lt;have HW1:=hide hw1;clear hw1 hk1
 go_enter Tryz.func28,Tryz.ntmps28
 go_upto_region 1 with fail
 rw [HW1.out];go_wp2_with fail
 refine ⟨rfl,.agg #[.int .i64 6,.string ⟨#[]⟩,.slice none 0 0,.slice A n c],results_cell_row rfl _ _ w.heap.size TV _ (0,0) _ rfl (set4_blk HK1.out (.int .i64 6) (.string ⟨#[]⟩) (.slice none 0 0) (.slice A n c)) Tryz.underlying39 rfl tv_info,rfl,set4_below HB1.out (Nat.le_refl _) _ _ _ _⟩
def isB (d:UInt8) (v:Value) (w:World):Prop:=∃ g,v=.slice (some ⟨g,0,none⟩) 1 1∧Blk w g T8 #[.int .u8 d.toNat]
theorem isB.mono {d:UInt8} {v:Value} {w w':World} (h:isB d v w) (hb:Below w.heap.size w w'):isB d v w':=by
 obtain ⟨g,e,hk⟩:=h;exact ⟨g,e,hk.below hb hk.lt⟩
end Go.Proofs.YtacinobmcgcccaaGreatDoor
