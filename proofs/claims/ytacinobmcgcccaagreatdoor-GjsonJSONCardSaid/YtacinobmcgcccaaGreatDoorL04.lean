/- Points: the program's Meet is the document's: the cases. -/
import Derived.Test.YtacinobmcgcccaaGreatDoorL02
import Derived.Test.YtacinobmcgcccaaGreatDoorL03
import Derived.Deep.CutRange
import Derived.Lib.LazyBuf
set_option linter.unusedSimpArgs false
set_option linter.unusedVariables false
namespace Go.Proofs.YtacinobmcgcccaaGreatDoor
theorem hi_le (x y:Int):x≤hi x y∧y≤hi x y:=by unfold hi;split <;> omega
theorem lo_le (x y:Int):lo x y≤x∧lo x y≤y:=by unfold lo;split <;> omega
theorem apart_iff (a b c d:Pt):apartV a b c d=true ↔ hi a.x b.x<lo c.x d.x∨hi c.x d.x<lo a.x b.x∨hi a.y b.y<lo c.y d.y∨hi c.y d.y<lo a.y b.y:=by
 unfold apartV;simp only [Bool.or_eq_true,decide_eq_true_iff]
theorem apart_on {a b c d p:Pt} (h:apartV a b c d=true) (h1:ronV a b p=true) (h2:p=c∨p=d):False:=by
 rw [apart_iff] at h;obtain ⟨_,h3,h4⟩:=(ron_iff a b p).1 h1;have k1:=hi_le a.x b.x;have k2:=hi_le a.y b.y;have k3:=hi_le c.x d.x;have k4:=hi_le c.y d.y;have k5:=lo_le a.x b.x;have k6:=lo_le a.y b.y;have k7:=lo_le c.x d.x;have k8:=lo_le c.y d.y;rcases h2 with rfl|rfl <;> omega
theorem apart_swap {a b c d:Pt} (h:apartV a b c d=true):apartV c d a b=true:=by
 rw [apart_iff] at h ⊢;omega
theorem apart_cross {a b c d:Pt} (h:apartV a b c d=true):crossP a b c d=false:=by
 rcases hc:crossP a b c d with _|_
 ·rfl
 ·rw [apart_iff] at h;obtain ⟨α,β,γ,δ,h1,h2,h3,h4,hs,hx,hy⟩:=cross_meets hc;have k1:=hi_le a.x b.x;have k2:=hi_le a.y b.y;have k3:=hi_le c.x d.x;have k4:=hi_le c.y d.y;have k5:=lo_le a.x b.x;have k6:=lo_le a.y b.y;have k7:=lo_le c.x d.x;have k8:=lo_le c.y d.y;have b1:=apart_le hx hs h1 h2 h3 h4 k1.1 k1.2 k7.1 k7.2;have b2:=apart_le hx.symm hs.symm h3 h4 h1 h2 k3.2 k3.1 k5.2 k5.1;have b3:=apart_le hy hs h1 h2 h3 h4 k2.1 k2.2 k8.1 k8.2;have b4:=apart_le hy.symm hs.symm h3 h4 h1 h2 k4.2 k4.1 k6.2 k6.1;omega
theorem false_of {b:Bool} (h:b=true→False):b=false:=by cases b <;> simp_all
theorem meet_apart {a b c d:Pt} (h:apartV a b c d=true):rmeetV a b c d=0:=by
 have k:=apart_swap h;rw [rmeet_no (no_ends (false_of fun e=>apart_on k e (.inl rfl)) (false_of fun e=>apart_on k e (.inr rfl)) (false_of fun e=>apart_on h e (.inl rfl)) (false_of fun e=>apart_on h e (.inr rfl))),apart_cross h];rfl
theorem line_key {a b c d:Pt} (ha:a.good) (hb:b.good) (hc:c.good) (hd:d.good) (A B C D:Int) (eA:key a=A) (eB:key b=B) (eC:key c=C) (eD:key d=D) :
 ∃ f t,(f=A∨f=C)∧(t=B∨t=D)∧A≤f∧C≤f∧t≤B∧t≤D∧lineQ a b c d=if t<f then 0 else if f=t then 1 else 3:=by
 unfold lineQ;simp only [order_pos ha hc,order_neg hd hb];have h1:(if key c<key a then a else c).good:=by split <;> assumption
 have h2:(if key d<key b then d else b).good:=by split <;> assumption
 simp only [order_pos h1 h2,order_zero h1 h2];refine ⟨key (if key c<key a then a else c),key (if key d<key b then d else b),?_,?_,?_,?_,?_,?_,rfl⟩
 all_goals split <;> omega
theorem meet_line {a b c d:Pt} (ha:a.good) (hb:b.good) (hc:c.good) (hd:d.good) (h1:crossV a b c=0) (h2:crossV a b d=0) (h3:crossV c d a=0) (h4:crossV c d b=0) :
 lineV a b c d=rmeetV a b c d:=by
 have r1:=(ron_iff a b c).trans ((and_congr_right fun h=>(mid_box ha hb hc h).symm).trans (and_iff_right h1));have r2:=(ron_iff a b d).trans ((and_congr_right fun h=>(mid_box ha hb hd h).symm).trans (and_iff_right h2));have r3:=(ron_iff c d a).trans ((and_congr_right fun h=>(mid_box hc hd ha h).symm).trans (and_iff_right h3));have r4:=(ron_iff c d b).trans ((and_congr_right fun h=>(mid_box hc hd hb h).symm).trans (and_iff_right h4));unfold mid at r1 r2 r3 r4;have m:∀ x,x∈endsL a b c d ↔ _:=fun x=>mem_ends.trans (or_congr (and_congr_right fun _=>r3) (or_congr (and_congr_right fun _=>r4) (or_congr (and_congr_right fun _=>r1) (and_congr_right fun _=>r2))))
 have hcr:crossP a b c d=false:=false_of fun e=>by have:=(cross_iff a b c d).1 e;omega
 obtain ⟨e1,e2⟩:=ends_good ha hb;obtain ⟨e3,e4⟩:=ends_good hc hd;obtain ⟨f,t,hf,ht,l1,l2,l3,l4,hl⟩:=line_key e1 e2 e3 e4 _ _ _ _ rfl rfl rfl rfl;unfold lineV;rw [hl];have k1:=ends_key ha hb;have k2:=ends_key hc hd;generalize key (endsV a b).1=A at *;generalize key (endsV a b).2=B at *;generalize key (endsV c d).1=C at *;generalize key (endsV c d).2=D at *;have hgood:∀ x,x∈endsL a b c d→x.good:=fun x hx=>by
  rcases (m x).1 hx with ⟨rfl,_⟩|⟨rfl,_⟩|⟨rfl,_⟩|⟨rfl,_⟩ <;> assumption
 split
 ·rename_i hlt
  rw [rmeet_no,hcr];rfl;intro x hx;rcases (m x).1 hx with ⟨rfl,h⟩|⟨rfl,h⟩|⟨rfl,h⟩|⟨rfl,h⟩ <;> omega
 ·rename_i hlt
  have ef:∃ x,x∈endsL a b c d∧key x=f:=by
   have w:(key a=f∧((key c≤key a∧key a≤key d)∨(key d≤key a∧key a≤key c)))∨(key b=f∧((key c≤key b∧key b≤key d)∨(key d≤key b∧key b≤key c)))∨(key c=f∧((key a≤key c∧key c≤key b)∨(key b≤key c∧key c≤key a)))∨(key d=f∧((key a≤key d∧key d≤key b)∨(key b≤key d∧key d≤key a))):=by omega
   rcases w with ⟨e,h⟩|⟨e,h⟩|⟨e,h⟩|⟨e,h⟩
   ·exact ⟨a,(m a).2 (.inl ⟨rfl,h⟩),e⟩
   ·exact ⟨b,(m b).2 (.inr (.inl ⟨rfl,h⟩)),e⟩
   ·exact ⟨c,(m c).2 (.inr (.inr (.inl ⟨rfl,h⟩))),e⟩
   ·exact ⟨d,(m d).2 (.inr (.inr (.inr ⟨rfl,h⟩))),e⟩
  split
  ·rename_i heq
   refine (rmeet_1 ⟨ef.choose,ef.choose_spec.1⟩ fun x hx y hy=>key_inj (hgood x hx) (hgood y hy) ?_).symm;have all:∀ x,x∈endsL a b c d→key x=f:=fun x hx=>by
    rcases (m x).1 hx with ⟨rfl,h⟩|⟨rfl,h⟩|⟨rfl,h⟩|⟨rfl,h⟩ <;> omega
   rw [all x hx,all y hy]
  ·rename_i hne
   have et:∃ x,x∈endsL a b c d∧key x=t:=by
    have w:(key a=t∧((key c≤key a∧key a≤key d)∨(key d≤key a∧key a≤key c)))∨(key b=t∧((key c≤key b∧key b≤key d)∨(key d≤key b∧key b≤key c)))∨(key c=t∧((key a≤key c∧key c≤key b)∨(key b≤key c∧key c≤key a)))∨(key d=t∧((key a≤key d∧key d≤key b)∨(key b≤key d∧key d≤key a))):=by omega
    rcases w with ⟨e,h⟩|⟨e,h⟩|⟨e,h⟩|⟨e,h⟩
    ·exact ⟨a,(m a).2 (.inl ⟨rfl,h⟩),e⟩
    ·exact ⟨b,(m b).2 (.inr (.inl ⟨rfl,h⟩)),e⟩
    ·exact ⟨c,(m c).2 (.inr (.inr (.inl ⟨rfl,h⟩))),e⟩
    ·exact ⟨d,(m d).2 (.inr (.inr (.inr ⟨rfl,h⟩))),e⟩
   obtain ⟨x,hx,ex⟩:=ef;obtain ⟨y,hy,ey⟩:=et;exact (rmeet_3 ⟨x,hx,y,hy,fun e=>hne (by rw [← ex,← ey,e])⟩).symm
theorem mix {p q r s:Pt} (hpq:p≠q) (h1:crossV p r q=0) (h2:crossV q s p=0):crossV p r s=0∧crossV q s r=0:=by
 have a1:=cross_swap p q r;have a2:=cross_rot p q r;have a3:=cross_rot q r p;have a4:=cross_swap q r p;have a5:=cross_swap r p q;have a0:=cross_rot r p q;have b1:=cross_swap p q s;have b2:=cross_rot p q s;have b3:=cross_rot q s p;have b4:=cross_swap q s p;have b5:=cross_swap s p q;have b0:=cross_rot s p q;have c2:=cross_rot p r q;have c3:=cross_rot q s p;exact ⟨coll hpq (by omega) (by omega),coll (fun e=>hpq e.symm) (by omega) (by omega)⟩
theorem one_line {c d x y:Pt} (h1:crossV c d x=0∧box c d x) (h2:crossV c d y=0∧box c d y) (hn:x≠y):crossV x y c=0∧crossV x y d=0:=by
 have hcd:c≠d:=fun e=>hn (by
  subst e;obtain ⟨_,b1,b2⟩:=h1;obtain ⟨_,b3,b4⟩:=h2;exact Pt.ext_ (by omega) (by omega))
 have k1:=coll hcd h1.1 h2.1;have k2:=coll (fun e=>hcd e.symm) (show crossV d c x=0 by rw [cross_swap,h1.1];rfl) (show crossV d c y=0 by rw [cross_swap,h2.1];rfl);exact ⟨by rw [cross_rot c x y];exact k1,by rw [cross_rot d x y];exact k2⟩
theorem two_ends {a b c d x y:Pt} (hx:x∈endsL a b c d) (hy:y∈endsL a b c d) (hn:x≠y):crossV a b c=0∧crossV a b d=0∧crossV c d a=0∧crossV c d b=0:=by
 have sw:∀ p q r:Pt,crossV p q r=0→crossV q p r=0:=fun p q r h=>by rw [cross_swap,h];rfl
 simp only [mem_ends,ron_iff] at hx hy;have ab:∀ (_:crossV c d a=0∧box c d a) (_:crossV c d b=0∧box c d b) (_:a≠b),crossV a b c=0∧crossV a b d=0∧crossV c d a=0∧crossV c d b=0:=fun h1 h2 h=>by
  have:=one_line h1 h2 h;exact ⟨this.1,this.2,h1.1,h2.1⟩
 have cd:∀ (_:crossV a b c=0∧box a b c) (_:crossV a b d=0∧box a b d) (_:c≠d),crossV a b c=0∧crossV a b d=0∧crossV c d a=0∧crossV c d b=0:=fun h1 h2 h=>by
  have:=one_line h1 h2 h;exact ⟨h1.1,h2.1,this.1,this.2⟩
 have ac:∀ (_:crossV c d a=0) (_:crossV a b c=0) (_:a≠c),crossV a b c=0∧crossV a b d=0∧crossV c d a=0∧crossV c d b=0:=fun h1 h2 h=>by
  have:=mix h h2 h1;exact ⟨h2,this.1,h1,this.2⟩
 have ad:∀ (_:crossV c d a=0) (_:crossV a b d=0) (_:a≠d),crossV a b c=0∧crossV a b d=0∧crossV c d a=0∧crossV c d b=0:=fun h1 h2 h=>by
  have:=mix h h2 (sw _ _ _ h1);exact ⟨this.1,h2,h1,sw _ _ _ this.2⟩
 have bc:∀ (_:crossV c d b=0) (_:crossV a b c=0) (_:b≠c),crossV a b c=0∧crossV a b d=0∧crossV c d a=0∧crossV c d b=0:=fun h1 h2 h=>by
  have:=mix h (sw _ _ _ h2) h1;exact ⟨h2,sw _ _ _ this.1,this.2,h1⟩
 have bd:∀ (_:crossV c d b=0) (_:crossV a b d=0) (_:b≠d),crossV a b c=0∧crossV a b d=0∧crossV c d a=0∧crossV c d b=0:=fun h1 h2 h=>by
  have:=mix h (sw _ _ _ h2) (sw _ _ _ h1);exact ⟨sw _ _ _ this.1,h2,sw _ _ _ this.2,h1⟩
 rcases hx with ⟨rfl,h1⟩|⟨rfl,h1⟩|⟨rfl,h1⟩|⟨rfl,h1⟩ <;> rcases hy with ⟨rfl,h2⟩|⟨rfl,h2⟩|⟨rfl,h2⟩|⟨rfl,h2⟩
 ·exact absurd rfl hn
 ·exact ab h1 h2 hn
 ·exact ac h1.1 h2.1 hn
 ·exact ad h1.1 h2.1 hn
 ·exact ab h2 h1 (fun e=>hn e.symm)
 ·exact absurd rfl hn
 ·exact bc h1.1 h2.1 hn
 ·exact bd h1.1 h2.1 hn
 ·exact ac h2.1 h1.1 (fun e=>hn e.symm)
 ·exact bc h2.1 h1.1 (fun e=>hn e.symm)
 ·exact absurd rfl hn
 ·exact cd h1 h2 hn
 ·exact ad h2.1 h1.1 (fun e=>hn e.symm)
 ·exact bd h2.1 h1.1 (fun e=>hn e.symm)
 ·exact cd h2 h1 (fun e=>hn e.symm)
 ·exact absurd rfl hn
theorem meet_eq {a b c d:Pt} (ha:a.good) (hb:b.good) (hc:c.good) (hd:d.good):meetV a b c d=rmeetV a b c d:=by
 unfold meetV meetB;rw [on_eq ha hb hc,on_eq ha hb hd,on_eq hc hd ha,on_eq hc hd hb];split
 ·rename_i h;exact (meet_apart h).symm
 ·split
  ·rename_i h
   simp only [Bool.and_eq_true,beq_iff_eq,turn_zero] at h;exact meet_line ha hb hc hd h.1 h.2.1 h.2.2.1 h.2.2.2
  ·rename_i hnz
   simp only [Bool.and_eq_true,beq_iff_eq,turn_zero] at hnz;split
   ·rename_i h
    have hcr:crossP a b c d=true:=h;have h:=(cross_iff a b c d).1 hcr;rw [rmeet_no,hcr];rfl;refine no_ends (false_of fun e=>?_) (false_of fun e=>?_) (false_of fun e=>?_) (false_of fun e=>?_)
    all_goals (have:=((ron_iff _ _ _).1 e).1;omega)
   ·rename_i hcr
    have hcr:crossP a b c d=false:=by unfold crossP;simpa using hcr
    split
    ·rename_i h
     refine (rmeet_1 ?_ fun x hx y hy=>?_).symm
     ·simp only [Bool.or_eq_true] at h;rcases h with h|h|h|h
      ·exact ⟨c,mem_ends.2 (.inr (.inr (.inl ⟨rfl,h⟩)))⟩
      ·exact ⟨d,mem_ends.2 (.inr (.inr (.inr ⟨rfl,h⟩)))⟩
      ·exact ⟨a,mem_ends.2 (.inl ⟨rfl,h⟩)⟩
      ·exact ⟨b,mem_ends.2 (.inr (.inl ⟨rfl,h⟩))⟩
     ·by_cases hn:x=y
      ·exact hn
      ·exact absurd (two_ends hx hy hn) hnz
    ·rename_i h
     simp only [Bool.or_eq_true,not_or,Bool.not_eq_true] at h;rw [rmeet_no (no_ends h.2.2.1 h.2.2.2 h.1 h.2.1),hcr];rfl
end Go.Proofs.YtacinobmcgcccaaGreatDoor
/- Points: the reference's Meet. -/
namespace Go.Proofs.YtacinobmcgcccaaGreatDoor
open Go.RowKit
theorem pt_info:(Tryz.prog.info? 56).map (fun i=>(i.zero,i.size,i.bytes))=some (some (.agg #[.int .i64 0,.int .i64 0]),2,16):=by kernel_rfl
theorem pt_one (l:List Pt):∀ u∈l.flatMap Pt.enc,u.oneCell'=true:=by
 intro u hu;obtain ⟨v,_,hv⟩:=List.mem_flatMap.1 hu;simp [Pt.enc] at hv;rcases hv with rfl|rfl <;> rfl
def St (W0 W:World) (v:Value) (l:List Pt):Prop:=Below W0.heap.size W0 W∧W.ownsRow W0.heap.size 56 2 v l.length (l.flatMap Pt.enc)
theorem St.later {W0 W W':World} {v:Value} {l:List Pt} (h:St W0 W v l) (hb:Below W.heap.size W W'):St W0 W' v l:=⟨btr h.1 hb,own_later h.2 hb⟩
theorem St.grown {W0 W W':World} {v v':Value} {l m:List Pt} (h:St W0 W v l) (hg:W.grownBy W' v.ownBlock) (ho:W'.ownsRow W0.heap.size 56 2 v' (l.length+1) (m.flatMap Pt.enc)) (hm:m.length=l.length+1):St W0 W' v' m:=
 ⟨h.1.grown hg h.1.size (own_block h.2),by rw [hm];exact ho⟩
theorem PB.newb (w:World) (p:Pt):Below w.heap.size w (w.alloc (Obj.cells #[Value.int IntKind.i64 p.x,Value.int IntKind.i64 p.y] 56)):=bal bR _
theorem pr1 (w:World) (p:Pt):PR (w.alloc (Obj.cells #[Value.int IntKind.i64 p.x,Value.int IntKind.i64 p.y] 56)) (w.alloc (Obj.cells #[Value.int IntKind.i64 p.x,Value.int IntKind.i64 p.y] 56)).heap.size (some ⟨w.heap.size,0,none⟩) 1 [p]:=
 Sl.of_blk (Blk.new w _ #[Value.int IntKind.i64 p.x,Value.int IntKind.i64 p.y]) rfl rfl rfl
theorem pt_one1 (p:Pt):∀ u∈p.enc,u.oneCell'=true:=by simpa using pt_one [p]
theorem len_small {n:Nat} (h:n≤3):n+1≤maxLen∧(n+1) * 16≤140737488355328:=by unfold maxLen;omega
theorem all_one {l:List Pt}:∀ j (hj:j<l.length) (h0:0<l.length),j<1→l[j]=l[0]:=fun j hj h0 h=>by
 have:j=0:=by omega
 subst this;rfl
theorem all_next {l:List Pt} {k:Nat} (h:∀ j (hj:j<l.length) (h0:0<l.length),j<k→l[j]=l[0]) (hk:k<l.length) (h0:0<l.length) (hq:l[k]=l[0]) :
 ∀ j (hj:j<l.length) (h0:0<l.length),j<k+1→l[j]=l[0]:=fun j hj h0 hlt=>by
 rcases Nat.lt_succ_iff_lt_or_eq.1 hlt with h1|rfl
 ·exact h j hj h0 h1
 ·exact hq
theorem many_of {l:List Pt} {k:Nat} (hk:k<l.length) (h0:0<l.length) (hq:¬ l[k]=l[0]):manyV l=true:=
 (many_iff l).2 ⟨l[k],List.getElem_mem hk,l[0],List.getElem_mem h0,hq⟩
theorem not_many {l:List Pt} {n k:Nat} (hn:n=l.length) (hk:n≤k) (h:∀ j (hj:j<l.length) (h0:0<l.length),j<k→l[j]=l[0]):manyV l=false:=by
 rw [Bool.eq_false_iff];intro e;obtain ⟨x,hx,y,hy,hxy⟩:=(many_iff l).1 e;obtain ⟨i,hi,rfl⟩:=List.getElem_of_mem hx;obtain ⟨j,hj,rfl⟩:=List.getElem_of_mem hy;exact hxy ((h i hi (by omega) (by omega)).trans (h j hj (by omega) (by omega)).symm)
theorem pt_ne {a b:Pt} (h:¬ a=b):(a.x == b.x)=false∨((a.x == b.x)=true∧(a.y == b.y)=false):=by
 by_cases hx:a.x=b.x
 ·right;refine ⟨by simpa using hx,?_⟩;rw [beq_eq_false_iff_ne];exact fun hy=>h (Pt.ext_ hx hy)
 ·left;rw [beq_eq_false_iff_ne];exact hx
theorem empty_of {l:List Pt} {n:Nat} (hn:n=l.length) (h:n=0):l.isEmpty=true:=by
 subst h;cases l <;> simp_all
theorem full_of {l:List Pt} {n:Nat} (hn:n=l.length) (h:¬ n=0):l.isEmpty=false:=by
 cases l <;> simp_all
theorem cross_of1 {a b c d:Pt} (h:decide (turnV a b c * turnV a b d<0)=false):crossP a b c d=false:=by unfold crossP;rw [h];rfl
theorem cross_of2 {a b c d:Pt} {x:Bool} (h:decide (turnV a b c * turnV a b d<0)=true) (k:decide (turnV c d a * turnV c d b<0)=x):crossP a b c d=x:=by unfold crossP;rw [h,k];rfl
theorem tprod (a b c d e f:Pt):-9223372036854775808≤turnV a b c * turnV d e f∧turnV a b c * turnV d e f≤9223372036854775807:=by
 have h:∀ a b c:Pt,-1≤turnV a b c∧turnV a b c≤1:=fun a b c=>by unfold turnV cmpOf;repeat' split <;> omega
 have:=mul_le_sq (h a b c).1 (h a b c).2 (h d e f).1 (h d e f).2;omega
def E1 (a b c d:Pt):List Pt:=if ronV c d a then [a] else []
def E2 (a b c d:Pt):List Pt:=E1 a b c d++(if ronV c d b then [b] else [])
def E3 (a b c d:Pt):List Pt:=E2 a b c d++(if ronV a b c then [c] else [])
def E4 (a b c d:Pt):List Pt:=E3 a b c d++(if ronV a b d then [d] else [])
theorem E4_ends (a b c d:Pt):E4 a b c d=endsL a b c d:=by unfold E4 E3 E2 E1 endsL;simp
theorem E_len (a b c d:Pt):(E1 a b c d).length≤1∧(E2 a b c d).length≤2∧(E3 a b c d).length≤3∧(E4 a b c d).length≤4:=by
 have h1:(E1 a b c d).length≤1:=by unfold E1;split <;> simp
 have h2:(E2 a b c d).length≤2:=by unfold E2;rw [List.length_append];split <;> simp <;> omega
 have h3:(E3 a b c d).length≤3:=by unfold E3;rw [List.length_append];split <;> simp <;> omega
 have h4:(E4 a b c d).length≤4:=by unfold E4;rw [List.length_append];split <;> simp <;> omega
 exact ⟨h1,h2,h3,h4⟩
set_option maxRecDepth 100000 in
set_option maxHeartbeats 4000000 in
theorem rmeet_any (a b c d:Pt) (w:World) (ga:a.good) (gb:b.good) (gc:c.good) (gd:d.good) :
 Calls Tryz.prog 38 #[.agg #[.int .i64 a.x,.int .i64 a.y],.agg #[.int .i64 b.x,.int .i64 b.y],.agg #[.int .i64 c.x,.int .i64 c.y],.agg #[.int .i64 d.x,.int .i64 d.y]] w fun e w'=>e=.returned (.int .i64 (rmeetV a b c d))∧Below w.heap.size w w':=by
 obtain ⟨i0,hi0,hz0,hz1,hz2⟩:=info_parts pt_info;have HI:=hide hi0;have HZ0:=hide hz0;have HZ1:=hide hz1;have HZ2:=hide hz2;clear hi0 hz0 hz1 hz2;have HB0:=hide (bel4 w a b c d);have HX0:=hide (Box4.new w a b c d)
 go_enter Tryz.func38,Tryz.ntmps38
 obtain ⟨W0,hW0,HB,HX⟩:∃ W,((((w.alloc (pblk a.x a.y)).alloc (pblk b.x b.y)).alloc (pblk c.x c.y)).alloc (pblk d.x d.y))=W∧Hid (Below w.heap.size w W)∧Hid (Box4 W w.heap.size a b c d):=⟨_,rfl,HB0,HX0⟩;clear HB0 HX0;have HW0:=hide hW0;clear hW0;go_wp2_with fail
 rw [HW0.out];have HS0:Hid (St W0 W0 (.slice none 0 0) []):=hide ⟨Below.refl _ _,World.ownsRow_nil _ _ _ _⟩;refine (ron_any c d a _ gc gd ga).mono ?_;rintro e w1 ⟨rfl,hb1⟩;have HS1:=hide (HS0.out.later hb1);clear hb1 HS0
 go_upto_if 14 with fail
 go_cut [9] from 11 (fun v W=>Hid (St W0 W v (E1 a b c d)))
 case first=>
  cases h1:ronV c d a
  ·go_wp2_with fail
   go_meet
   case rel=>exact hide (by unfold E1;rw [h1];simpa using HS1.out)
  ·have HX1:=hide (HX.out.later HS1.out.1);obtain ⟨⟨k1,k2,k3,k4⟩,q1,q2,q3,q4⟩:=HX1.out.all;clear q1 q2 q3 q4;have HA:=hide (HS1.out.later (PB.newb w1 a));go_wp2_with (at_builtin;refine wpList_append_any _ rfl (.tmp 15) (.tmp 17) _ rfl W0.heap.size 56 i0 _ 2 16 Tryz.underlying22 HI.out HZ0.out HZ1.out HZ2.out rfl (by omega) (.slice none 0 0) ([]:List Pt).length (([]:List Pt).flatMap Pt.enc) rfl HA.out.2 _ (some ⟨w1.heap.size,0,none⟩) 1 1 a.enc rfl (pr1 w1 a).2 (pt_one1 a) (len_small (by have:=E_len a b c d;first|(simp;done)|omega)).1 (len_small (by have:=E_len a b c d;first|(simp;done)|omega)).2 HA.out.1.size ?_;intro v1 x1 hown1 hg1 hat1)
   go_meet
   case rel=>exact hide (HA.out.grown hg1 (by unfold E1;rw [h1];simpa using hown1) (by unfold E1;rw [h1];simp))
 case rest=>
  have HX20:=hide (HX.out.later hcut.out.1);obtain ⟨⟨k1,k2,k3,k4⟩,q1,q2,q3,q4⟩:=HX20.out.all;clear q1 q2 q3 q4;go_wp2_with fail
  refine (ron_any c d b _ gc gd gb).mono ?_;rintro e w2 ⟨rfl,hb2⟩;have HS2:=hide (hcut.out.later hb2);clear hb2 hcut k1 k2 k3 k4 HX20
  go_upto_if 22 with fail
  go_cut [9] from 11 (fun v W=>Hid (St W0 W v (E2 a b c d)))
  case first=>
   cases h1:ronV c d b
   ·go_wp2_with fail
    go_meet
    case rel=>exact hide (by unfold E2;rw [h1];simpa using HS2.out)
   ·have HX2:=hide (HX.out.later HS2.out.1);obtain ⟨⟨k1,k2,k3,k4⟩,q1,q2,q3,q4⟩:=HX2.out.all;clear q1 q2 q3 q4;have HA:=hide (HS2.out.later (PB.newb w2 b));go_wp2_with (at_builtin;refine wpList_append_any _ rfl (.tmp 23) (.tmp 25) _ rfl W0.heap.size 56 i0 _ 2 16 Tryz.underlying22 HI.out HZ0.out HZ1.out HZ2.out rfl (by omega) u9 (E1 a b c d).length ((E1 a b c d).flatMap Pt.enc) rfl HA.out.2 _ (some ⟨w2.heap.size,0,none⟩) 1 1 b.enc rfl (pr1 w2 b).2 (pt_one1 b) (len_small (by have:=E_len a b c d;first|(simp;done)|omega)).1 (len_small (by have:=E_len a b c d;first|(simp;done)|omega)).2 HA.out.1.size ?_;intro v1 x1 hown1 hg1 hat1)
    go_meet
    case rel=>exact hide (HA.out.grown hg1 (by unfold E2;rw [h1];simpa using hown1) (by unfold E2;rw [h1];simp))
  case rest=>
   have HX30:=hide (HX.out.later hcut.out.1);obtain ⟨⟨k1,k2,k3,k4⟩,q1,q2,q3,q4⟩:=HX30.out.all;clear q1 q2 q3 q4;go_wp2_with fail
   refine (ron_any a b c _ ga gb gc).mono ?_;rintro e w3 ⟨rfl,hb3⟩;have HS3:=hide (hcut.out.later hb3);clear hb3 hcut k1 k2 k3 k4 HX30
   go_upto_if 30 with fail
   go_cut [9] from 11 (fun v W=>Hid (St W0 W v (E3 a b c d)))
   case first=>
    cases h1:ronV a b c
    ·go_wp2_with fail
     go_meet
     case rel=>exact hide (by unfold E3;rw [h1];simpa using HS3.out)
    ·have HX3:=hide (HX.out.later HS3.out.1);obtain ⟨⟨k1,k2,k3,k4⟩,q1,q2,q3,q4⟩:=HX3.out.all;clear q1 q2 q3 q4;have HA:=hide (HS3.out.later (PB.newb w3 c));go_wp2_with (at_builtin;refine wpList_append_any _ rfl (.tmp 31) (.tmp 33) _ rfl W0.heap.size 56 i0 _ 2 16 Tryz.underlying22 HI.out HZ0.out HZ1.out HZ2.out rfl (by omega) u9 (E2 a b c d).length ((E2 a b c d).flatMap Pt.enc) rfl HA.out.2 _ (some ⟨w3.heap.size,0,none⟩) 1 1 c.enc rfl (pr1 w3 c).2 (pt_one1 c) (len_small (by have:=E_len a b c d;first|(simp;done)|omega)).1 (len_small (by have:=E_len a b c d;first|(simp;done)|omega)).2 HA.out.1.size ?_;intro v1 x1 hown1 hg1 hat1)
     go_meet
     case rel=>exact hide (HA.out.grown hg1 (by unfold E3;rw [h1];simpa using hown1) (by unfold E3;rw [h1];simp))
   case rest=>
    have HX40:=hide (HX.out.later hcut.out.1);obtain ⟨⟨k1,k2,k3,k4⟩,q1,q2,q3,q4⟩:=HX40.out.all;clear q1 q2 q3 q4;go_wp2_with fail
    refine (ron_any a b d _ ga gb gd).mono ?_;rintro e w4 ⟨rfl,hb4⟩;have HS4:=hide (hcut.out.later hb4);clear hb4 hcut k1 k2 k3 k4 HX40
    go_upto_if 38 with fail
    go_cut [9] from 11 (fun v W=>Hid (St W0 W v (E4 a b c d)))
    case first=>
     cases h1:ronV a b d
     ·go_wp2_with fail
      go_meet
      case rel=>exact hide (by unfold E4;rw [h1];simpa using HS4.out)
     ·have HX4:=hide (HX.out.later HS4.out.1);obtain ⟨⟨k1,k2,k3,k4⟩,q1,q2,q3,q4⟩:=HX4.out.all;clear q1 q2 q3 q4;have HA:=hide (HS4.out.later (PB.newb w4 d));go_wp2_with (at_builtin;refine wpList_append_any _ rfl (.tmp 39) (.tmp 41) _ rfl W0.heap.size 56 i0 _ 2 16 Tryz.underlying22 HI.out HZ0.out HZ1.out HZ2.out rfl (by omega) u9 (E3 a b c d).length ((E3 a b c d).flatMap Pt.enc) rfl HA.out.2 _ (some ⟨w4.heap.size,0,none⟩) 1 1 d.enc rfl (pr1 w4 d).2 (pt_one1 d) (len_small (by have:=E_len a b c d;first|(simp;done)|omega)).1 (len_small (by have:=E_len a b c d;first|(simp;done)|omega)).2 HA.out.1.size ?_;intro v1 x1 hown1 hg1 hat1)
      go_meet
      case rel=>exact hide (HA.out.grown hg1 (by unfold E4;rw [h1];simpa using hown1) (by unfold E4;rw [h1];simp))
    case rest=>
     obtain ⟨A,c',rfl,hnc,hcm,hr⟩:=Sl.of_owns (n:=(E4 a b c d).length) (l:=E4 a b c d) (enc:=Pt.enc) hcut.out.2 rfl rfl rfl;have HS4:=hide hcut.out.1;have HE:Hid (rmeetV a b c d=if manyV (E4 a b c d) then 3 else if (E4 a b c d).isEmpty=false then 1 else if crossP a b c d then 2 else 0):=hide (by rw [E4_ends];rfl);have hl4:=(E_len a b c d).2.2.2;have HBw:=hide (btr HB.out HS4.out);clear hcut;clear hcm;generalize E4 a b c d=l at *;obtain ⟨n,hn⟩:∃ n,n=l.length:=⟨_,rfl⟩;rw [← hn] at hl4 hr hnc ⊢;have HN:=hide hn;clear hn;have hn4:n≤4:=hl4;clear hl4
     go_wp2
     go_loopw [10] (fun i wr=>∃ k:Nat,1≤k∧(k≤n∨k=1)∧i=.int .i64 k∧Hid (∀ j (hj:j<l.length) (h0:0<l.length),j<k→l[j]=l[0])∧Below wc.heap.size wc wr) (fun i _=>n - (intOf i).toNat)
     case atStart=>exact ⟨1,by omega,.inr rfl,rfl,hide all_one,Below.refl _ _⟩
     case round=>
      obtain ⟨k,hk1,hk,rfl,HBK0,hb⟩:=hrel;have HBK:=hide hb;by_cases hlt:k<n
      ·obtain ⟨bb,o,rfl,hbl,hc⟩:=PR.at (hr.below hb) (by omega);have hkl:k<l.length:=by have:=HN.out;omega
       have h0l:0<l.length:=by omega
       obtain ⟨c0,c1⟩:=hc k hkl;obtain ⟨d0,d1⟩:=hc 0 h0l;rw [Nat.zero_mul,Nat.add_zero] at d0 d1;have hbl2:bb<wr.heap.size:=by have:=hb.size;omega
       clear hc hb;by_cases hq:l[k]=l[0]
       ·rw [hq] at c0 c1;have HOK:=hide (all_next HBK0.out hkl h0l hq)
        go_wp2
        refine wp_region_later (by kernel_rfl) (by kernel_rfl) ?_
        repeat (first|go_big_quiet_step (fail)|quiet_step (fail))
        refine wpQuiet_nil ?_;intro _ hw';obtain ⟨L,hL⟩:=hw';subst hL
        go_wp2
        go_roundw
        case rel=>exact ⟨k+1,by omega,.inl (by omega),by go_num,HOK.out,HBK.out.trans (L.h.mono HBK.out.size)⟩
        case measure=>simp [intOf];omega
       ·have HQ:=hide (many_of hkl h0l hq);have HNE:=hide (pt_ne hq);clear hq;rcases HNE.out with hx|⟨hx,hy⟩
        all_goals
         go_wp2
         refine wp_region_later (by kernel_rfl) (by kernel_rfl) ?_
         repeat (first|go_big_quiet_step (fail)|quiet_step (fail))
         refine wpQuiet_nil ?_;intro _ hw';obtain ⟨L,hL⟩:=hw';subst hL
         go_wp2
         go_ret;exact ⟨ret_int (by rw [HE.out,HQ.out];rfl),btr HBw.out (HBK.out.trans (L.h.mono HBK.out.size))⟩
      ·clear hb;have HA:=hide (not_many HN.out (by omega) HBK0.out);by_cases hn0:n=0
       ·have HZ:=hide (empty_of HN.out hn0);have HXw:=hide (HX.out.later (btr HS4.out HBK.out));obtain ⟨⟨k1,k2,k3,k4⟩,q1,q2,q3,q4⟩:=HXw.out.all;clear q1 q2 q3 q4;obtain ⟨⟨z1,z2,z3,z4⟩,z5,z6,z7,z8⟩:=HXw.out.lts;clear z5 z6 z7 z8;obtain ⟨m1,m2⟩:=tprod a b c a b d;obtain ⟨m3,m4⟩:=tprod c d a c d b;have hk1':k=1:=by omega
        subst hn0;cases d1:decide (turnV a b c * turnV a b d<0)
        ·have HF:=hide (cross_of1 d1)
         go_wp2
         refine wp_region_later (by kernel_rfl) (by kernel_rfl) ?_
         repeat (first|go_big_quiet_step ((go_at_call 84;exact Calls.later (rturn_any _ _ _ _ (by assumption) (by assumption) (by assumption))))|quiet_step ((go_at_call 84;exact Calls.later (rturn_any _ _ _ _ (by assumption) (by assumption) (by assumption)))))
         refine wpQuiet_nil ?_;intro _ hw';obtain ⟨L,hL⟩:=hw';subst hL
         go_wp2
         go_ret;exact ⟨ret_int (by rw [HE.out,HA.out,HZ.out,HF.out];rfl),btr HBw.out (HBK.out.trans (L.h.mono HBK.out.size))⟩
        ·cases d2:decide (turnV c d a * turnV c d b<0)
         all_goals
          have HF:=hide (cross_of2 d1 d2)
          go_wp2
          refine wp_region_later (by kernel_rfl) (by kernel_rfl) ?_
          repeat (first|go_big_quiet_step ((go_at_call 84;exact Calls.later (rturn_any _ _ _ _ (by assumption) (by assumption) (by assumption))))|quiet_step ((go_at_call 84;exact Calls.later (rturn_any _ _ _ _ (by assumption) (by assumption) (by assumption)))))
          refine wpQuiet_nil ?_;intro _ hw';obtain ⟨L,hL⟩:=hw';subst hL
          go_wp2
          go_ret;exact ⟨ret_int (by rw [HE.out,HA.out,HZ.out,HF.out];rfl),btr HBw.out (HBK.out.trans (L.h.mono HBK.out.size))⟩
       ·have HZ:=hide (full_of HN.out hn0);have hpos:0<n:=by omega
        go_wp2
        go_ret;exact ⟨ret_int (by rw [HE.out,HA.out,HZ.out];rfl),btr HBw.out HBK.out⟩
def errA (l:List Pt):Int:=if goodAll l then 0 else 3
def meetA (a b c d:Pt):Int:=if goodAll [a,b,c,d] then meetV a b c d else 0
def turnA (a b c:Pt):Int:=if goodAll [a,b,c] then turnV a b c else 0
theorem good4_iff {a b c d:Pt}:goodAll [a,b,c,d]=true ↔ a.good∧b.good∧c.good∧d.good:=by unfold goodAll;simp
theorem good3_iff {a b c:Pt}:goodAll [a,b,c]=true ↔ a.good∧b.good∧c.good:=by unfold goodAll;simp
set_option maxRecDepth 100000 in
set_option maxHeartbeats 1000000 in
theorem meet_bad (a b c d:Pt) (w:World) (hg:goodAll [a,b,c,d]=false) :
 Calls Tryz.prog 143 #[.agg #[.int .i64 a.x,.int .i64 a.y],.agg #[.int .i64 b.x,.int .i64 b.y],.agg #[.int .i64 c.x,.int .i64 c.y],.agg #[.int .i64 d.x,.int .i64 d.y]] w fun e w'=>e=.returned (.tuple #[.int .i64 0,.int .i64 3])∧Below w.heap.size w w':=by
 have HB0:=hide (bel4 w a b c d);have HG:=hide hg;clear hg
 go_enter Tryz.func143,Tryz.ntmps143
 go_wp2_with fail
 refine (good_any [a,b,c,d] _ 4 4 _ (pr4 (new5 w a b c d (pq8 a b c d) _)) (by omega)).mono ?_;rintro e w1 ⟨rfl,hb1⟩;rw [HG.out];have HB1:=hide (btr (bal HB0.out _) hb1);clear hb1 HB0;go_wp2_with fail
 exact bodyPost_ret (v:=.tuple #[.int .i64 0,.int .i64 3]) (by simp [results,Tryz.results143,go_sem]) rfl ⟨rfl,HB1.out⟩
theorem meet_any (a b c d:Pt) (w:World) :
 Calls Tryz.prog 143 #[.agg #[.int .i64 a.x,.int .i64 a.y],.agg #[.int .i64 b.x,.int .i64 b.y],.agg #[.int .i64 c.x,.int .i64 c.y],.agg #[.int .i64 d.x,.int .i64 d.y]] w fun e w'=>e=.returned (.tuple #[.int .i64 (meetA a b c d),.int .i64 (errA [a,b,c,d])])∧Below w.heap.size w w':=by
 unfold meetA errA;cases h:goodAll [a,b,c,d]
 ·exact meet_bad a b c d w h
 ·exact meet_good a b c d w (good4_iff.1 h)
def cs6 (a b c:Pt):Array Value:=#[Value.int IntKind.i64 a.x,Value.int IntKind.i64 a.y,Value.int IntKind.i64 b.x,Value.int IntKind.i64 b.y,Value.int IntKind.i64 c.x,Value.int IntKind.i64 c.y]
theorem pr3 {W:World} {g:Nat} {t:TypeId} {a b c:Pt} (h:Blk W g t (cs6 a b c)):PR W W.heap.size (some ⟨g,0,none⟩) 3 [a,b,c]:=
 Sl.of_blk h rfl rfl rfl
theorem Box3.al {W:World} {g:Nat} {a b c:Pt} (h:Box3 W g a b c) (o:Obj):Box3 (W.alloc o) g a b c:=⟨h.1.al o,h.2.1.al o,h.2.2.al o⟩
theorem ron_swap (a b p:Pt):ronV b a p=ronV a b p:=by
 rw [Bool.eq_iff_iff,ron_iff,ron_iff,cross_swap];unfold box;constructor <;> rintro ⟨h1,h2,h3⟩ <;> exact ⟨by omega,by omega,by omega⟩
theorem rmeet_of {a b c d a' b' c' d':Pt} (h:∀ x,x∈endsL a b c d ↔ x∈endsL a' b' c' d') (hc:crossP a b c d=crossP a' b' c' d'):rmeetV a b c d=rmeetV a' b' c' d':=by
 have hm:manyV (endsL a b c d)=manyV (endsL a' b' c' d'):=by rw [Bool.eq_iff_iff,many_iff,many_iff];simp only [h]
 have he:((endsL a b c d).isEmpty=false) ↔ (endsL a' b' c' d').isEmpty=false:=by rw [empty_iff,empty_iff];simp only [h]
 unfold rmeetV;rw [hm,hc];by_cases k:(endsL a b c d).isEmpty=false
 ·rw [if_pos k,if_pos (he.1 k)]
 ·rw [if_neg k,if_neg (fun e=>k (he.2 e))]
theorem rmeet_turn (a b c d:Pt):rmeetV d c a b=rmeetV a b c d:=by
 refine rmeet_of (fun x=>?_) ?_
 ·rw [mem_ends,mem_ends,ron_swap c d,ron_swap c d];constructor <;> (intro h;rcases h with h|h|h|h <;> simp [h])
 ·rw [Bool.eq_iff_iff,cross_iff,cross_iff,cross_swap c d,cross_swap c d];omega
theorem rmeet_flip (a b c d:Pt):rmeetV b a c d=rmeetV a b c d:=by
 refine rmeet_of (fun x=>?_) ?_
 ·rw [mem_ends,mem_ends,ron_swap a b,ron_swap a b];constructor <;> (intro h;rcases h with h|h|h|h <;> simp [h])
 ·rw [Bool.eq_iff_iff,cross_iff,cross_iff,cross_swap a b,cross_swap a b];omega
end Go.Proofs.YtacinobmcgcccaaGreatDoor
/- Points: a point of a stretch cuts it into two: plain geometry. -/
namespace Go.Proofs.YtacinobmcgcccaaGreatDoor
def Par (a b p:Pt) (L t:Int):Prop:=0<L∧0≤t∧t≤L∧L * (p.x - a.x)=t * (b.x - a.x)∧L * (p.y - a.y)=t * (b.y - a.y)
theorem par_on {a b p:Pt} {L t:Int} (h:Par a b p L t):ronV a b p=true:=by
 obtain ⟨h1,h2,h3,h4,h5⟩:=h;rw [ron_iff];refine ⟨?_,?_⟩
 ·refine mul_zero_of (L:=L) ?_ (by omega);unfold crossV;grind
 ·have b1:=box_mid_one (L:=L) (D:=b.x - a.x) (t:=t) (u:=p.x - a.x) (by rw [h4,Int.mul_comm]) h1 h2 h3;have b2:=box_mid_one (L:=L) (D:=b.y - a.y) (t:=t) (u:=p.y - a.y) (by rw [h5,Int.mul_comm]) h1 h2 h3;unfold box;omega
theorem ron_left (a b:Pt):ronV a b a=true:=par_on (L:=1) (t:=0) ⟨by omega,by omega,by omega,by omega,by omega⟩
theorem ron_right (a b:Pt):ronV a b b=true:=par_on (L:=1) (t:=1) ⟨by omega,by omega,by omega,by omega,by omega⟩
/-! What the document's Meet says, as facts of points -/
def Ends (a b c d:Pt):Prop:=ronV c d a=true∨ronV c d b=true∨ronV a b c=true∨ronV a b d=true
theorem rmeet_range (a b c d:Pt):0≤rmeetV a b c d∧rmeetV a b c d≤3:=by
 unfold rmeetV;repeat' split
 all_goals omega
instance:DecidableEq Pt:=fun a b=>if h:a.x=b.x∧a.y=b.y then isTrue (Pt.ext_ h.1 h.2) else isFalse (fun e=>h (by rw [e];exact ⟨rfl,rfl⟩))
instance:Inhabited Pt:=⟨⟨0,0⟩⟩
structure Eg where
 a:Pt
 b:Pt
deriving DecidableEq
def Eg.back (e:Eg):Eg:=⟨e.b,e.a⟩
theorem Eg.back_back (e:Eg):e.back.back=e:=rfl
theorem Eg.back_inj {e f:Eg} (h:e.back=f.back):e=f:=by rw [← e.back_back,h,f.back_back]
def Eg.good (e:Eg):Prop:=e.a.good∧e.b.good
def edgeAt (r:List Pt) (i:Nat):Eg:=⟨r.getD i default,r.getD ((i+1) % r.length) default⟩
def edgesL (r:List Pt):List Eg:=(List.range r.length).map (edgeAt r)
theorem edges_len (r:List Pt):(edgesL r).length=r.length:=by simp [edgesL]
theorem edges_at {r:List Pt} {i:Nat} (h:i<(edgesL r).length):(edgesL r)[i]=edgeAt r i:=by simp [edgesL]
theorem mem_edges {r:List Pt} {e:Eg}:e∈edgesL r ↔ ∃ i,i<r.length∧e=edgeAt r i:=by
 simp only [edgesL,List.mem_map,List.mem_range];exact ⟨fun ⟨i,h,e⟩=>⟨i,h,e.symm⟩,fun ⟨i,h,e⟩=>⟨i,h,e.symm⟩⟩
def meetE (e f:Eg):Int:=rmeetV e.a e.b f.a f.b
theorem rmeet_swap (a b c d:Pt):rmeetV c d a b=rmeetV a b c d:=by
 have h:=rmeet_turn a b d c;have h2:=rmeet_turn a b c d;rw [rmeet_flip] at h2;exact h2
theorem rmeet_flip2 (a b c d:Pt):rmeetV a b d c=rmeetV a b c d:=by rw [← rmeet_swap a b d c,rmeet_flip,rmeet_swap]
theorem meetE_swap (e f:Eg):meetE f e=meetE e f:=rmeet_swap _ _ _ _
theorem meetE_back (e f:Eg):meetE e.back f=meetE e f:=rmeet_flip _ _ _ _
theorem meetE_back2 (e f:Eg):meetE e f.back=meetE e f:=rmeet_flip2 _ _ _ _
def endsE (e f:Eg):Prop:=e.a=f.a∨e.a=f.b∨e.b=f.a∨e.b=f.b
instance (e f:Eg):Decidable (endsE e f):=inferInstanceAs (Decidable (_∨_))
theorem endsE_swap {e f:Eg}:endsE f e ↔ endsE e f:=by
 unfold endsE;constructor <;> (intro h;rcases h with h|h|h|h <;> simp [h])
theorem endsE_back {e f:Eg}:endsE e.back f ↔ endsE e f:=
 ⟨fun h=>h.elim (fun h=>.inr (.inr (.inl h))) fun h=>h.elim (fun h=>.inr (.inr (.inr h))) fun h=>h.elim .inl fun h=>.inr (.inl h),fun h=>h.elim (fun h=>.inr (.inr (.inl h))) fun h=>h.elim (fun h=>.inr (.inr (.inr h))) fun h=>h.elim .inl fun h=>.inr (.inl h)⟩
theorem endsE_back2 {e f:Eg}:endsE e f.back ↔ endsE e f:=by rw [← endsE_swap,endsE_back,endsE_swap]
def okE (e f:Eg):Prop:=meetE e f=0∨(meetE e f=1∧endsE e f)∨(meetE e f=3∧e=f.back)
theorem okE_swap {e f:Eg}:okE f e ↔ okE e f:=by
 unfold okE;rw [meetE_swap,endsE_swap];have:f=e.back ↔ e=f.back:=⟨fun h=>by rw [h];rfl,fun h=>by rw [h];rfl⟩;rw [this]
theorem meetE_self {e:Eg} (h:e.a≠e.b):meetE e e.back=3:=
 rmeet_3 ⟨e.a,mem_ends.2 (.inl ⟨rfl,ron_right _ _⟩),e.b,mem_ends.2 (.inr (.inl ⟨rfl,ron_left _ _⟩)),h⟩
theorem meetE_range (e f:Eg):0≤meetE e f∧meetE e f≤3:=rmeet_range _ _ _ _
def normE (e:Eg):Eg:=if 0<orderV e.a e.b then e.back else e
theorem normE_cases (e:Eg):normE e=e∨normE e=e.back:=by unfold normE;split <;> simp
theorem normE_key {e:Eg} (h:e.good):key (normE e).a≤key (normE e).b:=by
 unfold normE;split
 ·rename_i h1
  have:=(order_pos h.1 h.2).1 h1;show key e.b≤key e.a;omega
 ·rename_i h1
  have:=mt (order_pos h.1 h.2).2 h1;omega
theorem normE_good {e:Eg} (h:e.good):(normE e).good:=by
 rcases normE_cases e with q|q <;> rw [q]
 ·exact h
 ·exact ⟨h.2,h.1⟩
theorem normE_ne {e:Eg} (h:e.a≠e.b):(normE e).a≠(normE e).b:=by
 rcases normE_cases e with q|q <;> rw [q]
 ·exact h
 ·exact fun x=>h x.symm
theorem normE_eq {e f:Eg} (h:normE e=normE f):e=f∨e=f.back:=by
 rcases normE_cases e with q|q <;> rcases normE_cases f with p|p <;> rw [q,p] at h
 ·exact .inl h
 ·exact .inr h
 ·exact .inr (by rw [← h];rfl)
 ·exact .inl (Eg.back_inj h)
theorem meet_norm (e f:Eg):meetE (normE e) (normE f)=meetE e f:=by
 rcases normE_cases e with q|q <;> rcases normE_cases f with p|p <;> rw [q,p] <;> simp [meetE_back,meetE_back2]
theorem ends_norm (e f:Eg):endsE (normE e) (normE f) ↔ endsE e f:=by
 rcases normE_cases e with q|q <;> rcases normE_cases f with p|p <;> rw [q,p] <;> simp [endsE_back,endsE_back2]
def apE (e f:Eg):Bool:=decide (meetE e f=0)||(decide (meetE e f=1)&&decide (endsE e f))||(decide (meetE e f=3)&&(decide (e=f)||decide (e=f.back)))
theorem key_x {p q:Pt} (hp:p.good) (hq:q.good) (h:key p≤key q):p.x≤q.x:=by
 obtain ⟨⟨_,_⟩,_,_⟩:=hp;obtain ⟨⟨_,_⟩,_,_⟩:=hq;unfold key at h;omega
theorem apart_x {e f:Eg} (he:e.good) (hf:f.good) (h1:key e.a≤key e.b) (h2:key f.a≤key f.b) (h:e.b.x<f.a.x):meetE e f=0:=by
 refine meet_apart ((apart_iff _ _ _ _).2 (.inl ?_));have:=key_x he.1 he.2 h1;have:=key_x hf.1 hf.2 h2;unfold hi lo;split <;> split <;> omega
def sweepOk (l:List Eg):Prop:=∀ i j (hi:i<l.length) (hj:j<l.length),i<j→(∀ k (hk:k<l.length),i<k→k≤j→¬ l[i].b.x<l[k].a.x)→apE l[i] l[j]=true
theorem sweep_iff {l m:List Eg} (hg:∀ e∈l,e.good∧e.a≠e.b) (hm:∀ x,x∈m ↔ ∃ e∈l,normE e=x) (hs:∀ i j (hi:i<m.length) (hj:j<m.length),i<j→key m[i].a≤key m[j].a∧m[i]≠m[j]) :
 sweepOk m ↔ ∀ e∈l,∀ f∈l,e≠f→okE e f:=by
 have hM:∀ x∈m,x.good∧x.a≠x.b∧key x.a≤key x.b:=fun x hx=>by
  obtain ⟨e,he,rfl⟩:=(hm x).1 hx;exact ⟨normE_good (hg e he).1,normE_ne (hg e he).2,normE_key (hg e he).1⟩
 constructor
 ·intro h e he f hf hne;by_cases hn:normE e=normE f
  ·rcases normE_eq hn with q|q
   ·exact absurd q hne
   ·refine .inr (.inr ⟨?_,q⟩);have:=meetE_self (hg f hf).2;rw [q,meetE_swap];exact this
  ·have key2:∀ (e f:Eg),e∈l→f∈l→normE e≠normE f → ∀ (i j:Nat) (hi:i<m.length) (hj:j<m.length),i<j→m[i]=normE e→m[j]=normE f→okE e f:=fun e f he hf hn i j hi hj hij ei ej=>by
    have hmi:=hM _ (List.getElem_mem hi);have hmj:=hM _ (List.getElem_mem hj);by_cases hk:∃ k,∃ hk:k<m.length,i<k∧k≤j∧m[i].b.x<m[k].a.x
    ·obtain ⟨k,hk,h1,h2,h3⟩:=hk;have h4:m[k].a.x≤m[j].a.x:=by
      rcases Nat.lt_or_ge k j with q|q
      ·exact key_x (hM _ (List.getElem_mem hk)).1.1 hmj.1.1 (hs k j hk hj q).1
      ·obtain rfl:k=j:=by omega
       exact Int.le_refl _
     have:=apart_x hmi.1 hmj.1 hmi.2.2 hmj.2.2 (by omega);rw [ei,ej,meet_norm] at this;exact .inl this
    ·have h5:=h i j hi hj hij (fun k hk1 h1 h2 h3=>hk ⟨k,hk1,h1,h2,h3⟩);unfold apE at h5;rw [ei,ej,meet_norm] at h5;simp only [Bool.or_eq_true,Bool.and_eq_true,decide_eq_true_eq] at h5;rcases h5 with (h5|⟨h5,h6⟩)|⟨h5,h6|h6⟩
     ·exact .inl h5
     ·exact .inr (.inl ⟨h5,(ends_norm e f).1 h6⟩)
     ·exact absurd h6 hn
     ·exfalso;have h7:=hM (normE e) (ei ▸ List.getElem_mem hi);have h8:=hM (normE f) (ej ▸ List.getElem_mem hj);have h9:=h7.2.2;rw [h6] at h9;have h10:key (normE f).b≤key (normE f).a:=h9;exact h8.2.1 (key_inj h8.1.1 h8.1.2 (by omega))
   obtain ⟨i,hi,ei⟩:=List.getElem_of_mem ((hm _).2 ⟨e,he,rfl⟩);obtain ⟨j,hj,ej⟩:=List.getElem_of_mem ((hm _).2 ⟨f,hf,rfl⟩);rcases Nat.lt_trichotomy i j with q|q|q
   ·exact key2 e f he hf hn i j hi hj q ei ej
   ·subst q;exact absurd (ei.symm.trans ej) hn
   ·exact okE_swap.1 (key2 f e hf he (fun x=>hn x.symm) j i hj hi q ej ei)
 ·intro h i j hi hj hij _;obtain ⟨e,he,ei⟩:=(hm _).1 (List.getElem_mem hi);obtain ⟨f,hf,ej⟩:=(hm _).1 (List.getElem_mem hj);have hne:e≠f:=fun q=>(hs i j hi hj hij).2 (by rw [← ei,← ej,q])
  have hok:=h e he f hf hne;rw [← ei,← ej];unfold apE;rw [meet_norm];simp only [Bool.or_eq_true,Bool.and_eq_true,decide_eq_true_eq];rcases hok with q|⟨q,r⟩|⟨q,r⟩
  ·exact .inl (.inl q)
  ·exact .inl (.inr ⟨q,(ends_norm e f).2 r⟩)
  ·exfalso;have:normE e=normE f:=by
    have hge:=hg e he;have hgf:=hg f hf;have h1:=normE_key hge.1;have h2:=normE_key hgf.1;rcases normE_cases e with p|p <;> rcases normE_cases f with s|s <;> rw [p] at h1 ⊢ <;> rw [s] at h2 ⊢ <;> rw [r] at h1 ⊢
    ·exfalso;have h3:key f.b≤key f.a:=h1;exact hgf.2 (key_inj hgf.1.1 hgf.1.2 (by omega))
    ·rfl
    ·exfalso;have h3:key f.b≤key f.a:=h2;have h4:key f.a≤key f.b:=h1;exact hgf.2 (key_inj hgf.1.1 hgf.1.2 (by omega))
   exact (hs i j hi hj hij).2 (by rw [← ei,← ej,this])
end Go.Proofs.YtacinobmcgcccaaGreatDoor
