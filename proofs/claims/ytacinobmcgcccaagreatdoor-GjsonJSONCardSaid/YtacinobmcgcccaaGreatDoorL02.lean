/- Points: plain geometry. What the program's Meet and the document's are: the same. -/
import Derived.Test.YtacinobmcgcccaaGreatDoorL01
set_option linter.unusedSimpArgs false
set_option linter.unusedVariables false
namespace Go.Proofs.YtacinobmcgcccaaGreatDoor
instance:DecidableEq Pt:=fun a b=>by
 rcases a with ⟨x,y⟩;rcases b with ⟨u,v⟩;exact if h:x=u∧y=v then isTrue (by rw [h.1,h.2]) else isFalse (fun e=>h (by cases e;exact ⟨rfl,rfl⟩))
theorem Pt.ext_ {a b:Pt} (h1:a.x=b.x) (h2:a.y=b.y):a=b:=by cases a;cases b;simp at h1 h2;rw [h1,h2]
def key (p:Pt):Int:=p.x * 4294967296+p.y
theorem key_inj {a b:Pt} (ha:a.good) (hb:b.good) (h:key a=key b):a=b:=by
 obtain ⟨⟨a1,a2⟩,a3,a4⟩:=ha;obtain ⟨⟨b1,b2⟩,b3,b4⟩:=hb;unfold key at h;exact Pt.ext_ (by omega) (by omega)
theorem order_key {a b:Pt} (ha:a.good) (hb:b.good):orderV a b=cmpOf (key a) (key b):=by
 obtain ⟨⟨a1,a2⟩,a3,a4⟩:=ha;obtain ⟨⟨b1,b2⟩,b3,b4⟩:=hb;unfold orderV orOf cmpOf key
 repeat' split
 all_goals omega
theorem order_pos {a b:Pt} (ha:a.good) (hb:b.good):0<orderV a b ↔ key b<key a:=by
 rw [order_key ha hb];unfold cmpOf;repeat' split
 all_goals omega
theorem order_le {a b:Pt} (ha:a.good) (hb:b.good):orderV a b≤0 ↔ key a≤key b:=by
 rw [order_key ha hb];unfold cmpOf;repeat' split
 all_goals omega
theorem order_neg {a b:Pt} (ha:a.good) (hb:b.good):orderV a b<0 ↔ key a<key b:=by
 rw [order_key ha hb];unfold cmpOf;repeat' split
 all_goals omega
theorem order_zero {a b:Pt} (ha:a.good) (hb:b.good):orderV a b=0 ↔ key a=key b:=by
 rw [order_key ha hb];unfold cmpOf;repeat' split
 all_goals omega
theorem turn_zero (a b c:Pt):turnV a b c=0 ↔ crossV a b c=0:=by unfold turnV cmpOf;repeat' split <;> omega
theorem turn_cases (a b c:Pt):(turnV a b c = -1∧crossV a b c<0)∨(turnV a b c=0∧crossV a b c=0)∨(turnV a b c=1∧0<crossV a b c):=by
 unfold turnV cmpOf;repeat' split <;> omega
def mid (a b p:Pt):Prop:=(key a≤key p∧key p≤key b)∨(key b≤key p∧key p≤key a)
theorem ends_good {a b:Pt} (ha:a.good) (hb:b.good):(endsV a b).1.good∧(endsV a b).2.good:=by unfold endsV;split <;> exact ⟨by assumption,by assumption⟩
theorem ends_key {a b:Pt} (ha:a.good) (hb:b.good):(key (endsV a b).1=key a∧key (endsV a b).2=key b∧key a≤key b)∨(key (endsV a b).1=key b∧key (endsV a b).2=key a∧key b<key a):=by
 unfold endsV;split
 ·rename_i h;rw [order_pos ha hb] at h;exact .inr ⟨rfl,rfl,h⟩
 ·rename_i h;rw [order_pos ha hb] at h;exact .inl ⟨rfl,rfl,by omega⟩
theorem on_iff {a b p:Pt} (ha:a.good) (hb:b.good) (hp:p.good):onV a b p=true ↔ crossV a b p=0∧mid a b p:=by
 unfold onV mid;rw [Bool.and_eq_true,Bool.and_eq_true,beq_iff_eq,turn_zero,decide_eq_true_iff,decide_eq_true_iff,order_le (ends_good ha hb).1 hp,order_le hp (ends_good ha hb).2];rcases ends_key ha hb with ⟨h1,h2,h3⟩|⟨h1,h2,h3⟩ <;> rw [h1,h2] <;> constructor <;> rintro ⟨h4,h5⟩ <;> exact ⟨h4,by omega⟩
def box (a b p:Pt):Prop:=((a.x≤p.x∧p.x≤b.x)∨(b.x≤p.x∧p.x≤a.x))∧((a.y≤p.y∧p.y≤b.y)∨(b.y≤p.y∧p.y≤a.y))
theorem ron_iff (a b p:Pt):ronV a b p=true ↔ crossV a b p=0∧box a b p:=by
 unfold ronV box betweenV;simp [turn_zero]
theorem box_mid_one {L D t u:Int} (h:L * u=D * t) (hL:0<L) (h0:0≤t) (h1:t≤L):(0≤u∧u≤D)∨(D≤u∧u≤0):=by
 rcases Int.le_total 0 D with hD|hD
 ·left;have a1:0≤D * t:=Int.mul_nonneg hD h0;have a2:D * t≤D * L:=Int.mul_le_mul_of_nonneg_left h1 hD;constructor
  ·rcases Int.lt_or_le u 0 with hu|hu
   ·have:=Int.mul_neg_of_pos_of_neg hL hu;omega
   ·exact hu
  ·rcases Int.lt_or_le D u with hu|hu
   ·have:=Int.mul_lt_mul_of_pos_left hu hL;have e:L * D=D * L:=Int.mul_comm _ _;omega
   ·exact hu
 ·right;have a1:0≤(-D) * t:=Int.mul_nonneg (by omega) h0;have a2:(-D) * t≤(-D) * L:=Int.mul_le_mul_of_nonneg_left h1 (by omega);rw [Int.neg_mul] at a1 a2;rw [Int.neg_mul] at a2;constructor
  ·rcases Int.lt_or_le u D with hu|hu
   ·have:=Int.mul_lt_mul_of_pos_left hu hL;have e:L * D=D * L:=Int.mul_comm _ _;omega
   ·exact hu
  ·rcases Int.lt_or_le 0 u with hu|hu
   ·have:=Int.mul_pos hL hu;omega
   ·exact hu
theorem mul_zero_of {L u:Int} (h:L * u=0) (hL:L≠0):u=0:=by
 rcases Int.mul_eq_zero.1 h with h|h
 ·exact absurd h hL
 ·exact h
theorem mid_box {a b p:Pt} (ha:a.good) (hb:b.good) (hp:p.good) (hc:crossV a b p=0):mid a b p ↔ box a b p:=by
 obtain ⟨⟨a1,a2⟩,a3,a4⟩:=ha;obtain ⟨⟨b1,b2⟩,b3,b4⟩:=hb;obtain ⟨⟨p1,p2⟩,p3,p4⟩:=hp;unfold crossV at hc;unfold mid box key;constructor
 ·intro h;rcases Int.lt_trichotomy a.x b.x with hx|hx|hx
  ·have hb1:=box_mid_one (L:=b.x - a.x) (D:=b.y - a.y) (t:=p.x - a.x) (u:=p.y - a.y) (by omega) (by omega) (by omega) (by omega);omega
  ·have e:(b.y - a.y) * (p.x - a.x)=0:=by rw [hx] at hc ⊢;rw [show b.x - b.x=0 by omega,Int.zero_mul] at hc;omega
   rcases Int.mul_eq_zero.1 e with e|e <;> omega
  ·have e1:(a.x - b.x) * (p.y - b.y)=(a.y - b.y) * (p.x - b.x):=by grind
   have hb1:=box_mid_one (L:=a.x - b.x) (D:=a.y - b.y) (t:=p.x - b.x) (u:=p.y - b.y) e1 (by omega) (by omega) (by omega);omega
 ·intro h;rcases Int.lt_trichotomy a.x b.x with hx|hx|hx
  ·by_cases e1:p.x=a.x
   ·have e:(b.x - a.x) * (p.y - a.y)=0:=by rw [e1,show a.x - a.x=0 by omega,Int.mul_zero] at hc;omega
    have:=mul_zero_of e (by omega);omega
   ·by_cases e2:p.x=b.x
    ·have e:(b.x - a.x) * (p.y - b.y)=0:=by rw [e2] at hc;grind
     have:=mul_zero_of e (by omega);omega
    ·omega
  ·omega
  ·by_cases e1:p.x=a.x
   ·have e:(b.x - a.x) * (p.y - a.y)=0:=by rw [e1,show a.x - a.x=0 by omega,Int.mul_zero] at hc;omega
    have:=mul_zero_of e (by omega);omega
   ·by_cases e2:p.x=b.x
    ·have e:(b.x - a.x) * (p.y - b.y)=0:=by rw [e2] at hc;grind
     have:=mul_zero_of e (by omega);omega
    ·omega
theorem on_eq {a b p:Pt} (ha:a.good) (hb:b.good) (hp:p.good):onV a b p=ronV a b p:=by
 rw [Bool.eq_iff_iff,on_iff ha hb hp,ron_iff];exact ⟨fun ⟨h,k⟩=>⟨h,(mid_box ha hb hp h).1 k⟩,fun ⟨h,k⟩=>⟨h,(mid_box ha hb hp h).2 k⟩⟩
/-! Points of one line -/
theorem coll {p q r s:Pt} (hpq:p≠q) (h1:crossV p q r=0) (h2:crossV p q s=0):crossV p r s=0:=by
 unfold crossV at *;have e1:(q.x - p.x) * ((r.x - p.x) * (s.y - p.y) - (r.y - p.y) * (s.x - p.x))=0:=by grind
 have e2:(q.y - p.y) * ((r.x - p.x) * (s.y - p.y) - (r.y - p.y) * (s.x - p.x))=0:=by grind
 by_cases hx:q.x - p.x=0
 ·by_cases hy:q.y - p.y=0
  ·exact absurd (Pt.ext_ (by omega) (by omega)) hpq
  ·exact mul_zero_of e2 hy
 ·exact mul_zero_of e1 hx
theorem cross_rot (a b c:Pt):crossV b c a=crossV a b c:=by unfold crossV;grind
theorem cross_swap (a b c:Pt):crossV b a c = - crossV a b c:=by unfold crossV;grind
def endsL (a b c d:Pt):List Pt:=(if ronV c d a then [a] else [])++((if ronV c d b then [b] else [])++((if ronV a b c then [c] else [])++(if ronV a b d then [d] else [])))
def manyV (l:List Pt):Bool:=l.any fun x=>l.any fun y=>decide (x≠y)
def crossP (a b c d:Pt):Bool:=decide (turnV a b c * turnV a b d<0)&&decide (turnV c d a * turnV c d b<0)
def rmeetV (a b c d:Pt):Int:=if manyV (endsL a b c d) then 3 else if (endsL a b c d).isEmpty=false then 1 else if crossP a b c d then 2 else 0
theorem mem_ends {a b c d x:Pt}:x∈endsL a b c d ↔ (x=a∧ronV c d a=true)∨(x=b∧ronV c d b=true)∨(x=c∧ronV a b c=true)∨(x=d∧ronV a b d=true):=by
 unfold endsL;cases ronV c d a <;> cases ronV c d b <;> cases ronV a b c <;> cases ronV a b d <;> simp
theorem many_iff (l:List Pt):manyV l=true ↔ ∃ x∈l,∃ y∈l,x≠y:=by
 unfold manyV;simp
theorem empty_iff (l:List Pt):l.isEmpty=false ↔ ∃ x,x∈l:=by
 cases l <;> simp
theorem rmeet_3 {a b c d:Pt} (h:∃ x∈endsL a b c d,∃ y∈endsL a b c d,x≠y):rmeetV a b c d=3:=by
 unfold rmeetV;rw [if_pos ((many_iff _).2 h)]
theorem rmeet_1 {a b c d:Pt} (h:∃ x,x∈endsL a b c d) (k:∀ x∈endsL a b c d,∀ y∈endsL a b c d,x=y):rmeetV a b c d=1:=by
 unfold rmeetV;rw [if_neg (fun e=>by obtain ⟨x,hx,y,hy,hn⟩:=(many_iff _).1 e;exact hn (k x hx y hy)),if_pos ((empty_iff _).2 h)]
theorem rmeet_no {a b c d:Pt} (h:∀ x,x ∉ endsL a b c d):rmeetV a b c d=if crossP a b c d then 2 else 0:=by
 unfold rmeetV;rw [if_neg (fun e=>by obtain ⟨x,hx,_⟩:=(many_iff _).1 e;exact h x hx),if_neg (fun e=>by obtain ⟨x,hx⟩:=(empty_iff _).1 e;exact h x hx)]
theorem no_ends {a b c d:Pt} (h1:ronV c d a=false) (h2:ronV c d b=false) (h3:ronV a b c=false) (h4:ronV a b d=false):∀ x,x ∉ endsL a b c d:=by
 intro x hx;rw [mem_ends,h1,h2,h3,h4] at hx;simp at hx
theorem prod_neg (a b c d e f:Pt):turnV a b c * turnV d e f<0 ↔ (crossV a b c<0∧0<crossV d e f)∨(0<crossV a b c∧crossV d e f<0):=by
 rcases turn_cases a b c with ⟨h1,h2⟩|⟨h1,h2⟩|⟨h1,h2⟩ <;> rcases turn_cases d e f with ⟨h3,h4⟩|⟨h3,h4⟩|⟨h3,h4⟩ <;> rw [h1,h3] <;> omega
theorem cross_iff (a b c d:Pt):crossP a b c d=true ↔ ((crossV a b c<0∧0<crossV a b d)∨(0<crossV a b c∧crossV a b d<0))∧((crossV c d a<0∧0<crossV c d b)∨(0<crossV c d a∧crossV c d b<0)):=by
 unfold crossP;rw [Bool.and_eq_true,decide_eq_true_iff,decide_eq_true_iff,prod_neg,prod_neg]
/-! Stretches whose boxes are apart -/
theorem apart_le {m n α β γ δ ax bx cx dx:Int} (h:α * bx - β * ax=δ * cx - γ * dx) (hs:α - β=δ - γ) (hα:0<α) (hβ:β<0) (hδ:0<δ) (hγ:γ<0) (h1:ax≤m) (h2:bx≤m) (h3:n≤cx) (h4:n≤dx):n≤m:=by
 rcases Int.lt_or_le m n with hlt|hle
 ·have a1:=Int.mul_le_mul_of_nonneg_left h2 (Int.le_of_lt hα);have a2:=Int.mul_le_mul_of_nonneg_left h1 (show 0 ≤ -β by omega);have a3:=Int.mul_le_mul_of_nonneg_left h3 (Int.le_of_lt hδ);have a4:=Int.mul_le_mul_of_nonneg_left h4 (show 0 ≤ -γ by omega);rw [Int.neg_mul,Int.neg_mul] at a2 a4;have a5:(α - β) * n≤(α - β) * m:=by
   have e1:(α - β) * n=δ * n - γ * n:=by rw [hs,Int.sub_mul]
   have e2:(α - β) * m=α * m - β * m:=by rw [Int.sub_mul]
   omega
  have:=Int.le_of_mul_le_mul_left a5 (by omega);exact this
 ·exact hle
theorem cross_x (a b c d:Pt):crossV c d a * b.x - crossV c d b * a.x=crossV a b d * c.x - crossV a b c * d.x:=by unfold crossV;grind
theorem cross_y (a b c d:Pt):crossV c d a * b.y - crossV c d b * a.y=crossV a b d * c.y - crossV a b c * d.y:=by unfold crossV;grind
theorem cross_s (a b c d:Pt):crossV c d a - crossV c d b=crossV a b d - crossV a b c:=by unfold crossV;grind
theorem cross_meets {a b c d:Pt} (h:crossP a b c d=true):∃ α β γ δ:Int,0<α∧β<0∧0<δ∧γ<0∧α - β=δ - γ∧α * b.x - β * a.x=δ * c.x - γ * d.x∧α * b.y - β * a.y=δ * c.y - γ * d.y:=by
 rw [cross_iff] at h;have hs:=cross_s a b c d;have hx:=cross_x a b c d;have hy:=cross_y a b c d;rcases h with ⟨h1|h1,h2|h2⟩
 ·omega
 ·exact ⟨crossV c d a,crossV c d b,crossV a b c,crossV a b d,by omega,by omega,by omega,by omega,by omega,hx,hy⟩
 ·refine ⟨-crossV c d a,-crossV c d b,-crossV a b c,-crossV a b d,by omega,by omega,by omega,by omega,by omega,?_,?_⟩
  ·simp only [Int.neg_mul];omega
  ·simp only [Int.neg_mul];omega
 ·omega
end Go.Proofs.YtacinobmcgcccaaGreatDoor
