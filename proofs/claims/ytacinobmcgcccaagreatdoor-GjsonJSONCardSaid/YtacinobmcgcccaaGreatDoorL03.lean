/- Points: what two stretches have in common, as the program has it. -/
import Derived.Test.YtacinobmcgcccaaGreatDoorL01
set_option linter.unusedSimpArgs false
set_option linter.unusedVariables false
namespace Go.Proofs.YtacinobmcgcccaaGreatDoor
open Go.RowKit
def hi (x y:Int):Int:=if x<y then y else x
def lo (x y:Int):Int:=if y<x then y else x
def apartV (a b c d:Pt):Bool:=decide (hi a.x b.x<lo c.x d.x)||(decide (hi c.x d.x<lo a.x b.x)||(decide (hi a.y b.y<lo c.y d.y)||decide (hi c.y d.y<lo a.y b.y)))
def meetB (p s1 s2 s3 s4 d1 d2 o1 o2 o3 o4:Bool) (l:Int):Int:=
 if p then 0 else if s1&&(s2&&(s3&&s4)) then l else if d1&&d2 then 2 else if o1||(o2||(o3||o4)) then 1 else 0
def meetV (a b c d:Pt):Int:=
 meetB (apartV a b c d) (turnV a b c == 0) (turnV a b d == 0) (turnV c d a == 0) (turnV c d b == 0) (decide (turnV a b c * turnV a b d<0)) (decide (turnV c d a * turnV c d b<0))
  (onV a b c) (onV a b d) (onV c d a) (onV c d b) (lineV a b c d)
theorem ways4 (s1 s2 s3 s4:Bool):(s1=true∧s2=true∧s3=true∧s4=true)∨((s1&&(s2&&(s3&&s4)))=false∧(s1=false∨(s1=true∧s2=false)∨(s1=true∧s2=true∧s3=false)∨(s1=true∧s2=true∧s3=true∧s4=false))):=by
 cases s1 <;> cases s2 <;> cases s3 <;> cases s4 <;> simp
theorem ways2 (s1 s2:Bool):(s1=true∧s2=true)∨((s1&&s2)=false∧(s1=false∨(s1=true∧s2=false))):=by
 cases s1 <;> cases s2 <;> simp
theorem turn_prod (a b c d e f:Pt):-9223372036854775808≤turnV a b c * turnV d e f∧turnV a b c * turnV d e f≤9223372036854775807:=by
 have h:∀ a b c:Pt,-1≤turnV a b c∧turnV a b c≤1:=fun a b c=>by unfold turnV cmpOf;repeat' split <;> omega
 have:=mul_le_sq (h a b c).1 (h a b c).2 (h d e f).1 (h d e f).2;omega
def pq8 (a b c d:Pt):Array Value:=#[Value.int IntKind.i64 a.x,Value.int IntKind.i64 a.y,Value.int IntKind.i64 b.x,Value.int IntKind.i64 b.y,Value.int IntKind.i64 c.x,Value.int IntKind.i64 c.y,Value.int IntKind.i64 d.x,Value.int IntKind.i64 d.y]
theorem pr4 {W:World} {g:Nat} {t:TypeId} {a b c d:Pt} (h:Blk W g t (pq8 a b c d)):PR W W.heap.size (some ⟨g,0,none⟩) 4 [a,b,c,d]:=
 Sl.of_blk h rfl rfl rfl
theorem new5 (w:World) (a b c d:Pt) (cs:Array Value) (t:TypeId):Blk (((((w.alloc (pblk a.x a.y)).alloc (pblk b.x b.y)).alloc (pblk c.x c.y)).alloc (pblk d.x d.y)).alloc (Obj.cells cs t)) (w.heap.size+1+1+1+1) t cs:=by
 have:=Blk.new ((((w.alloc (pblk a.x a.y)).alloc (pblk b.x b.y)).alloc (pblk c.x c.y)).alloc (pblk d.x d.y)) t cs;simpa using this
theorem Box4.al {W:World} {g:Nat} {a b c d:Pt} (h:Box4 W g a b c d) (o:Obj):Box4 (W.alloc o) g a b c d:=⟨h.1.al o,h.2.1.al o,h.2.2.1.al o,h.2.2.2.al o⟩
theorem goodAll4 {a b c d:Pt} (h:a.good∧b.good∧c.good∧d.good):goodAll [a,b,c,d]=true:=by
 obtain ⟨h1,h2,h3,h4⟩:=h;unfold goodAll;simp [h1,h2,h3,h4]
set_option maxRecDepth 100000 in
set_option maxHeartbeats 8000000 in
theorem meet_good (a b c d:Pt) (w:World) (hg:a.good∧b.good∧c.good∧d.good) :
 Calls Tryz.prog 143 #[.agg #[.int .i64 a.x,.int .i64 a.y],.agg #[.int .i64 b.x,.int .i64 b.y],.agg #[.int .i64 c.x,.int .i64 c.y],.agg #[.int .i64 d.x,.int .i64 d.y]] w fun e w'=>e=.returned (.tuple #[.int .i64 (meetV a b c d),.int .i64 0])∧Below w.heap.size w w':=by
 have HB0:=hide (bel4 w a b c d);have HX0:=hide (Box4.new w a b c d);have HV:Hid (∀ p s1 s2 s3 s4 d1 d2 o1 o2 o3 o4:Bool,apartV a b c d=p→(turnV a b c == 0)=s1→(turnV a b d == 0)=s2→(turnV c d a == 0)=s3→(turnV c d b == 0)=s4→decide (turnV a b c * turnV a b d<0)=d1→decide (turnV c d a * turnV c d b<0)=d2→onV a b c=o1→onV a b d=o2→onV c d a=o3→onV c d b=o4→meetV a b c d=meetB p s1 s2 s3 s4 d1 d2 o1 o2 o3 o4 (lineV a b c d)):=
  hide (fun p s1 s2 s3 s4 d1 d2 o1 o2 o3 o4 h1 h2 h3 h4 h5 h6 h7 h8 h9 h10 h11=>by unfold meetV;rw [h1,h2,h3,h4,h5,h6,h7,h8,h9,h10,h11])
 have HG:=hide hg;clear hg
 go_enter Tryz.func143,Tryz.ntmps143
 go_wp2_with fail
 refine (good_any [a,b,c,d] _ 4 4 _ (pr4 (new5 w a b c d (pq8 a b c d) _)) (by omega)).mono ?_;rintro e w1 ⟨rfl,hb1⟩;rw [goodAll4 HG.out];have HB1:=hide (btr (bal HB0.out _) hb1);have HX1:=hide ((HX0.out.al _).later hb1);clear hb1 HB0 HX0;obtain ⟨⟨k1,k2,k3,k4⟩,q1,q2,q3,q4⟩:=HX1.out.all;clear q1 q2 q3 q4;obtain ⟨X1,x1⟩:∃ M,(if a.x<b.x then b.x else a.x)=M:=⟨_,rfl⟩;obtain ⟨X2,x2⟩:∃ M,(if d.x<c.x then d.x else c.x)=M:=⟨_,rfl⟩;obtain ⟨X3,x3⟩:∃ M,(if c.x<d.x then d.x else c.x)=M:=⟨_,rfl⟩;obtain ⟨X4,x4⟩:∃ M,(if b.x<a.x then b.x else a.x)=M:=⟨_,rfl⟩;obtain ⟨Y1,y1⟩:∃ M,(if a.y<b.y then b.y else a.y)=M:=⟨_,rfl⟩;obtain ⟨Y2,y2⟩:∃ M,(if d.y<c.y then d.y else c.y)=M:=⟨_,rfl⟩;obtain ⟨Y3,y3⟩:∃ M,(if c.y<d.y then d.y else c.y)=M:=⟨_,rfl⟩;obtain ⟨Y4,y4⟩:∃ M,(if b.y<a.y then b.y else a.y)=M:=⟨_,rfl⟩;have HA:Hid (apartV a b c d=(decide (X1<X2)||(decide (X3<X4)||(decide (Y1<Y2)||decide (Y3<Y4))))):=by unfold apartV hi lo;rw [x1,x2,x3,x4,y1,y2,y3,y4];exact hide rfl
 have HP:Hid (apartV a b c d=true→meetV a b c d=0):=hide (fun h=>(HV.out true _ _ _ _ _ _ _ _ _ _ h rfl rfl rfl rfl rfl rfl rfl rfl rfl rfl).trans rfl);have HBe:=HB1.out;cases t1:decide (X1<X2)
 ·cases t2:decide (X3<X4)
  ·cases t3:decide (Y1<Y2)
   ·cases t4:decide (Y3<Y4)
    ·have HN:Hid (apartV a b c d=false):=hide (by rw [HA.out,t1,t2,t3,t4];rfl);clear HP HBe;obtain ⟨g1,g2,g3,g4⟩:=HG.out;obtain ⟨⟨z1,z2,z3,z4⟩,z5,z6,z7,z8⟩:=HX1.out.lts;go_wp2_with fail
     clear x1 x2 x3 x4 y1 y2 y3 y4 t1 t2 t3 t4 HA;refine wp_region_later (by kernel_rfl) (by kernel_rfl) ?_
     repeat (first|go_big_quiet_step ((go_at_call 170;exact Calls.later (turn_any _ _ _ _ (by assumption) (by assumption) (by assumption))))|quiet_step ((go_at_call 170;exact Calls.later (turn_any _ _ _ _ (by assumption) (by assumption) (by assumption)))))
     refine wpQuiet_nil ?_;intro _ hw';obtain ⟨L,hL⟩:=hw';subst hL;have HB2:=hide (btr HB1.out L.h);have HX2:=hide (HX1.out.later L.h);generalize L.v=w2 at HB2 HX2 ⊢;clear k1 k2 k3 k4 z1 z2 z3 z4 z5 z6 z7 z8 HX1 HB1 L;obtain ⟨⟨k1,k2,k3,k4⟩,q1,q2,q3,q4⟩:=HX2.out.all;clear q1 q2 q3 q4;rcases ways4 (turnV a b c == 0) (turnV a b d == 0) (turnV c d a == 0) (turnV c d b == 0) with ⟨s1,s2,s3,s4⟩|⟨hs,hw⟩
     ·have HM:Hid (meetV a b c d=lineV a b c d):=hide ((HV.out _ _ _ _ _ _ _ _ _ _ _ HN.out s1 s2 s3 s4 rfl rfl rfl rfl rfl rfl).trans rfl);go_wp2_with fail
      refine (line_any a b c d _).mono ?_;rintro e w3 ⟨rfl,hb3⟩;have HB3:=hide (btr HB2.out hb3);clear hb3;go_wp2_with fail
      exact bodyPost_ret (v:=.tuple #[.int .i64 (meetV a b c d),.int .i64 0]) (by rw [HM.out];simp [results,Tryz.results143,go_sem]) rfl ⟨rfl,HB3.out⟩
     ·have HM:Hid (∀ d1 d2 o1 o2 o3 o4:Bool,decide (turnV a b c * turnV a b d<0)=d1→decide (turnV c d a * turnV c d b<0)=d2→onV a b c=o1→onV a b d=o2→onV c d a=o3→onV c d b=o4→meetV a b c d=if d1&&d2 then 2 else if o1||(o2||(o3||o4)) then 1 else 0):=
       hide (fun d1 d2 o1 o2 o3 o4 h1 h2 h3 h4 h5 h6=>by
        rw [HV.out _ _ _ _ _ d1 d2 o1 o2 o3 o4 HN.out rfl rfl rfl rfl h1 h2 h3 h4 h5 h6];unfold meetB;rw [hs];rfl)
      clear hs HV HN;obtain ⟨m1,m2⟩:=turn_prod a b c a b d;obtain ⟨m3,m4⟩:=turn_prod c d a c d b;rcases ways2 (decide (turnV a b c * turnV a b d<0)) (decide (turnV c d a * turnV c d b<0)) with ⟨d1,d2⟩|⟨hd,hx⟩
      ·have HM2:Hid (meetV a b c d=2):=hide ((HM.out _ _ _ _ _ _ d1 d2 rfl rfl rfl rfl).trans rfl);clear HM;rcases hw with s1|⟨s1,s2⟩|⟨s1,s2,s3⟩|⟨s1,s2,s3,s4⟩
       all_goals
        go_wp2_with fail
        exact bodyPost_ret (v:=.tuple #[.int .i64 (meetV a b c d),.int .i64 0]) (by rw [HM2.out];simp [results,Tryz.results143,go_sem]) rfl ⟨rfl,HB2.out⟩
      ·have HM2:Hid (∀ o1 o2 o3 o4:Bool,onV a b c=o1→onV a b d=o2→onV c d a=o3→onV c d b=o4→meetV a b c d=if o1||(o2||(o3||o4)) then 1 else 0):=
        hide (fun o1 o2 o3 o4 h1 h2 h3 h4=>by rw [HM.out _ _ o1 o2 o3 o4 rfl rfl h1 h2 h3 h4,hd];rfl)
       clear HM hd;rcases hw with s1|⟨s1,s2⟩|⟨s1,s2,s3⟩|⟨s1,s2,s3,s4⟩
       all_goals rcases hx with d1|⟨d1,d2⟩
       all_goals
        go_wp2_with fail
        refine (on_any a b c _ g1 g2 g3).mono ?_;rintro e w3 ⟨rfl,hb3⟩;have HB3:=hide (btr HB2.out hb3);have HX3:=hide (HX2.out.later hb3);clear hb3 HB2 HX2 k1 k2 k3 k4 s1 d1;(try clear s2);(try clear s3);(try clear s4);(try clear d2);clear m1 m2 m3 m4;obtain ⟨⟨k1,k2,k3,k4⟩,q1,q2,q3,q4⟩:=HX3.out.all;clear q1 q2 q3 q4;cases o1:onV a b c
        ·have O1:=hide o1;clear o1;go_wp2_with fail
         refine (on_any a b d _ g1 g2 g4).mono ?_;rintro e w4 ⟨rfl,hb4⟩;have HB4:=hide (btr HB3.out hb4);have HX4:=hide (HX3.out.later hb4);clear hb4 HB3 HX3 k1 k2 k3 k4;obtain ⟨⟨k1,k2,k3,k4⟩,q1,q2,q3,q4⟩:=HX4.out.all;clear q1 q2 q3 q4;cases o2:onV a b d
         ·have O2:=hide o2;clear o2;go_wp2_with fail
          refine (on_any c d a _ g3 g4 g1).mono ?_;rintro e w5 ⟨rfl,hb5⟩;have HB5:=hide (btr HB4.out hb5);have HX5:=hide (HX4.out.later hb5);clear hb5 HB4 HX4 k1 k2 k3 k4;obtain ⟨⟨k1,k2,k3,k4⟩,q1,q2,q3,q4⟩:=HX5.out.all;clear q1 q2 q3 q4;cases o3:onV c d a
          ·have O3:=hide o3;clear o3;go_wp2_with fail
           refine (on_any c d b _ g3 g4 g2).mono ?_;rintro e w6 ⟨rfl,hb6⟩;have HB6:=hide (btr HB5.out hb6);clear hb6 HB5 HX5 k1 k2 k3 k4;cases o4:onV c d b
           all_goals
            go_wp2_with fail
            exact bodyPost_ret (v:=.tuple #[.int .i64 (meetV a b c d),.int .i64 0]) (by rw [HM2.out _ _ _ _ O1.out O2.out O3.out o4];simp [results,Tryz.results143,go_sem]) rfl ⟨rfl,HB6.out⟩
          ·go_wp2_with fail
           exact bodyPost_ret (v:=.tuple #[.int .i64 (meetV a b c d),.int .i64 0]) (by rw [HM2.out _ _ _ _ O1.out O2.out o3 rfl];simp [results,Tryz.results143,go_sem]) rfl ⟨rfl,HB5.out⟩
         ·go_wp2_with fail
          exact bodyPost_ret (v:=.tuple #[.int .i64 (meetV a b c d),.int .i64 0]) (by rw [HM2.out _ _ _ _ O1.out o2 rfl rfl];simp [results,Tryz.results143,go_sem]) rfl ⟨rfl,HB4.out⟩
        ·go_wp2_with fail
         exact bodyPost_ret (v:=.tuple #[.int .i64 (meetV a b c d),.int .i64 0]) (by rw [HM2.out _ _ _ _ o1 rfl rfl rfl];simp [results,Tryz.results143,go_sem]) rfl ⟨rfl,HB3.out⟩
    ·go_wp2_with fail
     exact bodyPost_ret (v:=.tuple #[.int .i64 (meetV a b c d),.int .i64 0]) (by rw [HP.out (by rw [HA.out,t1,t2,t3,t4];rfl)];simp [results,Tryz.results143,go_sem]) rfl ⟨rfl,HBe⟩
   ·go_wp2_with fail
    exact bodyPost_ret (v:=.tuple #[.int .i64 (meetV a b c d),.int .i64 0]) (by rw [HP.out (by rw [HA.out,t1,t2,t3];rfl)];simp [results,Tryz.results143,go_sem]) rfl ⟨rfl,HBe⟩
  ·go_wp2_with fail
   exact bodyPost_ret (v:=.tuple #[.int .i64 (meetV a b c d),.int .i64 0]) (by rw [HP.out (by rw [HA.out,t1,t2];rfl)];simp [results,Tryz.results143,go_sem]) rfl ⟨rfl,HBe⟩
 ·go_wp2_with fail
  exact bodyPost_ret (v:=.tuple #[.int .i64 (meetV a b c d),.int .i64 0]) (by rw [HP.out (by rw [HA.out,t1];rfl)];simp [results,Tryz.results143,go_sem]) rfl ⟨rfl,HBe⟩
end Go.Proofs.YtacinobmcgcccaaGreatDoor
