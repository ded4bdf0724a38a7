/- The pager: its memory; alive, page, did, Root, Room. -/
import Derived.Test.YtkolacaceaamoaaKM7
import Derived.BigRegion
/- The pager: its memory; alive, page, did, Root, Room. -/
set_option linter.unusedSimpArgs false
set_option linter.unusedVariables false
namespace Go.Proofs.Ytkolacaceaamoaa
open Go.RowKit
abbrev TP:TypeId:=103
/-- A pager's block. -/
def pk (db sb n:Nat) (seq root frm:Int) (dead:Bool):Array Value:=#[.pointer (some ⟨db,0,none⟩),.slice (some ⟨sb,0,none⟩) n n,.int .i64 seq,.int .i64 root,.int .i64 frm,.bool dead]
section
variable {w:World} {F:Nat → Prop} {db:Nat} {out:Bool} {left size:Int} {S:Int → Cn} {L:List (Int × Cn)} {N:Nat} {pb sb n:Nat} {seq root frm:Int}
set_option maxHeartbeats 1000000 in
theorem alive_ok (h:Sec w F db false left size S L N) (hp:Blk w pb TP (pk db sb n seq root frm false)) :
  Calls Try.prog 65 #[.pointer (some ⟨pb,0,none⟩)] w fun e w'=>e = .returned (.int .i64 0) ∧ Below w.heap.size w w':=by
 have kx:=hp.cell; have qx:=hp.frozen; have zx:=hp.lt
 unfold pk at kx
 have HD:=hide (sec_down h)
 clear h hp
 go_enter Try.func65,Try.ntmps65
 go_wp2_with (go_at_call 38; (refine HD.out.mono ?_); rintro e w1 ⟨rfl,hb⟩; have HB:=hide hb; clear hb)
 go_ret
 exact ⟨rfl,HB.out⟩
end
def pgB (n:Nat) (x:Int):Bool:=decide (2 ≤ x) && decide (x < n)
set_option maxHeartbeats 1000000 in
theorem page_any (pb db sb n:Nat) (seq root frm:Int) (dead:Bool) (x:Int) (w:World) (hp:Blk w pb TP (pk db sb n seq root frm dead)) :
  Calls Try.prog 41 #[.pointer (some ⟨pb,0,none⟩),.int .i64 x] w fun e w'=>e = .returned (.bool (pgB n x)) ∧ Below w.heap.size w w':=by
 have kx:=hp.cell; have qx:=hp.frozen; have zx:=hp.lt
 unfold pk at kx
 clear hp
 unfold pgB
 cases d:decide (2 ≤ x)
 ·go_enter Try.func41,Try.ntmps41
  go_wp2_with fail
  go_ret
  exact ⟨ret_bool (by simp),by (repeat (first | exact Below.refl _ _ | refine Below.drew ?_ | refine Below.setCell ?_ (by simp; try omega) _ | refine bal ?_ _))⟩
 ·go_enter Try.func41,Try.ntmps41
  go_wp2_with fail
  go_ret
  exact ⟨ret_bool (by simp),by (repeat (first | exact Below.refl _ _ | refine Below.drew ?_ | refine Below.setCell ?_ (by simp; try omega) _ | refine bal ?_ _))⟩
set_option maxHeartbeats 1000000 in
theorem did_any (pb db sb n:Nat) (seq root frm:Int) (e0:Int) (w:World) (hp:Blk w pb TP (pk db sb n seq root frm false)) :
  Calls Try.prog 66 #[.pointer (some ⟨pb,0,none⟩),.int .i64 e0] w fun e w'=>e = .returned (.int .i64 e0) ∧ Blk w' pb TP (pk db sb n seq root frm (e0 == 15)) ∧ w.grownBy w' (some pb):=by
 have HB:=hide hp
 have kx:=hp.cell; have qx:=hp.frozen; have zx:=hp.lt
 unfold pk at kx
 clear hp
 obtain ⟨bb,hbb⟩:∃ bb,(e0 == (15:Int)) = bb:=⟨_,rfl⟩
 have HBB:=hide hbb
 go_enter Try.func66,Try.ntmps66
 go_wp2_with fail
 go_ret
 rw [HBB.out]
 exact ⟨rfl,HB.out.set_ 5 (.bool bb),gby_set _ _ _ _⟩
/-- How many pages are free. -/
def roomN (st:Cn):Nat:=(st.drop 2).countP (fun x=>x.toNat == 0)
end Go.Proofs.Ytkolacaceaamoaa
/- The pager: super. -/
namespace Go.Proofs.Ytkolacaceaamoaa
open Go.RowKit
/-- Does a root stand in a sector? Its number, and the root. -/
def supC (c:Cn):Bool:=opS c && !opT c && opK c == 1 && opN c == 11
def supS (c:Cn):Nat:=evN (((opD c).drop 0).take 7)
def supR (c:Cn):Nat:=evN (((opD c).drop 7).take 4)
theorem Fil.rb {w:World} {F:Nat → Prop} {v:Value} {c:Cn} (h:Fil w F v c):∃ g cap,v = .slice (some ⟨g,0,none⟩) 512 cap ∧ 512 ≤ cap ∧ F g ∧ RB w w.heap.size (some ⟨g,0,none⟩) 512 c:=by
 obtain ⟨_,A,c',e',hc⟩:=h.1
 obtain ⟨g,cap,e,hg,hr⟩:=h.reads
 rw [e] at e'
 injection e' with _ _ e3
 exact ⟨g,cap,e,by omega,hg,hr⟩
theorem own_reads' {w:World} {base:Nat} {v:Value} {n:Nat} {l:Cn} (h:w.ownsRow base T8 1 v n (cs8 l)):∃ A c,v = .slice A n c ∧ RB w w.heap.size A n l ∧ n ≤ c:=by
 rcases h.2 with ⟨e,h0⟩ | ⟨g,cap,cur,e,_,_,hc,_⟩
 ·subst e
  subst h0
  exact ⟨none,0,rfl,Reads.of_own h,Nat.le_refl _⟩
 ·subst e
  exact ⟨_,cap,rfl,Reads.of_own h,hc⟩
set_option maxRecDepth 100000 in
set_option maxHeartbeats 1000000 in
theorem super_no {w:World} {F:Nat → Prop} {v:Value} {c:Cn} (h:Fil w F v c) (hs:supC c = false) :
  Calls Try.prog 40 #[v] w fun e w'=>e = .returned (.tuple #[.int .i64 0,.int .i64 0,.bool false]) ∧ Below w.heap.size w w':=by
 obtain ⟨g,cap,rfl,hcap,_,hr⟩:=h.rb
 unfold supC at hs
 have HR:=hide hr
 clear h hr
 cases hS:opS c
 ·have HS:=hide hS
  clear hS hs
  go_enter Try.func40,Try.ntmps40
  go_wp2_with (go_at_call 64; (refine (open_sum g cap c w HR.out hcap HS.out).mono ?_); rintro e w1 ⟨rfl,hb⟩; have HB:=hide hb; clear hb)
  refine bodyPost_ret (v:=.tuple #[.int .i64 0,.int .i64 0,.bool false]) (by simp [results,Try.results40,go_sem]) rfl ⟨rfl,HB.out⟩
 ·have HS:=hide hS
  cases hT:opT c
  ·have HT:=hide hT
   rw [hS,hT] at hs
   clear hS hT
   obtain ⟨K,hK⟩:∃ K,opK c = K:=⟨_,rfl⟩
   obtain ⟨NN,hNN⟩:∃ NN,opN c = NN:=⟨_,rfl⟩
   rw [hK,hNN] at hs
   have HC:=hide (open_ok g cap c w HR.out hcap HS.out HT.out)
   rw [hK,hNN] at HC
   clear hK hNN
   by_cases h1:K = 1
   ·subst h1
    have hN:NN ≠ 11:=by simpa using hs
    have d2:((NN:Int) == 11) = false:=by simp; omega
    clear hs
    go_enter Try.func40,Try.ntmps40
    go_wp2_with (go_at_call 64; (refine HC.out.mono ?_); rintro e w1 ⟨v1,rfl,ho,hb⟩; obtain ⟨A1,c1,rfl,hr1⟩:=own_reads ho; have HB:=hide hb; clear hb ho hr1)
    refine bodyPost_ret (v:=.tuple #[.int .i64 0,.int .i64 0,.bool false]) (by simp [results,Try.results40,go_sem]) rfl ⟨rfl,HB.out⟩
   ·have d1:((K:Int) == 1) = false:=by simp; omega
    clear hs h1
    go_enter Try.func40,Try.ntmps40
    go_wp2_with (go_at_call 64; (refine HC.out.mono ?_); rintro e w1 ⟨v1,rfl,ho,hb⟩; obtain ⟨A1,c1,rfl,hr1⟩:=own_reads ho; have HB:=hide hb; clear hb ho hr1)
    refine bodyPost_ret (v:=.tuple #[.int .i64 0,.int .i64 0,.bool false]) (by simp [results,Try.results40,go_sem]) rfl ⟨rfl,HB.out⟩
  ·have HT:=hide hT
   clear hS hT hs
   go_enter Try.func40,Try.ntmps40
   go_wp2_with (go_at_call 64; (refine (open_text g cap c w HR.out hcap HS.out HT.out).mono ?_); rintro e w1 ⟨rfl,hb⟩; have HB:=hide hb; clear hb)
   refine bodyPost_ret (v:=.tuple #[.int .i64 0,.int .i64 0,.bool false]) (by simp [results,Try.results40,go_sem]) rfl ⟨rfl,HB.out⟩
set_option maxRecDepth 100000 in
set_option maxHeartbeats 1000000 in
theorem super_yes {w:World} {F:Nat → Prop} {v:Value} {c:Cn} (h:Fil w F v c) (hs:supC c = true) :
  Calls Try.prog 40 #[v] w fun e w'=>e = .returned (.tuple #[.int .i64 (supS c:Int),.int .i64 (supR c:Int),.bool true]) ∧ Below w.heap.size w w':=by
 obtain ⟨g,cap,rfl,hcap,_,hr⟩:=h.rb
 unfold supC at hs
 simp only [Bool.and_eq_true,Bool.not_eq_true',beq_iff_eq] at hs
 obtain ⟨⟨⟨hS,hT⟩,hK⟩,hN⟩:=hs
 have HC:=hide (open_ok g cap c w hr hcap hS hT)
 rw [hK,hN] at HC
 obtain ⟨D,hD⟩:∃ D,opD c = D:=⟨_,rfl⟩
 rw [hD] at HC
 have HS:=hide (show supS c = evN ((D.drop 0).take 7) by unfold supS; rw [hD])
 have HRR:=hide (show supR c = evN ((D.drop 7).take 4) by unfold supR; rw [hD])
 clear h hr hS hT hK hN hD
 go_enter Try.func40,Try.ntmps40
 go_wp2_with (first | (go_at_call 45; (refine (num_any A1 11 c1 D 7 4 w2 ((HR1.out.below HB2.out).more HB2.out.size) hc11 (by omega) (by omega) (by omega)).mono ?_); rintro e w3 ⟨rfl,hb⟩; rw [← HRR.out]; have HB3:=hide (HB1.out.trans ((HB2.out.mono HB1.out.size).trans (hb.mono (Nat.le_trans HB1.out.size HB2.out.size)))); clear hb) | (go_at_call 45; (refine (num_any A1 11 c1 D 0 7 w1 HR1.out hc11 (by omega) (by omega) (by omega)).mono ?_); rintro e w2 ⟨rfl,hb⟩; rw [← HS.out]; have HB2:=hide hb; clear hb) | (go_at_call 64; (refine HC.out.mono ?_); rintro e w1 ⟨v1,rfl,ho,hb⟩; obtain ⟨A1,c1,rfl,hr1,hc11⟩:=own_reads' ho; have HB1:=hide hb; have HR1:=hide hr1; clear hb ho hr1))
 refine bodyPost_ret (v:=.tuple #[.int .i64 (supS c:Int),.int .i64 (supR c:Int),.bool true]) (by simp [results,Try.results40,go_sem]) rfl ⟨rfl,HB3.out⟩
/-- A root's sector. -/
def rootC (seq root:Nat):Cn:=sealC 1 (beN seq 7 7 ++ beN root 4 4)
theorem zero_sup:supC zC = false:=by
 unfold supC
 cases h:opS zC
 ·rfl
 ·rw [zero_opT h]; rfl
end Go.Proofs.Ytkolacaceaamoaa
/- The pager: Open. -/
namespace Go.Proofs.Ytkolacaceaamoaa
open Go.RowKit
/-- The root that is there behind one more sector. -/
def opnF (n:Nat) (a:Int × Int) (c:Cn):Int × Int:=if supC c && decide (a.1 < (supS c:Int)) && ((supR c:Int) == 0 || pgB n (supR c)) then ((supS c:Int),(supR c:Int)) else a
def opnK (n:Nat) (S:Int → Cn) (L:List (Int × Cn)):Nat → Int × Int
 | 0=>(0,0)
 | k + 1=>opnF n (opnK n S L k) (nowC S L (k:Int))
def zeroSt (n:Nat):Cn:=List.replicate n 0
theorem made_zero (n:Nat):madeCells #[Value.int .u8 0] n = (cs8 (zeroSt n)).toArray:=by
 apply Array.ext'
 rw [toList_madeCells_one]
 unfold zeroSt
 rw [cs8_zeros]
theorem sec_read0 {w:World} {F:Nat → Prop} {b:Nat} {left size:Int} {S:Int → Cn} {L:List (Int × Cn)} {N:Nat} (h:Sec w F b false left size S L N) (at_:Int) (ha:0 ≤ at_ ∧ at_ < size) :
  Calls Try.prog 39 #[.pointer (some ⟨b,0,none⟩),.int .i64 at_] w fun e w'=>(∃ v,e = .returned (.tuple #[v,.int .i64 0]) ∧ Fil w' (fun j=>w.heap.size ≤ j) v (nowC S L at_)) ∧ Below w.heap.size w w':=by
 obtain ⟨m,u,n,D,us,h⟩:=h
 exact sec_read_ok h at_ (by unfold faultE; simp; omega)
set_option maxRecDepth 100000 in
set_option maxHeartbeats 2000000 in
theorem popen_ok {w:World} {F:Nat → Prop} {db n:Nat} {left:Int} {S:Int → Cn} {L:List (Int × Cn)} {N:Nat} (h:Sec w F db false left (n:Int) S L N) (h4:4 ≤ n) :
  Calls Try.prog 20 #[.pointer (some ⟨db,0,none⟩)] w fun e w'=>∃ pb sb,e = .returned (.tuple #[.pointer (some ⟨pb,0,none⟩),.int .i64 0]) ∧ w.heap.size ≤ pb ∧ w.heap.size ≤ sb ∧
   Blk w' pb TP (pk db sb n (opnK n S L 2).1 (opnK n S L 2).2 0 false) ∧ Blk w' sb T8 (cs8 (zeroSt n)).toArray ∧ Below w.heap.size w w':=by
 have hn:n ≤ 65536:=by obtain ⟨_,_,_,_,_,h⟩:=h; have:=h.hs; omega
 have H:=hide h
 have d1:decide ((n:Int) < 4) = false:=by simp; omega
 clear h
 have hmk:=run_make_row' (P:=Try.prog) 38 5 (.int .u8 0) 1 Try.underlying38 u8_info rfl .i64 .i64 n (by omega) (by omega)
 have HF:=hide (made_zero n)
 go_enter Try.func20,Try.ntmps20
 go_wp2_with (first | (go_at_call 37; (refine (sec_len (H.out.below HB2.out)).mono ?_); rintro e w3 ⟨rfl,hb⟩; have HB3:=hide (HB2.out.trans (hb.mono HB2.out.size)); clear hb) | (go_at_call 38; (refine (sec_down (H.out.below HB1.out)).mono ?_); rintro e w2 ⟨rfl,hb⟩; have HB2:=hide (HB1.out.trans (hb.mono HB1.out.size)); clear hb) | (go_at_call 37; (refine (sec_len H.out).mono ?_); rintro e w1 ⟨rfl,hb⟩; have HB1:=hide hb; clear hb))
 obtain ⟨W0,hW0⟩:∃ W0,((w3.alloc (Obj.cells (madeCells #[Value.int .u8 0] n) T8)).alloc (Obj.cells (pk db w3.heap.size n 0 0 0 false) TP)) = W0:=⟨_,rfl⟩
 have hb0:Below w.heap.size w W0:=by rw [← hW0]; exact (HB3.out.alloc HB3.out.size _).alloc (by have:=HB3.out.size; simp; omega) _
 have hk0:Blk W0 (w3.heap.size + 1) TP (pk db w3.heap.size n 0 0 0 false):=by rw [← hW0]; have:=Blk.new (w3.alloc (Obj.cells (madeCells #[Value.int .u8 0] n) T8)) TP (pk db w3.heap.size n 0 0 0 false); rw [heap_al] at this; exact this
 have hs0:Blk W0 w3.heap.size T8 (cs8 (zeroSt n)).toArray:=by rw [← hW0,← HF.out]; exact (Blk.new w3 T8 _).alloc _
 have e0:#[Value.pointer (some { block:=db,off:=0 }),Value.slice (some { block:=w3.heap.size,off:=0 }) n n,Value.int IntKind.i64 0,Value.int IntKind.i64 0,Value.int IntKind.i64 0,Value.bool false] = pk db w3.heap.size n 0 0 0 false:=rfl
 rw [e0]
 rw [hW0]
 obtain ⟨pb,hpb⟩:∃ pb,w3.heap.size + 1 = pb:=⟨_,rfl⟩
 obtain ⟨sb,hsb⟩:∃ sb,w3.heap.size = sb:=⟨_,rfl⟩
 have hle:=HB3.out.size
 rw [hpb,hsb] at hk0
 rw [hsb] at hs0 hle hpb ⊢
 rw [hpb]
 have HNE:=hide (show sb ≠ pb by omega)
 have HPB:=hide (show w.heap.size ≤ pb by omega)
 have HSB:=hide (show w.heap.size ≤ sb by omega)
 have HI0:=hide (And.intro hb0 (And.intro hk0 hs0))
 clear hW0 hb0 hk0 hs0 hpb hsb hle hmk d1 e0
 go_loopw [24] (fun i wr=>∃ k:Nat,k ≤ 2 ∧ i = .int .i64 k ∧ Hid (Below w.heap.size w wr ∧ Blk wr pb TP (pk db sb n (opnK n S L k).1 (opnK n S L k).2 0 false) ∧ Blk wr sb T8 (cs8 (zeroSt n)).toArray)) (fun i _=>2 - (intOf i).toNat)
 case atStart=>exact ⟨0,by omega,rfl,HI0⟩
 case round=>
  obtain ⟨k,hk,rfl,HI⟩:=hrel
  by_cases hlt:k < 2
  ·obtain ⟨c,hc⟩:∃ c,nowC S L (k:Int) = c:=⟨_,rfl⟩
   have hK:opnK n S L (k + 1) = opnF n (opnK n S L k) c:=by rw [← hc]; rfl
   have HCC:=hide hc
   clear hc
   obtain ⟨a1,ha1⟩:∃ a1,(opnK n S L k).1 = a1:=⟨_,rfl⟩
   obtain ⟨a2,ha2⟩:∃ a2,(opnK n S L k).2 = a2:=⟨_,rfl⟩
   rw [ha1,ha2] at HI
   rw [show opnK n S L k = (a1,a2) by rw [← ha1,← ha2]] at hK
   unfold opnF at hK
   clear ha1 ha2
   cases hs:supC c
   ·have HSN:=hide hs
    rw [hs] at hK
    have HK:=hide (show opnK n S L (k + 1) = (a1,a2) by rw [hK]; rfl)
    clear hK hs
    go_wp2_with (first | (go_at_call 40; (refine (super_no HF5.out HSN.out).mono ?_); rintro e w6 ⟨rfl,hb⟩; have HB6:=hide (HB5.out.trans (hb.mono HB5.out.size)); have HQ6:=hide (HQ5.out.below hb HQ5.out.lt); have HS6:=hide (HS5.out.below hb HS5.out.lt); clear hb) | (go_at_call 39; (refine (sec_read0 (H.out.below HI.out.1) (k:Int) (by omega)).mono ?_); rintro e w5 ⟨⟨v5,rfl,hf⟩,hb⟩; rw [HCC.out] at hf; have HF5:=hide hf; have HB5:=hide (HI.out.1.trans (hb.mono HI.out.1.size)); have HQ5:=hide (show Blk w5 pb TP (pk db sb n a1 a2 0 false) from HI.out.2.1.below hb HI.out.2.1.lt); have HS5:=hide (HI.out.2.2.below hb HI.out.2.2.lt); clear hf hb))
    go_roundw
    case rel=>exact ⟨k + 1,by omega,by go_num,hide ⟨HB6.out,by rw [HK.out]; exact HQ6.out,HS6.out⟩⟩
    case measure=>simp [intOf]; omega
   ·have HSY:=hide hs
    obtain ⟨s,hss⟩:∃ s,supS c = s:=⟨_,rfl⟩
    obtain ⟨r,hr⟩:∃ r,supR c = r:=⟨_,rfl⟩
    rw [hs,hss,hr] at hK
    have HSS:=hide hss
    have HRR:=hide hr
    clear hs hss hr
    cases d2:decide (a1 < (s:Int))
    ·rw [d2] at hK
     have HK:=hide (show opnK n S L (k + 1) = (a1,a2) by rw [hK]; rfl)
     clear hK
     go_wp2_with (first | (go_at_call 40; (refine (super_yes HF5.out HSY.out).mono ?_); rintro e w6 ⟨rfl,hb⟩; rw [HSS.out,HRR.out]; have HB6:=hide (HB5.out.trans (hb.mono HB5.out.size)); have HQ6:=hide (HQ5.out.below hb HQ5.out.lt); have HS6:=hide (HS5.out.below hb HS5.out.lt); have kq:=HQ6.out.cell; have qq:=HQ6.out.frozen; have zq:=HQ6.out.lt; unfold pk at kq; clear hb) | (go_at_call 39; (refine (sec_read0 (H.out.below HI.out.1) (k:Int) (by omega)).mono ?_); rintro e w5 ⟨⟨v5,rfl,hf⟩,hb⟩; rw [HCC.out] at hf; have HF5:=hide hf; have HB5:=hide (HI.out.1.trans (hb.mono HI.out.1.size)); have HQ5:=hide (show Blk w5 pb TP (pk db sb n a1 a2 0 false) from HI.out.2.1.below hb HI.out.2.1.lt); have HS5:=hide (HI.out.2.2.below hb HI.out.2.2.lt); clear hf hb))
     go_roundw
     case rel=>exact ⟨k + 1,by omega,by go_num,hide ⟨HB6.out,by rw [HK.out]; exact HQ6.out,HS6.out⟩⟩
     case measure=>simp [intOf]; omega
    ·cases d3:((r:Int) == 0)
     ·cases d4:pgB n (r:Int)
      ·rw [d2,d3,d4] at hK
       have HK:=hide (show opnK n S L (k + 1) = (a1,a2) by rw [hK]; rfl)
       clear hK
       go_wp2_with (first | (go_at_call 41; (refine (page_any pb db sb n a1 a2 0 false (r:Int) w6 HQ6.out).mono ?_); rintro e w7 ⟨rfl,hb⟩; rw [d4]; have HB7:=hide (HB6.out.trans (hb.mono HB6.out.size)); have HQ7:=hide (HQ6.out.below hb HQ6.out.lt); have HS7:=hide (HS6.out.below hb HS6.out.lt); have kr:=HQ7.out.cell; have qr:=HQ7.out.frozen; have zr:=HQ7.out.lt; unfold pk at kr; clear hb kq qq zq) | (go_at_call 40; (refine (super_yes HF5.out HSY.out).mono ?_); rintro e w6 ⟨rfl,hb⟩; rw [HSS.out,HRR.out]; have HB6:=hide (HB5.out.trans (hb.mono HB5.out.size)); have HQ6:=hide (HQ5.out.below hb HQ5.out.lt); have HS6:=hide (HS5.out.below hb HS5.out.lt); have kq:=HQ6.out.cell; have qq:=HQ6.out.frozen; have zq:=HQ6.out.lt; unfold pk at kq; clear hb) | (go_at_call 39; (refine (sec_read0 (H.out.below HI.out.1) (k:Int) (by omega)).mono ?_); rintro e w5 ⟨⟨v5,rfl,hf⟩,hb⟩; rw [HCC.out] at hf; have HF5:=hide hf; have HB5:=hide (HI.out.1.trans (hb.mono HI.out.1.size)); have HQ5:=hide (show Blk w5 pb TP (pk db sb n a1 a2 0 false) from HI.out.2.1.below hb HI.out.2.1.lt); have HS5:=hide (HI.out.2.2.below hb HI.out.2.2.lt); clear hf hb))
       go_roundw
       case rel=>exact ⟨k + 1,by omega,by go_num,hide ⟨HB7.out,by rw [HK.out]; exact HQ7.out,HS7.out⟩⟩
       case measure=>simp [intOf]; omega
      ·rw [d2,d3,d4] at hK
       have HK:=hide (show opnK n S L (k + 1) = ((s:Int),(r:Int)) by rw [hK]; rfl)
       clear hK
       go_wp2_with (first | (go_at_call 41; (refine (page_any pb db sb n a1 a2 0 false (r:Int) w6 HQ6.out).mono ?_); rintro e w7 ⟨rfl,hb⟩; rw [d4]; have HB7:=hide (HB6.out.trans (hb.mono HB6.out.size)); have HQ7:=hide (HQ6.out.below hb HQ6.out.lt); have HS7:=hide (HS6.out.below hb HS6.out.lt); have kr:=HQ7.out.cell; have qr:=HQ7.out.frozen; have zr:=HQ7.out.lt; unfold pk at kr; clear hb kq qq zq) | (go_at_call 40; (refine (super_yes HF5.out HSY.out).mono ?_); rintro e w6 ⟨rfl,hb⟩; rw [HSS.out,HRR.out]; have HB6:=hide (HB5.out.trans (hb.mono HB5.out.size)); have HQ6:=hide (HQ5.out.below hb HQ5.out.lt); have HS6:=hide (HS5.out.below hb HS5.out.lt); have kq:=HQ6.out.cell; have qq:=HQ6.out.frozen; have zq:=HQ6.out.lt; unfold pk at kq; clear hb) | (go_at_call 39; (refine (sec_read0 (H.out.below HI.out.1) (k:Int) (by omega)).mono ?_); rintro e w5 ⟨⟨v5,rfl,hf⟩,hb⟩; rw [HCC.out] at hf; have HF5:=hide hf; have HB5:=hide (HI.out.1.trans (hb.mono HI.out.1.size)); have HQ5:=hide (show Blk w5 pb TP (pk db sb n a1 a2 0 false) from HI.out.2.1.below hb HI.out.2.1.lt); have HS5:=hide (HI.out.2.2.below hb HI.out.2.2.lt); clear hf hb))
       go_roundw
       case rel=>exact ⟨k + 1,by omega,by go_num,hide ⟨(HB7.out.setCell (p:=⟨pb,2,none⟩) HPB.out _).setCell (p:=⟨pb,3,none⟩) HPB.out _,by rw [HK.out]; exact (HQ7.out.set_ 2 _).set_ 3 _,(HS7.out.far (p:=⟨pb,2,none⟩) HNE.out _).far (p:=⟨pb,3,none⟩) HNE.out _⟩⟩
       case measure=>simp [intOf]; omega
     ·rw [d2,d3] at hK
      have HK:=hide (show opnK n S L (k + 1) = ((s:Int),(r:Int)) by rw [hK]; rfl)
      clear hK
      go_wp2_with (first | (go_at_call 40; (refine (super_yes HF5.out HSY.out).mono ?_); rintro e w6 ⟨rfl,hb⟩; rw [HSS.out,HRR.out]; have HB6:=hide (HB5.out.trans (hb.mono HB5.out.size)); have HQ6:=hide (HQ5.out.below hb HQ5.out.lt); have HS6:=hide (HS5.out.below hb HS5.out.lt); have kq:=HQ6.out.cell; have qq:=HQ6.out.frozen; have zq:=HQ6.out.lt; unfold pk at kq; clear hb) | (go_at_call 39; (refine (sec_read0 (H.out.below HI.out.1) (k:Int) (by omega)).mono ?_); rintro e w5 ⟨⟨v5,rfl,hf⟩,hb⟩; rw [HCC.out] at hf; have HF5:=hide hf; have HB5:=hide (HI.out.1.trans (hb.mono HI.out.1.size)); have HQ5:=hide (show Blk w5 pb TP (pk db sb n a1 a2 0 false) from HI.out.2.1.below hb HI.out.2.1.lt); have HS5:=hide (HI.out.2.2.below hb HI.out.2.2.lt); clear hf hb))
      go_roundw
      case rel=>exact ⟨k + 1,by omega,by go_num,hide ⟨(HB6.out.setCell (p:=⟨pb,2,none⟩) HPB.out _).setCell (p:=⟨pb,3,none⟩) HPB.out _,by rw [HK.out]; exact (HQ6.out.set_ 2 _).set_ 3 _,(HS6.out.far (p:=⟨pb,2,none⟩) HNE.out _).far (p:=⟨pb,3,none⟩) HNE.out _⟩⟩
      case measure=>simp [intOf]; omega
  ·have e:k = 2:=by omega
   subst e
   go_wp2
   refine bodyPost_ret (v:=.tuple #[.pointer (some ⟨pb,0,none⟩),.int .i64 0]) (by simp [results,Try.results20,go_sem]) rfl ⟨pb,sb,rfl,HPB.out,HSB.out,HI.out.2.1,HI.out.2.2,HI.out.1⟩
end Go.Proofs.Ytkolacaceaamoaa
/- The pager: a pager as a whole, and Read of a page. -/
namespace Go.Proofs.Ytkolacaceaamoaa
open Go.RowKit
theorem Sec.set_off {w w':World} {F:Nat → Prop} {b:Nat} {out:Bool} {left size:Int} {S:Int → Cn} {L:List (Int × Cn)} {N g:Nat} (h:Sec w F b out left size S L N) (hg:w.grownBy w' (some g)) (hn:¬ F g):Sec w' F b out left size S L N:=
 h.apart (G:=fun j=>j = g) (Fr.of_grown hg (fun k e=>by injection e with e; exact e.symm)) (fun j hj e=>hn (e ▸ hj))
/-- A pager, its disk, and what stands where. -/
structure Pg (w:World) (F:Nat → Prop) (pb sb db n:Nat) (left:Int) (S:Int → Cn) (L:List (Int × Cn)) (N:Nat) (seq root frm:Int) (st:Cn):Prop where
 sec:Sec w F db false left (n:Int) S L N
 blk:Blk w pb TP (pk db sb n seq root frm false)
 sblk:Blk w sb T8 (cs8 st).toArray
 len:st.length = n
 h4:4 ≤ n
 np:¬ F pb
 ns:¬ F sb
 hsq:0 ≤ seq ∧ seq < 4000000000
 hrt:0 ≤ root ∧ root < n
 hfr:0 ≤ frm ∧ frm < n
section
variable {w w':World} {F:Nat → Prop} {pb sb db n:Nat} {left:Int} {S:Int → Cn} {L:List (Int × Cn)} {N:Nat} {seq root frm:Int} {st:Cn}
theorem Pg.ne (h:Pg w F pb sb db n left S L N seq root frm st):pb ≠ sb:=Blk.ne_ h.blk h.sblk (by decide)
theorem Pg.hn (h:Pg w F pb sb db n left S L N seq root frm st):n ≤ 65536:=by obtain ⟨_,_,_,_,_,k⟩:=h.sec; have:=k.hs; omega
theorem Pg.below (h:Pg w F pb sb db n left S L N seq root frm st) (hb:Below w.heap.size w w'):Pg w' F pb sb db n left S L N seq root frm st:=
 { h with sec:=h.sec.below hb,blk:=h.blk.below hb h.blk.lt,sblk:=h.sblk.below hb h.sblk.lt }
/-- The pager's own block turned. -/
theorem Pg.self {seq' root' frm':Int} (h:Pg w F pb sb db n left S L N seq root frm st) (hg:w.grownBy w' (some pb)) (hB:Blk w' pb TP (pk db sb n seq' root' frm' false)) (h1:0 ≤ seq' ∧ seq' < 4000000000) (h2:0 ≤ root' ∧ root' < n) (h3:0 ≤ frm' ∧ frm' < n):Pg w' F pb sb db n left S L N seq' root' frm' st:=
 { h with sec:=h.sec.set_off hg h.np,blk:=hB,sblk:=h.sblk.grown hg (fun e=>h.ne (by injection e with e; exact e.symm)),hsq:=h1,hrt:=h2,hfr:=h3 }
/-- What a call of the pager may turn. -/
def PF (F:Nat → Prop) (pb sb:Nat):Nat → Prop:=fun j=>F j ∨ j = pb ∨ j = sb
theorem Fr.of_pb {F:Nat → Prop} {pb sb:Nat} {w w':World} (h:w.grownBy w' (some pb)):Fr (PF F pb sb) w w':=Fr.of_grown h (fun k e=>by injection e with e; exact .inr (.inl e.symm))
theorem Fr.low {F:Nat → Prop} {w w':World} (h:Below w.heap.size w w'):Fr F w w':=Fr.of_below h
theorem Fil.did {w2 w3 w4:World} {v:Value} {c:Cn} {pb:Nat} (h:Fil w3 (fun j=>w2.heap.size ≤ j) v c) (hg:w3.grownBy w4 (some pb)) (hp:pb < w2.heap.size):Fil w4 (fun j=>w2.heap.size ≤ j) v c:=by
 obtain ⟨hc,g,cap,cs,e,hgg,hb,hcs⟩:=h
 exact ⟨hc,g,cap,cs,e,hgg,hb.grown hg (fun e=>by injection e with e; omega),hcs⟩
theorem own_down {w:World} {B B':Nat} {e:TypeId} {size:Nat} {v:Value} {n:Nat} {xs:List Value} (h:w.ownsRow B e size v n xs) (hB:B' ≤ B):w.ownsRow B' e size v n xs:=by
 refine ⟨h.1,?_⟩
 rcases h.2 with hn | ⟨g,cap,cur,e,h1,rest⟩
 ·exact .inl hn
 ·exact .inr ⟨g,cap,cur,e,by omega,rest⟩
set_option maxRecDepth 100000 in
set_option maxHeartbeats 1000000 in
theorem pread_ok (h:Pg w F pb sb db n left S L N seq root frm st) (x:Int) (hx:pgB n x = true) (d:Cn) (hd:d.length ≤ 505) (hc:nowC S L x = sealC 2 d) :
  Calls Try.prog 43 #[.pointer (some ⟨pb,0,none⟩),.int .i64 x] w fun e w'=>(∃ v,e = .returned (.tuple #[v,.int .i64 0]) ∧ w'.ownsRow w.heap.size T8 1 v d.length (cs8 d)) ∧ Pg w' F pb sb db n left S L N seq root frm st ∧ Fr (PF F pb sb) w w':=by
 have HX:=hide (show 0 ≤ x ∧ x < (n:Int) by unfold pgB at hx; simp at hx; omega)
 have HPB:=hide hx
 have HP:=hide h
 obtain ⟨c,hc'⟩:∃ c,nowC S L x = c:=⟨_,rfl⟩
 rw [hc'] at hc
 have HC:=hide hc'
 have hS:opS c = true:=by rw [hc]; exact seal_opS
 have hT:opT c = false:=by rw [hc]; exact seal_opT (by omega) (by omega)
 have hK:opK c = 2:=by rw [hc]; exact seal_opK (by omega)
 have hN:opN c = d.length:=by rw [hc]; exact seal_opN (by omega)
 have hD:opD c = d:=by rw [hc]; exact seal_opD (by omega)
 have HO:=hide (fun (g cap:Nat) (w:World) (hr:RB w w.heap.size (some ⟨g,0,none⟩) 512 c) (hcap:512 ≤ cap)=>open_ok g cap c w hr hcap hS hT)
 rw [hK,hN,hD] at HO
 clear h hx hc hc' hS hT hK hN hD
 obtain ⟨m,hm⟩:∃ m,d.length = m:=⟨_,rfl⟩
 rw [hm] at HO hd ⊢
 clear hm
 go_enter Try.func43,Try.ntmps43
 go_wp2_with (first | (go_at_call 64; (obtain ⟨g5,cap5,rfl,hcap5,_,hr5⟩:=HF4.out.rb); (refine (HO.out g5 cap5 w4 hr5 hcap5).mono ?_); rintro e w5 ⟨v5,rfl,ho,hb⟩; have HB5:=hide (HB4.out.trans (Fr.low hb) (fun _ _ h=>h)); have HK5:=hide (HK4.out.below hb); have HO5:=hide (own_down ho HB4.out.size); clear hb hcap5 hr5 ho) | (go_at_call 66; (refine (did_any pb db sb n seq root frm 0 w3 (HP.out.below HB3.out).blk).mono ?_); rintro e w4 ⟨rfl,hk,hg⟩; have HK4:=hide ((HP.out.below HB3.out).self hg hk HP.out.hsq HP.out.hrt HP.out.hfr); have HB4:=hide (show Fr (PF F pb sb) w w4 from (Fr.low HB3.out).trans (Fr.of_pb hg) (fun _ _ h=>h)); have HF4:=hide (show Fil w4 (fun j=>w2.heap.size ≤ j) v3 c from HF3.out.did hg (Nat.lt_of_lt_of_le HP.out.blk.lt HB2.out.size)); clear hk hg) | (go_at_call 39; (refine (sec_read0 (HP.out.below HB2.out).sec x HX.out).mono ?_); rintro e w3 ⟨⟨v3,rfl,hf⟩,hb⟩; rw [HC.out] at hf; have HF3:=hide hf; have HB3:=hide (HB2.out.trans (hb.mono HB2.out.size)); clear hf hb) | (go_at_call 41; (refine (page_any pb db sb n seq root frm false x w1 (HP.out.below HB1.out).blk).mono ?_); rintro e w2 ⟨rfl,hb⟩; rw [HPB.out]; have HB2:=hide (HB1.out.trans (hb.mono HB1.out.size)); have k2:=(HP.out.below HB2.out).blk.cell; have q2:=(HP.out.below HB2.out).blk.frozen; have z2:=(HP.out.below HB2.out).blk.lt; unfold pk at k2; clear hb) | (go_at_call 65; (refine (alive_ok HP.out.sec HP.out.blk).mono ?_); rintro e w1 ⟨rfl,hb⟩; have HB1:=hide hb; clear hb))
 refine bodyPost_ret (v:=.tuple #[v5,.int .i64 0]) (by simp [results,Try.results43,go_sem]) rfl ⟨⟨_,rfl,HO5.out⟩,HK5.out,HB5.out⟩
end
end Go.Proofs.Ytkolacaceaamoaa
/- The pager: New. -/
namespace Go.Proofs.Ytkolacaceaamoaa
open Go.RowKit
section
variable {w w':World} {F:Nat → Prop} {pb sb db n:Nat} {left:Int} {S:Int → Cn} {L:List (Int × Cn)} {N:Nat} {seq root frm:Int} {st:Cn}
theorem sec_wr {size:Int} {b:Nat} (h:Sec w F b false left size S L N) (at_:Int) (c:Cn) (v:Value) (G:Nat → Prop) (hv:Fil w G v c) (ha:0 ≤ at_ ∧ at_ < size) (hN:N < 1000000000) :
  Calls Try.prog 96 #[.pointer (some ⟨b,0,none⟩),.int .i64 at_,v] w fun e w'=>e = .returned (.int .i64 (if burnO false left then 15 else 0)) ∧
   (∃ F',Sec w' F' b (burnO false left) (burnL left) size S (if burnO false left then L else L ++ [(at_,c)]) (N + 1) ∧ ∀ j,F' j → F j ∨ w.heap.size ≤ j) ∧ Fr F w w':=by
 obtain ⟨_,g,cap,cs,rfl,_⟩:=id hv
 refine (sec_write h at_ c g 512 cap G (fun _=>hv) hN).mono ?_
 have hf:faultE false size at_ = 0:=by unfold faultE; simp; omega
 rintro e w' ⟨rfl,⟨F',h1,h2⟩,h3⟩
 unfold wrE
 unfold wrOut wrLeft wrL wrDo at h1
 rw [hf] at *
 cases hb:burnO false left <;> rw [hb] at h1 <;> exact ⟨rfl,⟨F',h1,h2⟩,h3⟩
/-- Where the pager looks at its k-th look. -/
def atN (n:Nat) (frm:Int) (k:Nat):Nat:=2 + (frm.toNat + k) % (n - 2)
def isFree (st:Cn) (a:Nat):Prop:=∃ h:a < st.length,st[a].toNat = 0
/-- What a disk holds is what it held, or new. -/
def Grw (F:Nat → Prop) (w:World) (F':Nat → Prop):Prop:=∀ j,F' j → F j ∨ w.heap.size ≤ j
/-- What New does. -/
def NewR (w:World) (F:Nat → Prop) (pb sb db n:Nat) (left:Int) (S:Int → Cn) (L:List (Int × Cn)) (N:Nat) (seq root frm:Int) (st:Cn) (d:Cn) (e:Ending) (w':World):Prop:=
 (e = .returned (.tuple #[.int .i64 0,.int .i64 16]) ∧ (∀ a,2 ≤ a → ¬ isFree st a) ∧ Pg w' F pb sb db n left S L N seq root frm st) ∨
 ∃ a:Nat,2 ≤ a ∧ a < n ∧ isFree st a ∧
  ((burnO false left = true ∧ e = .returned (.tuple #[.int .i64 0,.int .i64 15]) ∧ ∃ F',Sec w' F' db true (burnL left) (n:Int) S L (N + 1) ∧ Grw F w F') ∨
   (burnO false left = false ∧ e = .returned (.tuple #[.int .i64 a,.int .i64 0]) ∧ ∃ F',Pg w' F' pb sb db n (burnL left) S (L ++ [((a:Int),sealC 2 d)]) (N + 1) seq root ((a:Int) - 1) (st.set a 1) ∧ Grw F w F'))
theorem at_all {n:Nat} {frm:Int} {st:Cn} (hn:4 ≤ n) (hl:st.length = n) (h:∀ k,k < n - 2 → ¬ isFree st (atN n frm k)) (a:Nat) (ha:2 ≤ a):¬ isFree st a:=by
 intro hf
 have h1:a < n:=by obtain ⟨h,_⟩:=hf; omega
 obtain ⟨m,hm⟩:∃ m,n - 2 = m:=⟨_,rfl⟩
 obtain ⟨f,hf'⟩:∃ f,frm.toNat = f:=⟨_,rfl⟩
 have hm0:0 < m:=by omega
 refine h ((a - 2 + (m - f % m)) % m) (by rw [hm]; exact Nat.mod_lt _ hm0) ?_
 have:atN n frm ((a - 2 + (m - f % m)) % m) = a:=by
  unfold atN
  rw [hm,hf',Nat.add_mod,Nat.mod_mod,← Nat.add_mod]
  have h2:=Nat.mod_add_div f m
  have h3:=Nat.mod_lt f hm0
  obtain ⟨q,hq⟩:∃ q,m * (f / m) = m * q:=⟨_,rfl⟩
  have:f + (a - 2 + (m - f % m)) = (a - 2) + m * (q + 1):=by rw [Nat.mul_add,← hq]; omega
  rw [this,Nat.add_mul_mod_self_left,Nat.mod_eq_of_lt (by omega)]
  omega
 rw [this]
 exact hf
theorem Fr.up {F F':Nat → Prop} {w w':World} (h:Fr F w w') (hF:∀ j,F j → F' j):Fr F' w w':=⟨h.os,h.tape,h.output,h.size,fun j hj hn=>h.block j hj (fun h=>hn (hF j h))⟩
theorem cs8_set (l:Cn) (i:Nat) (x:UInt8):(cs8 l).toArray.setIfInBounds i (u8v x) = (cs8 (l.set i x)).toArray:=by
 apply Array.ext'
 rw [Array.toList_setIfInBounds]
 unfold cs8
 simp [List.map_set]
theorem Fr.blk {F:Nat → Prop} {w w':World} {g:Nat} {t:TypeId} {cs:Array Value} (h:Fr F w w') (hb:Blk w g t cs) (hn:¬ F g):Blk w' g t cs:=(h.block g hb.lt hn).trans hb
set_option maxRecDepth 100000 in
set_option maxHeartbeats 1000000 in
theorem pnew_any (h:Pg w F pb sb db n left S L N seq root frm st) (A:Option Addr) (m c:Nat) (d:Cn) (hr:RB w w.heap.size A m d) (hm:m ≤ 505) (hN:N < 1000000000) :
  Calls Try.prog 75 #[.pointer (some ⟨pb,0,none⟩),.slice A m c] w fun e w'=>NewR w F pb sb db n left S L N seq root frm st d e w' ∧ Fr (PF F pb sb) w w':=by
 have HP:=hide h
 have HR:=hide hr
 have HNN:=hide hN
 have HDL:=hide (show d.length ≤ 505 by rw [hr.len]; exact hm)
 have HH:=hide h.hn
 have HH4:=hide h.h4
 have hfr:=h.hfr
 obtain ⟨f,hf⟩:∃ f:Nat,frm = f:=⟨frm.toNat,by omega⟩
 subst hf
 have hf1:f < 65536:=by have:=h.hn; omega
 have hn2:=h.hn
 have hn4:=h.h4
 clear h hr hN hfr
 go_enter Try.func75,Try.ntmps75
 go_wp2_with (first | (go_at_call 95; (refine (seal_ok A m c d 2 w1 ((HR.out.below HB1.out).more HB1.out.size) hm (by omega)).mono ?_); rintro e w2 ⟨v2,rfl,ho,hb⟩; have HB2:=hide (HB1.out.trans (hb.mono HB1.out.size)); have HF2:=hide (Fil.of_row (F:=fun j=>w1.heap.size ≤ j) ho (sealC_len 2 HDL.out) (fun _ h _=>h)); have k2:=(HP.out.below HB2.out).blk.cell; have q2:=(HP.out.below HB2.out).blk.frozen; have z2:=(HP.out.below HB2.out).blk.lt; unfold pk at k2; clear hb ho) | (go_at_call 65; (refine (alive_ok HP.out.sec HP.out.blk).mono ?_); rintro e w1 ⟨rfl,hb⟩; have HB1:=hide hb; clear hb))
 have HI0:=hide (And.intro (HP.out.below HB2.out) (And.intro HF2.out HB2.out))
 clear k2 q2 z2
 go_loopw [33] (fun i wr=>∃ k:Nat,k ≤ n - 2 ∧ i = .int .i64 k ∧ Hid (Pg wr F pb sb db n left S L N seq root f st ∧ Fil wr (fun j=>w1.heap.size ≤ j) v2 (sealC 2 d) ∧ Below w.heap.size w wr) ∧ Hid (∀ k',k' < k → ¬ isFree st (atN n f k'))) (fun i _=>n - 2 - (intOf i).toNat)
 case atStart=>exact ⟨0,by omega,rfl,HI0,hide (fun k' h=>by omega)⟩
 case round=>
  obtain ⟨k,hk,rfl,HI,HA⟩:=hrel
  by_cases hlt:k < n - 2
  ·have kx:=HI.out.1.blk.cell
   have qx:=HI.out.1.blk.frozen
   have zx:=HI.out.1.blk.lt
   unfold pk at kx
   obtain ⟨a,ha⟩:∃ a,atN n f k = a:=⟨_,rfl⟩
   have ha2:2 ≤ a ∧ a < n:=by
    rw [← ha]; unfold atN
    have:=Nat.mod_lt ((f:Int).toNat + k) (show 0 < n - 2 by omega)
    omega
   have hw:wrap64 (2 + ((f:Int) + (k:Int)) % ((n:Int) - 2)) = (a:Int):=by
    have h1:((n:Int) - 2) = ((n - 2:Nat):Int):=by omega
    have h2:(2 + ((f:Int) + (k:Int)) % ((n:Int) - 2)) = (a:Int):=by
     rw [← ha,h1]; unfold atN; simp
    rw [h2]
    unfold wrap64; omega
   have hal:a < st.length:=by rw [HI.out.1.len]; omega
   obtain ⟨x,hx⟩:∃ x,st[a]'hal = x:=⟨_,rfl⟩
   have hcs:wr.cell? ⟨sb,a,none⟩ = some (.int .u8 (x.toNat:Int)):=by
    rw [HI.out.1.sblk.cell,List.getElem?_toArray,cs8_get,List.getElem?_eq_getElem hal,hx]
    rfl
   have qxs:=HI.out.1.sblk.frozen
   have zxs:=HI.out.1.sblk.lt
   have HATN:=hide ha
   cases hd:(x.toNat == 0)
   ·have d1:((x.toNat:Int) == 0) = false:=by simp at hd ⊢; omega
    have hnf:=hide (show ¬ isFree st a from fun ⟨_,h0⟩=>by rw [hx] at h0; simp [h0] at hd)
    clear ha hx hd
    go_wp2
    go_roundw
    case rel=>exact ⟨k + 1,by omega,by go_num,HI,hide (fun k' hk'=>by
     rcases Nat.lt_succ_iff_lt_or_eq.1 hk' with h | rfl
     ·exact HA.out k' h
     ·rw [HATN.out]; exact hnf.out)⟩
    case measure=>simp [intOf]; omega
   ·have d1:((x.toNat:Int) == 0) = true:=by simp at hd ⊢; omega
    have hfree:=hide (show isFree st a from ⟨hal,by rw [hx]; simpa using hd⟩)
    clear ha hx hd
    cases hbo:burnO false left
    ·have HBO:=hide hbo
     clear hbo
     go_wp2_with (first | (go_at_call 66; (refine (did_any pb db sb n seq root f 0 w3 (HW3.out.2.blk HI.out.1.blk HI.out.1.np)).mono ?_); rintro e w4 ⟨rfl,hk,hg⟩; have HK4:=hide hk; have HG4:=hide hg; have HS4:=hide (hg.block sb (HW3.out.2.blk HI.out.1.sblk HI.out.1.ns).lt (fun e=>HI.out.1.ne (by injection e with e; exact e.symm)) |>.trans (HW3.out.2.blk HI.out.1.sblk HI.out.1.ns)); have k4:=hk.cell; have q4:=hk.frozen; have z4:=hk.lt; have zs4:=Blk.lt HS4.out; have qs4:=Blk.frozen HS4.out; have kc4:w4.cell? ⟨sb,a,none⟩ = some (.int .u8 (x.toNat:Int)):=(Blk.cell HS4.out a).trans ((HI.out.1.sblk.cell a).symm.trans hcs); have HB5:=hide (Blk.far hk (p:=⟨sb,a,none⟩) HI.out.1.ne (.int .u8 1)); have k5:=HB5.out.cell; have q5:=HB5.out.frozen; have z5:=HB5.out.lt; unfold pk at k4 k5; clear hk hg kx qx zx hcs qxs zxs) | (go_at_call 96; (refine (sec_wr HI.out.1.sec (a:Int) (sealC 2 d) v2 _ HI.out.2.1 (by omega) HNN.out).mono ?_); rw [HBO.out]; rintro e w3 ⟨rfl,⟨F',hs,hF⟩,hfr⟩; have HW3:=hide (And.intro (And.intro hs hF) hfr); clear hs hF hfr))
     refine bodyPost_ret (v:=.tuple #[.int .i64 a,.int .i64 0]) (by simp [results,Try.results75,go_sem]) rfl ?_
     have hs4:=HW3.out.1.1.set_off HG4.out (fun h=>(HW3.out.1.2 pb h).elim HI.out.1.np (fun h=>by have:=HI.out.1.blk.lt; omega))
     have hnf:∀ g,g < wr.heap.size → ¬ F g → ¬ F' g:=fun g hg hn h=>(HW3.out.1.2 g h).elim hn (by omega)
     have hpl:=HI.out.1.blk.lt
     have hsl:=HI.out.1.sblk.lt
     refine ⟨.inr ⟨a,ha2.1,ha2.2,hfree.out,.inr ⟨HBO.out,rfl,F',?_,fun j h=>(HW3.out.1.2 j h).imp id (fun h=>Nat.le_trans HI.out.2.2.size h)⟩⟩,?_⟩
     ·exact {
       sec:=(hs4.set_off (gby_set _ _ _ _) (hnf sb hsl HI.out.1.ns)).set_off (gby_set _ _ _ _) (hnf pb hpl HI.out.1.np)
       blk:=HB5.out.set_ 4 _
       sblk:=by
        have:=Blk.far (Blk.set_ HS4.out a (.int .u8 1)) (p:=⟨pb,4,none⟩) (fun e=>HI.out.1.ne e.symm) (.int .i64 ((a:Int) - 1))
        rw [show (Value.int .u8 1) = u8v 1 from rfl,cs8_set] at this
        exact this
       len:=by rw [List.length_set]; exact HI.out.1.len
       h4:=HI.out.1.h4
       np:=hnf pb hpl HI.out.1.np
       ns:=hnf sb hsl HI.out.1.ns
       hsq:=HI.out.1.hsq
       hrt:=HI.out.1.hrt
       hfr:=by omega }
     ·exact (Fr.low HI.out.2.2).trans (((HW3.out.2.up (fun _ h=>.inl h)).trans ((Fr.of_pb HG4.out).trans ((Fr.of_grown (F:=PF F pb sb) (gby_set _ sb _ _) (fun k e=>by injection e with e; exact .inr (.inr e.symm))).trans (Fr.of_pb (gby_set _ pb _ _)) (fun _ _ h=>h)) (fun _ _ h=>h)) (fun j _ h=>h)).trans (Fr.refl _ _) (fun _ _ h=>h)) (fun _ _ h=>h)
    ·have HBO:=hide hbo
     clear hbo
     go_wp2_with (first | (go_at_call 66; (refine (did_any pb db sb n seq root f 15 w3 (HW3.out.2.blk HI.out.1.blk HI.out.1.np)).mono ?_); rintro e w4 ⟨rfl,hk,hg⟩; have HK4:=hide hk; have HG4:=hide hg; have HS4:=hide (hg.block sb (HW3.out.2.blk HI.out.1.sblk HI.out.1.ns).lt (fun e=>HI.out.1.ne (by injection e with e; exact e.symm)) |>.trans (HW3.out.2.blk HI.out.1.sblk HI.out.1.ns)); have k4:=hk.cell; have q4:=hk.frozen; have z4:=hk.lt; have zs4:=Blk.lt HS4.out; have qs4:=Blk.frozen HS4.out; have kc4:w4.cell? ⟨sb,a,none⟩ = some (.int .u8 (x.toNat:Int)):=(Blk.cell HS4.out a).trans ((HI.out.1.sblk.cell a).symm.trans hcs); have HB5:=hide (Blk.far hk (p:=⟨sb,a,none⟩) HI.out.1.ne (.int .u8 1)); have k5:=HB5.out.cell; have q5:=HB5.out.frozen; have z5:=HB5.out.lt; unfold pk at k4 k5; clear hk hg kx qx zx hcs qxs zxs) | (go_at_call 96; (refine (sec_wr HI.out.1.sec (a:Int) (sealC 2 d) v2 _ HI.out.2.1 (by omega) HNN.out).mono ?_); rw [HBO.out]; rintro e w3 ⟨rfl,⟨F',hs,hF⟩,hfr⟩; have HW3:=hide (And.intro (And.intro hs hF) hfr); clear hs hF hfr))
     refine bodyPost_ret (v:=.tuple #[.int .i64 0,.int .i64 15]) (by simp [results,Try.results75,go_sem]) rfl ?_
     have hs4:=HW3.out.1.1.set_off HG4.out (fun h=>(HW3.out.1.2 pb h).elim HI.out.1.np (fun h=>by have:=HI.out.1.blk.lt; omega))
     refine ⟨.inr ⟨a,ha2.1,ha2.2,hfree.out,.inl ⟨HBO.out,rfl,F',hs4,fun j h=>(HW3.out.1.2 j h).imp id (fun h=>Nat.le_trans HI.out.2.2.size h)⟩⟩,?_⟩
     exact (Fr.low HI.out.2.2).trans ((HW3.out.2.up (fun _ h=>.inl h)).trans (Fr.of_pb HG4.out) (fun _ _ h=>h)) (fun _ _ h=>h)
  ·have e:k = n - 2:=by omega
   subst e
   go_wp2
   refine bodyPost_ret (v:=.tuple #[.int .i64 0,.int .i64 16]) (by simp [results,Try.results75,go_sem]) rfl ⟨.inl ⟨rfl,at_all HH4.out HI.out.1.len HA.out,HI.out.1⟩,Fr.low HI.out.2.2⟩
end
end Go.Proofs.Ytkolacaceaamoaa
/- The pager: Use and Free. -/
namespace Go.Proofs.Ytkolacaceaamoaa
open Go.RowKit
def useU (x:UInt8):UInt8:=if x.toNat == 1 then x else 2
def freeU (x:UInt8):UInt8:=if x.toNat == 1 then 0 else if x.toNat == 2 then 3 else x
def updN (u:UInt8 → UInt8) (st:Cn) (x:Int):Cn:=st.set x.toNat (u (st.getD x.toNat 0))
theorem updN_len (u:UInt8 → UInt8) (st:Cn) (x:Int):(updN u st x).length = st.length:=List.length_set ..
abbrev TPP:TypeId:=24
section
variable {w w':World} {F:Nat → Prop} {pb sb db n:Nat} {left:Int} {S:Int → Cn} {L:List (Int × Cn)} {N:Nat} {seq root frm:Int} {st:Cn}
theorem Pg.state (h:Pg w F pb sb db n left S L N seq root frm st) {st':Cn} (hg:w.grownBy w' (some sb)) (hB:Blk w' sb T8 (cs8 st').toArray) (hl:st'.length = st.length):Pg w' F pb sb db n left S L N seq root frm st':=
 { h with sec:=h.sec.set_off hg h.ns,blk:=h.blk.grown hg (fun e=>h.ne (by injection e with e)),sblk:=hB,len:=hl.trans h.len }
theorem Pg.cell (h:Pg w F pb sb db n left S L N seq root frm st) (a:Nat) (ha:a < n):w.cell? ⟨sb,a,none⟩ = some (.int .u8 ((st.getD a 0).toNat:Int)):=by
 have hl:a < st.length:=by rw [h.len]; exact ha
 rw [h.sblk.cell,List.getElem?_toArray,cs8_get,List.getElem?_eq_getElem hl,List.getD_eq_getElem?_getD,List.getElem?_eq_getElem hl]
 rfl
theorem Pg.stored (h:Pg w F pb sb db n left S L N seq root frm st) (a:Nat) (x:UInt8):Pg (w.setCell ⟨sb,a,none⟩ (u8v x)) F pb sb db n left S L N seq root frm (st.set a x):=
 h.state (gby_set _ _ _ _) (by rw [← cs8_set]; exact h.sblk.set_ a _) (List.length_set ..)
theorem set_same (st:Cn) (a:Nat):st.set a (st.getD a 0) = st:=by
 apply List.ext_getElem?
 intro i
 rw [List.getElem?_set]
 split
 ·next h=>
  subst h
  split
  ·next h=>rw [List.getD_eq_getElem?_getD,List.getElem?_eq_getElem h]; rfl
  ·next h=>rw [List.getElem?_eq_none (by omega)]
 ·rfl
theorem gby_refl (w:World) (r:Option Nat):w.grownBy w r:=⟨rfl,rfl,rfl,Nat.le_refl _,fun _ _ _=>rfl⟩
set_option maxHeartbeats 1000000 in
theorem free_one (h:Pg w F pb sb db n left S L N seq root frm st) (a:Nat) (ha:a < n) (bx:Nat) (hb:Blk w bx TPP #[.pointer (some ⟨pb,0,none⟩)]) :
  Calls Try.prog 61 #[.int .i64 a,.pointer (some ⟨bx,0,none⟩)] w fun e w'=>e = .returned (.tuple #[]) ∧ Pg w' F pb sb db n left S L N seq root frm (updN freeU st a) ∧ w.grownBy w' (some sb):=by
 have HP:=hide h
 have HBX:=hide hb
 have kp:=h.blk.cell; have qp:=h.blk.frozen; have zp:=h.blk.lt
 have kb:=hb.cell; have qb:=hb.frozen; have zb:=hb.lt
 have ks:=h.cell a ha; have qs:=h.sblk.frozen; have zs:=h.sblk.lt
 have hn:=h.hn
 unfold pk at kp
 obtain ⟨x,hx⟩:∃ x,st.getD a 0 = x:=⟨_,rfl⟩
 have HU:=hide (show ∀ u:UInt8 → UInt8,updN u st (a:Int) = st.set a (u x) from fun u=>by unfold updN; rw [Int.toNat_natCast,hx])
 have HSM:=hide (show st.set a x = st by rw [← hx]; exact set_same st a)
 rw [hx] at ks
 clear hx h hb
 cases hd:(x.toNat == 1)
 ·have HD:=hide hd
  have d1:((x.toNat:Int) == 1) = false:=by simp at hd ⊢; omega
  clear hd
  cases hd:(x.toNat == 2)
  ·have HD2:=hide hd
   have d2:((x.toNat:Int) == 2) = false:=by simp at hd ⊢; omega
   clear hd
   go_enter Try.func61,Try.ntmps61
   go_wp2_with fail
   go_end0
   exact ⟨rfl,by rw [HU.out,show freeU x = x by unfold freeU; rw [HD.out,HD2.out]; rfl,HSM.out]; exact HP.out,gby_refl _ _⟩
  ·have HD2:=hide hd
   have d2:((x.toNat:Int) == 2) = true:=by simp at hd ⊢; omega
   clear hd
   go_enter Try.func61,Try.ntmps61
   go_wp2_with fail
   go_end0
   exact ⟨rfl,by rw [HU.out,show freeU x = 3 by unfold freeU; rw [HD.out,HD2.out]; rfl]; exact HP.out.stored a 3,gby_set _ _ _ _⟩
 ·have HD:=hide hd
  have d1:((x.toNat:Int) == 1) = true:=by simp at hd ⊢; omega
  clear hd
  go_enter Try.func61,Try.ntmps61
  go_wp2_with fail
  go_end0
  exact ⟨rfl,by rw [HU.out,show freeU x = 0 by unfold freeU; rw [HD.out]; rfl]; exact HP.out.stored a 0,gby_set _ _ _ _⟩
end
end Go.Proofs.Ytkolacaceaamoaa
/- The pager: each; Use and Free of some pages. -/
namespace Go.Proofs.Ytkolacaceaamoaa
open Go.RowKit
/-- A slice of pages' numbers. -/
def NB (w:World) (B:Nat) (A:Option Addr) (m:Nat) (xs:List Int):Prop:=Reads w B 1 A m (xs.map (fun x=>Value.int .i64 x))
theorem NB.below {w w':World} {B:Nat} {A:Option Addr} {m:Nat} {xs:List Int} (h:NB w B A m xs) (hb:Below B w w'):NB w' B A m xs:=Reads.below h hb
theorem NB.len {w:World} {B:Nat} {A:Option Addr} {m:Nat} {xs:List Int} (h:NB w B A m xs):xs.length = m:=by have:=h.1; rw [List.length_map] at this; omega
theorem NB.at_ {w:World} {B:Nat} {A:Option Addr} {m:Nat} {xs:List Int} (h:NB w B A m xs) {k:Nat} (hk:k < m) (hl:k < xs.length):∃ ad,A = some ad ∧ ad.block < B ∧ w.cell? (ad.add k) = some (.int .i64 xs[k]):=by
 obtain ⟨ad,u,e,hb,hu,hc⟩:=Reads.at_ h hk
 refine ⟨ad,e,hb,?_⟩
 rw [List.getElem?_map,List.getElem?_eq_getElem hl] at hu
 injection hu with hu
 rw [hc,← hu]
theorem cell_heap {w w':World} {p:Addr} (h:w'.heap[p.block]? = w.heap[p.block]?):w'.cell? p = w.cell? p:=by unfold World.cell?; rw [h]
theorem NB.far {w w':World} {F:Nat → Prop} {A:Option Addr} {m:Nat} {xs:List Int} (h:NB w w.heap.size A m xs) (hf:Fr F w w') (ha:∀ ad,A = some ad → ¬ F ad.block):NB w' w.heap.size A m xs:=by
 refine ⟨h.1,fun h0=>?_⟩
 obtain ⟨ad,e,hb,hc⟩:=h.2 h0
 refine ⟨ad,e,hb,fun j u hu=>?_⟩
 have e':(ad.add j).block = ad.block:=by unfold Addr.add; split <;> rfl
 have hh:w'.heap[(ad.add j).block]? = w.heap[(ad.add j).block]?:=by rw [e']; exact hf.block ad.block hb (ha ad e)
 exact (cell_heap hh).trans (hc j u hu)
/-- All pages are the pager's. -/
def allPg (n:Nat) (xs:List Int):Bool:=xs.all (pgB n)
theorem foldl_take {α β:Type} (f:β → α → β) (b:β) (xs:List α) {k:Nat} (h:k < xs.length):(xs.take (k + 1)).foldl f b = f ((xs.take k).foldl f b) xs[k]:=by
 rw [List.take_succ_eq_append_getElem h,List.foldl_append]
 rfl
section
variable {w w':World} {F:Nat → Prop} {pb sb db n:Nat} {left:Int} {S:Int → Cn} {L:List (Int × Cn)} {N:Nat} {seq root frm:Int} {st:Cn}
set_option maxRecDepth 100000 in
set_option maxHeartbeats 1000000 in
theorem each_free (h:Pg w F pb sb db n left S L N seq root frm st) (A:Option Addr) (m c:Nat) (xs:List Int) (hr:NB w w.heap.size A m xs) (hm:m ≤ 2000000000) (hA:∀ ad,A = some ad → ad.block ≠ sb) (hall:allPg n xs = true) (bx:Nat) (hb:Blk w bx TPP #[.pointer (some ⟨pb,0,none⟩)]) :
  Calls Try.prog 60 #[.pointer (some ⟨pb,0,none⟩),.slice A m c,.func (.func 61) #[] #[.pointer (some ⟨bx,0,none⟩)]] w fun e w'=>e = .returned (.int .i64 0) ∧ Pg w' F pb sb db n left S L N seq root frm (xs.foldl (updN freeU) st) ∧ Fr (fun j=>j = sb) w w':=by
 have HP:=hide h
 have HR:=hide hr
 have HL:=hide hr.len
 have HNA:=hide (fun ad (e:A = some ad)=>show ¬ (fun j=>j = sb) ad.block from hA ad e)
 have HBX:=hide hb
 have HNB:=hide (Blk.ne_ hb h.sblk (by decide))
 have HALL:=hide (show ∀ j (hj:j < xs.length),pgB n xs[j] = true from fun j hj=>List.all_eq_true.1 hall _ (List.getElem_mem hj))
 clear h hr hb hA hall
 go_enter Try.func60,Try.ntmps60
 go_wp2_with (go_at_call 65; (refine (alive_ok HP.out.sec HP.out.blk).mono ?_); rintro e w1 ⟨rfl,hb⟩; have HB1:=hide hb; clear hb)
 go_loopw [19] (fun i wr=>∃ k:Nat,k ≤ m ∧ i = .int .i64 k ∧ Hid (Below w.heap.size w wr)) (fun i _=>m - (intOf i).toNat)
 case atStart=>exact ⟨0,by omega,rfl,HB1⟩
 case round=>
  obtain ⟨k,hk,rfl,HI⟩:=hrel
  by_cases hlt:k < m
  ·have hlx:k < xs.length:=by rw [HL.out]; exact hlt
   obtain ⟨ad,rfl,hab,hac⟩:=(HR.out.below HI.out).at_ hlt hlx
   have had:(ad.add k).block < wr.heap.size:=by have e':(ad.add k).block = ad.block:=by { unfold Addr.add; split <;> rfl }; rw [e']; exact Nat.lt_of_lt_of_le hab HI.out.size
   have HPB:=hide (HALL.out k hlx)
   obtain ⟨x,hx⟩:∃ x,xs[k]'hlx = x:=⟨_,rfl⟩
   rw [hx] at hac HPB
   clear hx
   go_wp2_with (go_at_call 41; (refine (page_any pb db sb n seq root frm false x wr (HP.out.below HI.out).blk).mono ?_); rintro e w2 ⟨rfl,hb⟩; rw [HPB.out]; have HB2:=hide (HI.out.trans (hb.mono HI.out.size)); clear hb)
   go_roundw
   case rel=>exact ⟨k + 1,by omega,by go_num,HB2⟩
   case measure=>simp [intOf]; omega
  ·have e:k = m:=by omega
   subst e
   go_wp2
   have HI0:=hide (And.intro (HP.out.below HI.out) (Fr.of_below (F:=fun j=>j = sb) HI.out))
   clear HI
   go_loopw [30] (fun i wr=>∃ k2:Nat,k2 ≤ k ∧ i = .int .i64 k2 ∧ Hid (Pg wr F pb sb db n left S L N seq root frm ((xs.take k2).foldl (updN freeU) st) ∧ Fr (fun j=>j = sb) w wr)) (fun i _=>k - (intOf i).toNat)
   case atStart=>exact ⟨0,by omega,rfl,HI0⟩
   case round=>
    obtain ⟨k2,hk2,rfl,HJ⟩:=hrel
    by_cases hlt2:k2 < k
    ·have hlx:k2 < xs.length:=by rw [HL.out]; exact hlt2
     obtain ⟨ad,rfl,hab,hac⟩:=(HR.out.far HJ.out.2 HNA.out).at_ hlt2 hlx
     have had:(ad.add k2).block < wr.heap.size:=by have e':(ad.add k2).block = ad.block:=by { unfold Addr.add; split <;> rfl }; rw [e']; exact Nat.lt_of_lt_of_le hab HJ.out.2.size
     have hPB:=HALL.out k2 hlx
     have HST:=hide (foldl_take (updN freeU) st xs hlx)
     obtain ⟨x,hx⟩:∃ x,xs[k2]'hlx = x:=⟨_,rfl⟩
     rw [hx] at hac hPB HST
     obtain ⟨a,ha,hax⟩:∃ a:Nat,a < n ∧ x = a:=by unfold pgB at hPB; simp at hPB; exact ⟨x.toNat,by omega,by omega⟩
     subst hax
     obtain ⟨st1,hst⟩:∃ st1,(xs.take k2).foldl (updN freeU) st = st1:=⟨_,rfl⟩
     rw [hst] at HJ HST
     have HBX2:=hide (HJ.out.2.blk HBX.out HNB.out)
     clear hx hPB hst
     go_wp2_with (go_at_call 61; (refine (free_one HJ.out.1 a ha bx HBX2.out).mono ?_); rintro e w3 ⟨rfl,hp,hg⟩; have HK:=hide (And.intro hp (HJ.out.2.trans (Fr.of_grown (F:=fun j=>j = sb) hg (fun k e=>by injection e with e; exact e.symm)) (fun _ _ h=>h))); clear hp hg)
     go_roundw
     case rel=>exact ⟨k2 + 1,by omega,by go_num,by rw [HST.out]; exact HK⟩
     case measure=>simp [intOf]; omega
    ·have e:k2 = k:=by omega
     subst e
     go_wp2
     go_ret
     have:=HJ.out
     rw [List.take_of_length_le (by rw [HL.out]; exact Nat.le_refl _)] at this
     exact ⟨rfl,this⟩
theorem pfree_ok (h:Pg w F pb sb db n left S L N seq root frm st) (A:Option Addr) (m c:Nat) (xs:List Int) (hr:NB w w.heap.size A m xs) (hm:m ≤ 2000000000) (hA:∀ ad,A = some ad → ad.block ≠ sb) (hall:allPg n xs = true) :
  Calls Try.prog 35 #[.pointer (some ⟨pb,0,none⟩),.slice A m c] w fun e w'=>e = .returned (.int .i64 0) ∧ Pg w' F pb sb db n left S L N seq root frm (xs.foldl (updN freeU) st) ∧ Fr (fun j=>j = sb) w w':=by
 have HC:=hide (each_free (h.below ((Below.refl w.heap.size w).alloc (Nat.le_refl _) (.cells #[.pointer (some ⟨pb,0,none⟩)] TPP))) A m c xs ((hr.below ((Below.refl w.heap.size w).alloc (Nat.le_refl _) (.cells #[.pointer (some ⟨pb,0,none⟩)] TPP))).more (by simp)) hm hA hall w.heap.size (Blk.new _ _ _))
 clear h hr
 go_enter Try.func35,Try.ntmps35
 go_wp2_with (go_at_call 60; (refine HC.out.mono ?_); rintro e w2 ⟨rfl,hp,hf⟩; have HK:=hide (And.intro hp ((Fr.low ((Below.refl w.heap.size w).alloc (Nat.le_refl _) (.cells #[.pointer (some ⟨pb,0,none⟩)] TPP))).trans hf (fun _ _ h=>h))); clear hp hf)
 go_ret
 exact ⟨rfl,HK.out⟩
end
end Go.Proofs.Ytkolacaceaamoaa
/- The pager: what Flip rests on. -/
namespace Go.Proofs.Ytkolacaceaamoaa
open Go.RowKit
def flipU (x:UInt8):UInt8:=if x.toNat == 1 then 2 else if x.toNat == 3 then 0 else x
/-- The states, the first k of them turned. -/
def mixF (st:Cn) (k:Nat):Cn:=(st.take k).map flipU ++ st.drop k
section
variable {w w':World} {F:Nat → Prop} {pb sb db n:Nat} {left:Int} {S:Int → Cn} {L:List (Int × Cn)} {N:Nat} {seq root frm:Int} {st:Cn}
/-- May a root be r? -/
def rootOk (n:Nat) (st:Cn) (r:Nat):Bool:=r == 0 || (pgB n r && !((st.getD r 0).toNat == 0) && !((st.getD r 0).toNat == 3))
/-- What Flip does. -/
def FlipR (w:World) (F:Nat → Prop) (pb sb db n:Nat) (left:Int) (S:Int → Cn) (L:List (Int × Cn)) (N:Nat) (q:Nat) (frm:Int) (st:Cn) (r:Nat) (e:Ending) (w':World):Prop:=
 (0 < left ∧ e = .returned (.int .i64 15) ∧ ∃ F' left' S' L',Sec w' F' db true left' (n:Int) S' L' (N + 1) ∧ Grw F w F' ∧
  ((S' = S ∧ L' = L) ∨ (S' = lastS allT S L ∧ (L' = [] ∨ L' = [((((q + 1) % 2:Nat):Int),rootC (q + 1) r)])))) ∨
 (e = .returned (.int .i64 0) ∧ ∃ F',Pg w' F' pb sb db n (burnL (burnL (burnL left))) (upd (lastS allT S L) ((q + 1) % 2:Nat) (rootC (q + 1) r)) [] (N + 1) ((q + 1:Nat):Int) r frm (st.map flipU) ∧ Grw F w F')
end
end Go.Proofs.Ytkolacaceaamoaa
/- The pager: Flip. -/
namespace Go.Proofs.Ytkolacaceaamoaa
open Go.RowKit
section
variable {w w':World} {F:Nat → Prop} {pb sb db n q:Nat} {left:Int} {S:Int → Cn} {L:List (Int × Cn)} {N:Nat} {root frm:Int} {st:Cn}
/-- Behind the write of a root. -/
def WrS (w0 w':World) (F:Nat → Prop) (db n:Nat) (b:Bool) (left:Int) (S:Int → Cn) (a:Int) (c:Cn) (N:Nat):Prop:=
 Fr F w0 w' ∧ ∃ F',Sec w' F' db b (burnL left) (n:Int) S (if b then [] else [(a,c)]) (N + 1) ∧ Grw F w0 F'
def WrD (w0 w':World) (F:Nat → Prop) (pb sb db n:Nat) (b:Bool) (left:Int) (S:Int → Cn) (a:Int) (c:Cn) (N:Nat) (seq root frm:Int):Prop:=
 ∃ w8,WrS w0 w8 F db n b left S a c N ∧ Blk w' pb TP (pk db sb n seq root frm b) ∧ w8.grownBy w' (some pb)
end
end Go.Proofs.Ytkolacaceaamoaa
/- The pager's statements: a fresh pager, and what each statement asks first. -/
namespace Go.Proofs.Ytkolacaceaamoaa
open Go.RowKit
abbrev TI:TypeId:=3
/-- A text of bytes. -/
def bstr (l:Cn):Value:=.string ⟨l.toArray⟩
theorem now_nil (S:Int → Cn) (k:Int):nowC S [] k = S k:=rfl
theorem opn_zero (n:Nat):∀ k,opnK n (fun _=>zC) [] k = (0,0)
 | 0=>rfl
 | k + 1=>by
  unfold opnK
  rw [opn_zero n k,now_nil]
  unfold opnF
  rw [zero_sup]
  rfl
theorem opnK_root (n:Nat) (hn:4 ≤ n) (S:Int → Cn) (L:List (Int × Cn)):∀ k,0 ≤ (opnK n S L k).1 ∧ 0 ≤ (opnK n S L k).2 ∧ (opnK n S L k).2 < n
 | 0=>by unfold opnK; simp; omega
 | k + 1=>by
  have:=opnK_root n hn S L k
  unfold opnK opnF
  split
  ·next h=>
   simp only [Bool.and_eq_true,Bool.or_eq_true,beq_iff_eq] at h
   refine ⟨by simp,by simp,?_⟩
   rcases h.2 with h | h
   ·simp only [h]; omega
   ·unfold pgB at h; simp at h ⊢; omega
  ·exact this
section
variable {w w':World} {F:Nat → Prop} {pb sb db n:Nat} {left:Int} {S:Int → Cn} {L:List (Int × Cn)} {N:Nat} {seq root frm:Int} {st:Cn}
/-- A disk is opened. -/
theorem popen_pg (h:Sec w F db false left (n:Int) S L N) (h4:4 ≤ n) (hs:(opnK n S L 2).1 < 4000000000) :
  Calls Try.prog 20 #[.pointer (some ⟨db,0,none⟩)] w fun e w'=>(∃ pb sb,e = .returned (.tuple #[.pointer (some ⟨pb,0,none⟩),.int .i64 0]) ∧ w.heap.size ≤ pb ∧ w.heap.size ≤ sb ∧ Pg w' F pb sb db n left S L N (opnK n S L 2).1 (opnK n S L 2).2 0 (zeroSt n)) ∧ Below w.heap.size w w':=by
 refine (popen_ok h h4).mono ?_
 rintro e w' ⟨pb,sb,rfl,h1,h2,h3,h5,hb⟩
 have hr:=opnK_root n h4 S L 2
 refine ⟨⟨pb,sb,rfl,h1,h2,{ sec:=h.below hb,blk:=h3,sblk:=h5,len:=List.length_replicate,h4:=h4,np:=fun hp=>?_,ns:=fun hp=>?_,hsq:=⟨hr.1,hs⟩,hrt:=hr.2,hfr:=by omega }⟩,hb⟩
 ·have:=h.lt _ hp; omega
 ·have:=h.lt _ hp; omega
/-- A new disk is opened. -/
theorem popen_new (h:Sec w F db false 0 (n:Int) (fun _=>zC) [] 0) (h4:4 ≤ n) :
  Calls Try.prog 20 #[.pointer (some ⟨db,0,none⟩)] w fun e w'=>(∃ pb sb,e = .returned (.tuple #[.pointer (some ⟨pb,0,none⟩),.int .i64 0]) ∧ w.heap.size ≤ pb ∧ w.heap.size ≤ sb ∧ Pg w' F pb sb db n 0 (fun _=>zC) [] 0 0 0 0 (zeroSt n)) ∧ Below w.heap.size w w':=by
 have:=popen_pg h h4 (by rw [opn_zero]; omega)
 rw [opn_zero] at this
 exact this
end
end Go.Proofs.Ytkolacaceaamoaa
/- The pager's statements: what each asks first (answers). -/
namespace Go.Proofs.Ytkolacaceaamoaa
open Go.RowKit
section
variable {w w':World} {F:Nat → Prop} {pb sb db n:Nat} {left:Int} {S:Int → Cn} {L:List (Int × Cn)} {N:Nat} {seq root frm:Int} {st:Cn}
end
end Go.Proofs.Ytkolacaceaamoaa
/- The roots that stand on a disk, and what Open makes of them. -/
namespace Go.Proofs.Ytkolacaceaamoaa
open Go.RowKit
/-- What stands on the disk is a root's number and page, and an elder one at most. -/
def RI (n:Nat) (C:Int → Cn) (q r:Nat):Prop:=
 (r = 0 ∨ pgB n (r:Int) = true) ∧ ((0 < q ∧ supC (C ((q % 2:Nat):Int)) = true ∧ supS (C ((q % 2:Nat):Int)) = q ∧ supR (C ((q % 2:Nat):Int)) = r) ∨ (q = 0 ∧ r = 0 ∧ supC (C 0) = false)) ∧
 (supC (C (((q + 1) % 2:Nat):Int)) = true → supS (C (((q + 1) % 2:Nat):Int)) < q)
theorem al_below (w:World) (o:Obj):Below w.heap.size w (w.alloc o):=(Below.refl w.heap.size w).alloc (Nat.le_refl _) o
end Go.Proofs.Ytkolacaceaamoaa
