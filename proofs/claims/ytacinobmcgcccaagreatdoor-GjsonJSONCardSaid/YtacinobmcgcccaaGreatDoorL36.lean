/- The reference: Area. -/
import Derived.Test.YtacinobmcgcccaaGreatDoorL31
import Derived.Test.YtacinobmcgcccaaGreatDoorL11
import Derived.Test.YtacinobmcgcccaaGreatDoorL34
import Derived.Test.YtacinobmcgcccaaGreatDoorL35
import Derived.Test.YtacinobmcgcccaaGreatDoorL05
import Derived.Test.YtacinobmcgcccaaGreatDoorL07
import Derived.Test.YtacinobmcgcccaaGreatDoorL04
set_option linter.unusedSimpArgs false
set_option linter.unusedVariables false
namespace Go.Proofs.YtacinobmcgcccaaGreatDoor
open Go.RowKit Go.Shelf
def crossS (r:List Pt) (k:Nat):Int:=(((edgesL r).take k).map fun e=>crossV ⟨0,0⟩ e.a e.b).sum
theorem crossS_bound {r:List Pt} (hg:goodAll r=true) (hn:r.length≤128) (k:Nat):inr (crossS r k):=by
 have h:=sum_bound (fun e:Eg=>crossV ⟨0,0⟩ e.a e.b) 4611686018427387904 (by decide) ((edgesL r).take k) (fun e he=>cross_bound (by decide) (good_mem hg (edge_good hg (List.mem_of_mem_take he)).1) (good_mem hg (edge_good hg (List.mem_of_mem_take he)).2));have hl:((edgesL r).take k).length≤128:=by rw [List.length_take,edges_len];omega
 have:((((edgesL r).take k).length:Nat):Int) * 4611686018427387904≤590295810358705651712:=by omega
 unfold inr crossS;omega
theorem crossS_step {r:List Pt} {k:Nat} (h:k<r.length):crossS r (k+1)=crossS r k+crossV ⟨0,0⟩ (edgeAt r k).a (edgeAt r k).b:=by
 have h2:k<(edgesL r).length:=by rw [edges_len];exact h
 unfold crossS;rw [List.take_succ_eq_append_getElem h2,List.map_append,List.sum_append,edges_at h2];simp
theorem crossS_all (r:List Pt):crossS r r.length=areaV r:=by
 unfold crossS areaV;rw [List.take_of_length_le (by rw [edges_len];exact Nat.le_refl _)]
theorem cross_form (p q:Pt):p.x * q.y - p.y * q.x=crossV ⟨0,0⟩ p q:=by
 unfold crossV;simp
abbrev TInt:TypeId:=80
set_option maxRecDepth 100000 in
set_option maxHeartbeats 4000000 in
theorem rarea_any (r:List Pt) (A:Option Addr) (n c:Nat) (w:World) (hr:PR w w.heap.size A n r) (hn:n≤8796093022208) :
 Calls Tryz.prog 36 #[.slice A n c] w fun e w'=>e=.returned (.tuple #[.agg #[.int .i64 (areaI r).hi,.int .u64 (areaI r).lo],.int .i64 (areaE r)])∧Below w.heap.size w w':=by
 have hlen:=hr.1;obtain ⟨w1,hw1⟩:∃ q,w.alloc (.cells #[.int .i64 0,.int .u64 0] TInt)=q:=⟨_,rfl⟩;have HB1:=hide (show Below w.heap.size w w1 from hw1 ▸ bal bR _);have hk1:Blk w1 w.heap.size TInt #[.int .i64 0,.int .u64 0]:=hw1 ▸ Blk.new _ _ _;have HK1:=hide hk1;have HR1:=hide (hr.later HB1.out);have HR0:=hide hr;have HG:=hide (rgood_any r A n c w1 HR1.out (by omega));have HW1:=hide hw1;have kc:=hk1.cell;have fc:=hk1.frozen;have zc:=hk1.lt;clear hw1 hk1 hr;by_cases hbig:128<n
 ·have hbI:(128:Int)<n:=by omega
  have HA:=hide (show areaE r=12 from by unfold areaE;rw [if_pos (by omega)]);have HAI:=hide (show areaI r=⟨0,0⟩ from by unfold areaI;rw [HA.out];rfl);clear hlen
  go_enter Tryz.func36,Tryz.ntmps36
  go_upto_region 1 with fail
  rw [HW1.out];go_wp2_with fail
  refine bodyPost_ret (v:=.tuple #[.agg #[.int .i64 0,.int .u64 0],.int .i64 12]) (by simp (maxDischargeDepth:=9) [results,Tryz.results36,go_sem,kc,zc];done) rfl ⟨by rw [HA.out,HAI.out],?_⟩;exact (HB1.out.setCell (p:=⟨w.heap.size,0,none⟩) (Nat.le_refl _) _).setCell (p:=⟨w.heap.size,1,none⟩) (Nat.le_refl _) _
 ·have hbI:¬ (128:Int)<n:=by omega
  cases hg:goodAll r
  ·have HA:=hide (show areaE r=3 from by unfold areaE;rw [if_neg (by omega),hg];rfl);have HAI:=hide (show areaI r=⟨0,0⟩ from by unfold areaI;rw [HA.out];rfl);rw [hg] at HG;clear hlen hg
   go_enter Tryz.func36,Tryz.ntmps36
   go_upto_region 1 with fail
   rw [HW1.out];go_wp2_with (go_at_call 80;(refine HG.out.mono ?_);rintro e w2 ⟨rfl,hb2⟩;have HB2:=hide hb2;have hk2:=HK1.out.below hb2 HK1.out.lt;clear kc fc zc;have kc:=hk2.cell;have fc:=hk2.frozen;have zc:=hk2.lt;clear hk2 hb2)
   refine bodyPost_ret (v:=.tuple #[.agg #[.int .i64 0,.int .u64 0],.int .i64 3]) (by simp (maxDischargeDepth:=9) [results,Tryz.results36,go_sem,kc,zc];done) rfl ⟨by rw [HA.out,HAI.out],?_⟩;exact ((btr HB1.out HB2.out).setCell (p:=⟨w.heap.size,0,none⟩) (Nat.le_refl _) _).setCell (p:=⟨w.heap.size,1,none⟩) (Nat.le_refl _) _
  ·have HA:=hide (show areaE r=0 from by unfold areaE;rw [if_neg (by omega),hg];rfl);have HAI:=hide (show areaI r=two (areaV r) from by unfold areaI;rw [HA.out];rfl);have HGD:=hide hg;have HLEN:=hide hlen;rw [hg] at HG;have hn128:n≤128:=by omega
   clear hlen hg
   go_enter Tryz.func36,Tryz.ntmps36
   go_upto_region 1 with fail
   rw [HW1.out];go_upto_region 5 with (go_at_call 80;(refine HG.out.mono ?_);rintro e w2 ⟨rfl,hb2⟩;have HB2:=hide hb2;have hk2:=HK1.out.below hb2 HK1.out.lt;clear kc fc zc;have HK2:=hide hk2;have HR2:=hide (HR1.out.later hb2);clear hk2 hb2)
   obtain ⟨w3,hw3⟩:∃ q,w2.alloc (.cells #[.int .i64 0,.int .u64 0] TInt)=q:=⟨_,rfl⟩;obtain ⟨g4,hg4⟩:∃ g,w2.heap.size=g:=⟨_,rfl⟩;have HB3:=hide (show Below w2.heap.size w2 w3 from hw3 ▸ bal bR _);have HK3:=hide (HK2.out.below HB3.out HK2.out.lt);have HS3:=hide (show Blk w3 g4 TInt #[.int .i64 0,.int .u64 0] from hg4 ▸ hw3 ▸ Blk.new _ _ _);have hne:w.heap.size<g4:=by have:=HK2.out.lt;omega
   have HGS:=hide (show g4<w3.heap.size from HS3.out.lt);have HR3:=hide (HR2.out.later HB3.out);have HB03:=hide (btr (btr HB1.out HB2.out) HB3.out);have HW3:=hide hw3;have HG4:=hide hg4;clear hw3 hg4;go_upto_region 6 with fail
   rw [HW3.out,HG4.out];go_wp2_with fail
   go_loopw [5] (fun v5 wr=>∃ (k:Nat),v5=.int .i64 (k:Int)∧k≤n∧Hid (Below w.heap.size w wr∧Blk wr w.heap.size TInt #[.int .i64 0,.int .u64 0]∧Blk wr g4 TInt #[.int .i64 (two (crossS r k)).hi,.int .u64 (two (crossS r k)).lo])) (fun v _=>n - (intOf v).toNat)
   case atStart=>exact ⟨0,rfl,by omega,hide ⟨HB03.out,HK3.out,HS3.out⟩⟩
   case round=>
    obtain ⟨k,rfl,hkn,HI⟩:=hrel;by_cases hlt:k<n
    ·have hltI:(k:Int)<n:=by omega
     have hkr:k<r.length:=by rw [HLEN.out];exact hlt
     obtain ⟨k2,hk2⟩:∃ q,(k+1) % n=q:=⟨_,rfl⟩;have hk2n:k2<n:=by rw [← hk2];exact Nat.mod_lt _ (by omega)
     have hk2r:k2<r.length:=by rw [HLEN.out];exact hk2n
     have ek:Int.tmod ((k:Int)+1) (n:Int)=(k2:Int):=by
      rw [← hk2,Int.tmod_eq_emod_of_nonneg (by omega)]
      push_cast
      rfl
     have hk2I:(k2:Int)<n:=by omega
     have hST:=crossS_step hkr;have hE:edgeAt r k=⟨r[k],r[k2]⟩:=by
      unfold edgeAt;simp only [HLEN.out,hk2];rw [List.getD_eq_getElem?_getD,List.getElem?_eq_getElem hkr,List.getD_eq_getElem?_getD,List.getElem?_eq_getElem hk2r];rfl
     rw [hE] at hST;have hgp:=good_mem HGD.out (List.getElem_mem hkr);have hgq:=good_mem HGD.out (List.getElem_mem hk2r);have hS0:=crossS_bound HGD.out (by rw [HLEN.out];exact hn128) k;have hS1:=crossS_bound HGD.out (by rw [HLEN.out];exact hn128) (k+1);obtain ⟨b,o,rfl,hb,hcs⟩:=(show PR wr w.heap.size A n r from HR0.out.below HI.out.1).at (show 0<n by omega);obtain ⟨r0,r1⟩:=hcs k hkr;obtain ⟨s0,s1⟩:=hcs k2 hk2r;obtain ⟨p,hp⟩:∃ q,r[k]=q:=⟨_,rfl⟩;obtain ⟨q,hq⟩:∃ q,r[k2]=q:=⟨_,rfl⟩;rw [hp] at r0 r1 hST hgp;rw [hq] at s0 s1 hST hgq;simp only at hST;have hcb:=cross_bound (a:=⟨0,0⟩) (by decide) hgp hgq;obtain ⟨X,hX⟩:∃ X,crossV ⟨0,0⟩ p q=X:=⟨_,rfl⟩;rw [hX] at hST hcb;have hpp:i64ok p.x∧i64ok p.y∧i64ok q.x∧i64ok q.y:=by unfold Pt.good at hgp hgq;unfold i64ok;omega
     have hm1:-4611686018427387904≤p.x * q.y∧p.x * q.y≤4611686018427387904:=by
      unfold Pt.good at hgp hgq;have:=mul_le_sq (u:=p.x) (v:=q.y) (L:=1073741824) (by omega) (by omega) (by omega) (by omega);omega
     have hm2:-4611686018427387904≤p.y * q.x∧p.y * q.x≤4611686018427387904:=by
      unfold Pt.good at hgp hgq;have:=mul_le_sq (u:=p.y) (v:=q.x) (L:=1073741824) (by omega) (by omega) (by omega) (by omega);omega
     have hXe:p.x * q.y - p.y * q.x=X:=by rw [cross_form,hX]
     have HP:=hide hpp;have HMu:=hide (fun w0=>rmul_any p.x q.y w0 hpp.1 hpp.2.2.2);have HMv:=hide (fun w0=>rmul_any p.y q.x w0 hpp.2.1 hpp.2.2.1);obtain ⟨U,hU⟩:∃ U,two (p.x * q.y)=U:=⟨_,rfl⟩;obtain ⟨V,hV⟩:∃ V,two (p.y * q.x)=V:=⟨_,rfl⟩;obtain ⟨C,hC⟩:∃ C,two X=C:=⟨_,rfl⟩;obtain ⟨SS,hSS⟩:∃ SS,two (crossS r k)=SS:=⟨_,rfl⟩;obtain ⟨S1,hS1e⟩:∃ S1,two (crossS r (k+1))=S1:=⟨_,rfl⟩;have HSB:=hide (fun w0=>by
      have h:=rsub_any U V w0 (hU ▸ two_ok (by unfold inr;omega)) (hV ▸ two_ok (by unfold inr;omega));rw [← hU,← hV,two_num,two_num,hXe,(clamp_yes (show inr X from by unfold inr;omega)).1,(clamp_yes (show inr X from by unfold inr;omega)).2,hC,hU,hV] at h;exact h)
     have HAD:=hide (fun w0=>by
      have h:=radd_any SS C w0 (hSS ▸ two_ok hS0) (hC ▸ two_ok (by unfold inr;omega));rw [← hSS,← hC,two_num,two_num,← hST,(clamp_yes hS1).1,(clamp_yes hS1).2,hS1e,hSS,hC] at h;exact h)
     rw [hU] at HMu;rw [hV] at HMv;have HS1:=hide hS1e;have hbr:b<wr.heap.size:=nLl hb HI.out.1.size;have hB4:=HI.out.2.2;rw [hSS] at hB4;obtain ⟨wr2,hwr2⟩:∃ q2,wr.alloc (.cells #[.int .i64 q.x,.int .i64 q.y] 56)=q2:=⟨_,rfl⟩;have hbx:Below wr.heap.size wr wr2:=hwr2 ▸ bal bR _;have HBX:=hide (show Blk wr2 wr.heap.size 56 #[.int .i64 q.x,.int .i64 q.y] from hwr2 ▸ Blk.new _ _ _);have HC:=hide (show ∀ w',Below wr2.heap.size wr2 w'→(w'.cell? ⟨b,o+k * 2,none⟩=some (.int .i64 p.x)∧w'.cell? ⟨b,o+k * 2+1,none⟩=some (.int .i64 p.y))∧b<w'.heap.size from fun w' h=>by
      have hbb:=btr hbx h;exact ⟨⟨(hbb.cell (p:=⟨b,o+k * 2,none⟩) hbr).trans r0,(hbb.cell (p:=⟨b,o+k * 2+1,none⟩) hbr).trans r1⟩,nLl hbr hbb.size⟩)
     have HB4:=hide (hB4.below hbx hB4.lt);have HB0:=hide (HI.out.2.1.below hbx HI.out.2.1.lt);have HBB:=hide (HI.out.1.trans (hbx.mono HI.out.1.size));have HW2:=hide hwr2;clear hcs hp hq hST hE hgp hgq hS0 hS1 hcb hX hpp hm1 hm2 hXe hU hV hC hSS hS1e hB4 hwr2 hbx hk2;go_upto_region 10 with fail
     rw [HW2.out];clear r0 r1 s0 s1;refine wp_region_store (by kernel_rfl) (by kernel_rfl) 59 21
      [⟨0,33,fun v _=>v=.slice (some ⟨b,o,none⟩) n c,fun v _=>v=.slice (some ⟨b,o,none⟩) n c⟩,
       ⟨0,34,fun v _=>v=.int .i64 (k:Int),fun v _=>v=.int .i64 (k:Int)⟩,
       ⟨0,35,fun v _=>v=.pointer (some ⟨b,o+k * 2,none⟩),fun v _=>v=.pointer (some ⟨b,o+k * 2,none⟩)⟩,
       ⟨0,36,fun v _=>v=.pointer (some ⟨b,o+k * 2,none⟩),fun v _=>v=.pointer (some ⟨b,o+k * 2,none⟩)⟩,
       ⟨0,37,fun v _=>v=.int .i64 p.x,fun v _=>v=.int .i64 p.x⟩,
       ⟨0,38,fun v _=>v=.pointer (some ⟨wr.heap.size,1,none⟩),fun v _=>v=.pointer (some ⟨wr.heap.size,1,none⟩)⟩,
       ⟨0,39,fun v _=>v=.int .i64 q.y,fun v _=>v=.int .i64 q.y⟩,
       ⟨0,40,fun v _=>v=.agg #[.int .i64 U.hi,.int .u64 U.lo],fun v _=>v=.agg #[.int .i64 U.hi,.int .u64 U.lo]⟩,
       ⟨0,41,fun v _=>v=.slice (some ⟨b,o,none⟩) n c,fun v _=>v=.slice (some ⟨b,o,none⟩) n c⟩,
       ⟨0,42,fun v _=>v=.int .i64 (k:Int),fun v _=>v=.int .i64 (k:Int)⟩,
       ⟨0,43,fun v _=>v=.pointer (some ⟨b,o+k * 2,none⟩),fun v _=>v=.pointer (some ⟨b,o+k * 2,none⟩)⟩,
       ⟨0,44,fun v _=>v=.pointer (some ⟨b,o+k * 2+1,none⟩),fun v _=>v=.pointer (some ⟨b,o+k * 2+1,none⟩)⟩,
       ⟨0,45,fun v _=>v=.int .i64 p.y,fun v _=>v=.int .i64 p.y⟩,
       ⟨0,46,fun v _=>v=.pointer (some ⟨wr.heap.size,0,none⟩),fun v _=>v=.pointer (some ⟨wr.heap.size,0,none⟩)⟩,
       ⟨0,47,fun v _=>v=.int .i64 q.x,fun v _=>v=.int .i64 q.x⟩,
       ⟨0,48,fun v _=>v=.agg #[.int .i64 V.hi,.int .u64 V.lo],fun v _=>v=.agg #[.int .i64 V.hi,.int .u64 V.lo]⟩,
       ⟨0,49,fun v _=>v=.tuple #[.agg #[.int .i64 C.hi,.int .u64 C.lo],.int .i64 0],fun v _=>v=.tuple #[.agg #[.int .i64 C.hi,.int .u64 C.lo],.int .i64 0]⟩,
       ⟨0,32,fun v _=>v=.tuple #[.agg #[.int .i64 C.hi,.int .u64 C.lo],.int .i64 0],fun v _=>v=.tuple #[.agg #[.int .i64 C.hi,.int .u64 C.lo],.int .i64 0]⟩,
       ⟨0,50,fun v _=>v=.agg #[.int .i64 C.hi,.int .u64 C.lo],fun v _=>v=.agg #[.int .i64 C.hi,.int .u64 C.lo]⟩,
       ⟨1,51,fun v _=>v=.int .i64 0,fun v _=>v=.int .i64 0⟩,
       ⟨0,7,FreshC wr2 (TInt) #[.int .i64 0,.int .u64 0],FreshC wr2 (TInt) #[.int .i64 C.hi,.int .u64 C.lo]⟩,
       ⟨2,0,fun _ _=>True,fun _ _=>True⟩,
       ⟨1,8,fun v _=>v=.int .i64 0,fun v _=>v=.int .i64 0⟩] (St2 7 (.int .i64 C.hi) (.int .u64 C.lo)) [33,34,35,36,37,38,39,40,41,42,43,44,45,46,47,48,49,32,50,51,7,8] rfl (by kernel_rfl) rfl rfl ?_ ?_ ?_ ?_
     ·intro e he hk v w w' _ hb hv;simp only [List.mem_cons,List.not_mem_nil,or_false] at he;rcases he with rfl|rfl|rfl|rfl|rfl|rfl|rfl|rfl|rfl|rfl|rfl|rfl|rfl|rfl|rfl|rfl|rfl|rfl|rfl|rfl|rfl|rfl|rfl
      all_goals first|exact hv|exact FreshC.mono hv hb|exact absurd hk (by decide)
     ·intro e he hk a w w' hst hv;simp only [List.mem_cons,List.not_mem_nil,or_false] at he;rcases he with rfl|rfl|rfl|rfl|rfl|rfl|rfl|rfl|rfl|rfl|rfl|rfl|rfl|rfl|rfl|rfl|rfl|rfl|rfl|rfl|rfl|rfl|rfl
      all_goals first|exact hv|exact FreshC.put2 hst hv|exact trivial|exact absurd hk (by decide)
     ·refine ⟨?_,?_,?_,?_,?_,?_,?_,?_,?_,?_,?_,?_,?_,?_,?_,?_,?_,?_,?_,?_,?_,?_,?_,trivial⟩
      ·intro ac w3 hg hb3 hd K hK;exact op_move _ rfl (hK _ _ bR (hg.kp 0 (by simp)))
      ·intro ac w3 hg hb3 hd K hK;exact op_move _ rfl (hK _ _ bR (hg.kp 5 (by simp)))
      ·intro ac w3 hg hb3 hd K hK;have f0:=hd ⟨0,.data⟩ (by simp) rfl _ rfl rfl;have f1:=hd ⟨1,.data⟩ (by simp) rfl _ rfl rfl;(try simp [Act.eval] at f0);(try simp [Act.eval] at f1);go_simp;exact hK _ _ bR rfl
      ·intro ac w3 hg hb3 hd K hK;have f2:=hd ⟨2,.data⟩ (by simp) rfl _ rfl rfl;(try simp [Act.eval] at f2);go_simp;exact hK _ _ bR rfl
      ·intro ac w3 hg hb3 hd K hK;obtain ⟨⟨x0,x1⟩,x2⟩:=HC.out _ hb3;have f3:=hd ⟨3,.data⟩ (by simp) rfl _ rfl rfl;(try simp [Act.eval] at f3);go_simp;exact hK _ _ bR rfl
      ·intro ac w3 hg hb3 hd K hK;have k6:=hg.kp 6 (by simp);(try simp [Act.eval] at k6);go_simp;exact hK _ _ bR rfl
      ·intro ac w3 hg hb3 hd K hK;have kk:=(HBX.out.below hb3 HBX.out.lt).cell;have zz:=(HBX.out.below hb3 HBX.out.lt).lt;have f5:=hd ⟨5,.data⟩ (by simp) rfl _ rfl rfl;(try simp [Act.eval] at f5);go_simp;exact hK _ _ bR rfl
      ·intro ac w3 hg hb3 hd K hK;have f1:=hd ⟨4,.data⟩ (by simp) rfl _ rfl rfl;have f3:=hd ⟨6,.data⟩ (by simp) rfl _ rfl rfl;simp [Act.eval] at f1 f3;go_simp;refine (HMu.out _).mono ?_;rintro e v4 ⟨rfl,hb4⟩;exact hK _ _ hb4 rfl
      ·intro ac w3 hg hb3 hd K hK;exact op_move _ rfl (hK _ _ bR (hg.kp 0 (by simp)))
      ·intro ac w3 hg hb3 hd K hK;exact op_move _ rfl (hK _ _ bR (hg.kp 5 (by simp)))
      ·intro ac w3 hg hb3 hd K hK;have f8:=hd ⟨8,.data⟩ (by simp) rfl _ rfl rfl;have f9:=hd ⟨9,.data⟩ (by simp) rfl _ rfl rfl;(try simp [Act.eval] at f8);(try simp [Act.eval] at f9);go_simp;exact hK _ _ bR rfl
      ·intro ac w3 hg hb3 hd K hK;have f10:=hd ⟨10,.data⟩ (by simp) rfl _ rfl rfl;(try simp [Act.eval] at f10);go_simp;exact hK _ _ bR rfl
      ·intro ac w3 hg hb3 hd K hK;obtain ⟨⟨x0,x1⟩,x2⟩:=HC.out _ hb3;have f11:=hd ⟨11,.data⟩ (by simp) rfl _ rfl rfl;(try simp [Act.eval] at f11);go_simp;exact hK _ _ bR rfl
      ·intro ac w3 hg hb3 hd K hK;have k6:=hg.kp 6 (by simp);(try simp [Act.eval] at k6);go_simp;exact hK _ _ bR rfl
      ·intro ac w3 hg hb3 hd K hK;have kk:=(HBX.out.below hb3 HBX.out.lt).cell;have zz:=(HBX.out.below hb3 HBX.out.lt).lt;have f13:=hd ⟨13,.data⟩ (by simp) rfl _ rfl rfl;(try simp [Act.eval] at f13);go_simp;exact hK _ _ bR rfl
      ·intro ac w3 hg hb3 hd K hK;have f1:=hd ⟨12,.data⟩ (by simp) rfl _ rfl rfl;have f3:=hd ⟨14,.data⟩ (by simp) rfl _ rfl rfl;simp [Act.eval] at f1 f3;go_simp;refine (HMv.out _).mono ?_;rintro e v4 ⟨rfl,hb4⟩;exact hK _ _ hb4 rfl
      ·intro ac w3 hg hb3 hd K hK;have f1:=hd ⟨7,.data⟩ (by simp) rfl _ rfl rfl;have f3:=hd ⟨15,.data⟩ (by simp) rfl _ rfl rfl;simp [Act.eval] at f1 f3;go_simp;refine (HSB.out _).mono ?_;rintro e v4 ⟨rfl,hb4⟩;exact hK _ _ hb4 rfl
      ·intro ac w3 hg hb3 hd K hK;exact op_move _ rfl (hK _ _ bR (hd ⟨16,.data⟩ (by simp) rfl _ rfl rfl))
      ·intro ac w3 hg hb3 hd K hK;have f17:=hd ⟨17,.data⟩ (by simp) rfl _ rfl rfl;(try simp [Act.eval] at f17);go_simp;exact hK _ _ bR rfl
      ·constructor
       ·intro ac w3 hg hb3 hd K hK;have f17:=hd ⟨17,.data⟩ (by simp) rfl _ rfl rfl;(try simp [Act.eval] at f17);go_simp;exact hK _ _ bR rfl
       ·intro ac w3 hg hd K hK;have f17:=hd ⟨17,.data⟩ (by simp) rfl _ rfl rfl;(try simp [Act.eval] at f17);go_simp;exact hK _ rfl
      ·intro ac w3 hg hb3 hd K hK;go_simp;exact hK (.pointer (some ⟨w3.heap.size,0,none⟩)) _ (bal bR _) (FreshC.new hb3)
      ·intro ac w3 hg hb3 hd K hK;obtain ⟨_,g,f1,f2,f3⟩:=hd ⟨20,.data⟩ (by simp) rfl _ rfl rfl;have fv:=hd ⟨18,.data⟩ (by simp) rfl _ rfl rfl;have f0:=f1;(try simp [Act.eval] at f1);(try simp [Act.eval] at fv);have kc:=f3.cell;have qc:=f3.frozen;have zc:=f3.lt;clear f2 f3;have F0:=hide f0;clear f0;go_simp;exact hK _ ⟨g,F0.out,rfl⟩
      ·constructor
       ·intro ac w3 hg hb3 hd K hK;exact op_assign _ rfl (hK _ _ bR (hd ⟨19,.data⟩ (by simp) rfl _ rfl rfl))
       ·intro ac w3 hg hd K hK;exact op_assign _ rfl (hK _ (hd ⟨19,.data⟩ (by simp) rfl _ rfl rfl))
     ·intro f wz hall;obtain ⟨hbz,g,hp7,hg0,hkz⟩:FreshC wr2 TInt #[.int .i64 C.hi,.int .u64 C.lo] (f 7) wz:=hall _ (List.mem_of_getElem? (i:=20) rfl) (show (0:Nat)<2 by decide);have h8:f 8=.int .i64 0:=hall _ (List.mem_of_getElem? (i:=22) rfl) (show (1:Nat)<2 by decide);simp only [fillF,List.foldl_cons,List.foldl_nil,Act.put,List.setIfInBounds_toArray,List.set_cons_zero,List.set_cons_succ];rw [hp7,h8];have HQ4:=hide (HB4.out.below hbz HB4.out.lt);have HQ0:=hide (HB0.out.below hbz HB0.out.lt);have HBZ:=hide (HBB.out.trans (hbz.mono HBB.out.size));have k4:=HQ4.out.cell;have f4:=HQ4.out.frozen;have z4:=HQ4.out.lt;have kg:=hkz.cell;have yg:=hkz.lt;clear hall hp7 h8 hkz hbz;go_wp2_with (go_at_call 57;go_loud (refine (HAD.out wz).mono ?_);rintro e w9 ⟨rfl,hb9⟩;have hk9:=HQ4.out.below hb9 HQ4.out.lt;have HK9:=hide hk9;have HJ0:=hide (HQ0.out.below hb9 HQ0.out.lt);have HBJ:=hide (HBZ.out.trans (hb9.mono HBZ.out.size));clear k4 f4 z4;have k4:=hk9.cell;have f4:=hk9.frozen;have z4:=hk9.lt;clear hk9 hb9)
      refine ⟨⟨k+1,by go_num,by omega,hide ⟨?_,?_,?_⟩⟩,?_⟩
      ·exact (HBJ.out.setCell (p:=⟨g4,0,none⟩) (Nat.le_of_lt hne) _).setCell (p:=⟨g4,1,none⟩) (Nat.le_of_lt hne) _
      ·exact (HJ0.out.far (p:=⟨g4,0,none⟩) (by simp;omega) _).far (p:=⟨g4,1,none⟩) (by simp;omega) _
      ·rw [HS1.out];exact (HK9.out.set_ 0 _).set_ 1 _
      ·simp [intOf];omega
    ·have hltI:¬ (k:Int)<n:=by omega
     obtain rfl:k=n:=by omega
     have hka:=HI.out.2.2;have hkr:=HI.out.2.1;rw [show crossS r k=areaV r from by rw [← HLEN.out];exact crossS_all r] at hka;obtain ⟨V,hV⟩:∃ V,two (areaV r)=V:=⟨_,rfl⟩;rw [hV] at hka HAI;have ka:=hka.cell;have fa:=hka.frozen;have za:=hka.lt;have kr:=hkr.cell;have fr:=hkr.frozen;have zr:=hkr.lt;have HBB:=hide HI.out.1;clear hka hkr hV HI;go_wp2_with fail
     refine bodyPost_ret (v:=.tuple #[.agg #[.int .i64 V.hi,.int .u64 V.lo],.int .i64 0]) (by simp (maxDischargeDepth:=9) [results,Tryz.results36,go_sem,kr,zr];done) rfl ⟨by rw [HA.out,HAI.out],?_⟩;exact (HBB.out.setCell (p:=⟨w.heap.size,0,none⟩) (Nat.le_refl _) _).setCell (p:=⟨w.heap.size,1,none⟩) (Nat.le_refl _) _
set_option maxHeartbeats 400000 in
theorem rsign_any (x:I2) (w:World) (hx:x.ok) :
 Calls Tryz.prog 37 #[.agg #[.int .i64 x.hi,.int .u64 x.lo]] w fun e w'=>e=.returned (.int .i64 (cmpOf x.num 0))∧Below w.heap.size w w':=by
 have HS:=hide (sign_num x hx);clear hx;cases d0:decide (x.hi<0)
 ·rcases zero_ways x with ⟨z1,z2⟩|z1|⟨z1,z2⟩
  ·have HV:Hid (cmpOf x.num 0=0):=hide (by rw [HS.out,if_neg (by simpa using d0),if_pos (by simp at z1 z2;exact ⟨z1,z2⟩)])
   go_enter Tryz.func37,Tryz.ntmps37
   go_wp2
   go_ret;exact ⟨ret_int HV.out.symm,by (repeat (first|exact Below.refl _ _|refine Below.drew ?_|refine Below.setCell ?_ (by simp;try omega) _|refine bal ?_ _))⟩
  ·have HV:Hid (cmpOf x.num 0=1):=hide (by rw [HS.out,if_neg (by simpa using d0),if_neg (by simp at z1;omega)])
   go_enter Tryz.func37,Tryz.ntmps37
   go_wp2
   go_ret;exact ⟨ret_int HV.out.symm,by (repeat (first|exact Below.refl _ _|refine Below.drew ?_|refine Below.setCell ?_ (by simp;try omega) _|refine bal ?_ _))⟩
  ·have HV:Hid (cmpOf x.num 0=1):=hide (by rw [HS.out,if_neg (by simpa using d0),if_neg (by simp at z2;omega)])
   go_enter Tryz.func37,Tryz.ntmps37
   go_wp2
   go_ret;exact ⟨ret_int HV.out.symm,by (repeat (first|exact Below.refl _ _|refine Below.drew ?_|refine Below.setCell ?_ (by simp;try omega) _|refine bal ?_ _))⟩
 ·have HV:Hid (cmpOf x.num 0 = -1):=hide (by rw [HS.out,if_pos (by simpa using d0)])
  go_enter Tryz.func37,Tryz.ntmps37
  go_wp2
  go_ret;exact ⟨ret_int HV.out.symm,by (repeat (first|exact Below.refl _ _|refine Below.drew ?_|refine Below.setCell ?_ (by simp;try omega) _|refine bal ?_ _))⟩
theorem cmp_pos (n:Int):(cmpOf n 0 == 1)=decide (0<n):=by
 unfold cmpOf
 repeat' split
 all_goals (simp;try omega)
def lessB (p q:Pt):Bool:=decide (p.x<q.x)||(decide (p.x=q.x)&&decide (p.y<q.y))
def PairsOk (r:List Pt) (i j:Nat):Prop:=∀ i' j' (h1:i'<r.length) (h2:j'<r.length),i'<j'→(i'<i∨i'=i∧j'<j)→r[i']≠r[j']∧meetE (edgeAt r i') (edgeAt r j')=wantE r.length i' j'
theorem pairs_next {r:List Pt} {i:Nat} (h:PairsOk r i r.length):PairsOk r (i+1) (i+1+1):=by
 intro i' j' h1 h2 hij hw;refine h i' j' h1 h2 hij ?_;rcases hw with hw|⟨rfl,hw⟩
 ·rcases Nat.lt_or_ge i' i with q|q
  ·exact .inl q
  ·exact .inr ⟨by omega,h2⟩
 ·omega
theorem pairs_step {r:List Pt} {i j:Nat} (hi:i<r.length) (hj:j<r.length) (h:PairsOk r i j) (h1:r[i]≠r[j]) (h2:meetE (edgeAt r i) (edgeAt r j)=wantE r.length i j):PairsOk r i (j+1):=by
 intro i' j' h3 h4 hij hw;by_cases he:i'=i∧j'=j
 ·obtain ⟨rfl,rfl⟩:=he;exact ⟨h1,h2⟩
 ·refine h i' j' h3 h4 hij ?_;rcases hw with hw|⟨rfl,hw⟩
  ·exact .inl hw
  ·exact .inr ⟨rfl,by omega⟩
theorem ring_no_eq {r:List Pt} {i j:Nat} (ha:areaE r=0) (hi:i<r.length) (hj:j<r.length) (hij:i<j) (h:r[i]=r[j]):ringE r=4:=by
 have hn:twiceB r=true:=by
  unfold twiceB;simp only [Bool.not_eq_true',decide_eq_false_iff_not];intro hd;have:=(List.getElem_inj hd).1 h;omega
 unfold ringE;rw [if_neg (by omega),hn];split <;> rfl
theorem ring_no_meet {r:List Pt} {i j:Nat} (ha:areaE r=0) (hj:j<r.length) (hij:i<j) (h:meetE (edgeAt r i) (edgeAt r j)≠wantE r.length i j):ringE r=4:=by
 unfold ringE;rw [if_neg (by omega),simple_no hij hj h]
 repeat' split
 all_goals first|rfl|contradiction
theorem ring_yes {r:List Pt} {i:Nat} (ha:areaE r=0) (h3:3≤r.length) (hp:0<areaV r) (hi:r.length≤i) {j:Nat} (h:PairsOk r i j):ringE r=0:=by
 have hn:twiceB r=false:=by
  unfold twiceB;simp only [Bool.not_eq_false',decide_eq_true_iff];unfold List.Nodup;rw [List.pairwise_iff_getElem];intro a b h1 h2 hab;exact (h a b h1 h2 hab (.inl (by omega))).1
 have hs:simpleB r=true:=simple_iff.2 fun a b hab hb=>(h a b (by omega) hb hab (.inl (by omega))).2
 unfold ringE;rw [if_neg (by omega),if_neg (by omega),hn,if_neg (by simp),if_neg (by omega),hs];rfl
set_option maxRecDepth 100000 in
set_option maxHeartbeats 4000000 in
theorem rcheck_any (r:List Pt) (A:Option Addr) (n c:Nat) (w:World) (hr:PR w w.heap.size A n r) (hn:n≤8796093022208) :
 Calls Tryz.prog 15 #[.slice A n c] w fun e w'=>e=.returned (.int .i64 (ringE r))∧Below w.heap.size w w':=by
 have hlen:=hr.1;have HR:=hide hr;have HLEN:=hide hlen;have HAR:=hide (rarea_any r A n c w hr hn);have hai:areaE r=0→areaI r=two (areaV r):=fun h=>by unfold areaI;rw [if_pos h]
 by_cases ha:areaE r=0
 ·have hz:=areaE_zero ha;have HA:=hide ha;have HGD:=hide hz.2;rw [hai ha,ha] at HAR;have hab:=area_bound ha;obtain ⟨I,hI⟩:∃ I,two (areaV r)=I:=⟨_,rfl⟩;have HSG:=hide (fun w0=>rsign_any I w0 (hI ▸ two_ok (by unfold inr;omega)));rw [hI] at HAR;have hnum:I.num=areaV r:=by rw [← hI,two_num]
  rw [hnum] at HSG;have hn128:n≤128:=by rw [← hlen];exact hz.1
  obtain ⟨sg,hsg⟩:∃ s,cmpOf (areaV r) 0=s:=⟨_,rfl⟩;have hcp:=cmp_pos (areaV r);rw [hsg] at HSG hcp;have HCP:=hide hcp;clear hr hlen hai ha hz hab hI hnum hsg hcp;by_cases h3:n<3
  ·have h3I:(n:Int)<3:=by omega
   have HF:=hide (show ringE r=4 from by unfold ringE;rw [if_neg (by have:=HA.out;omega),if_pos (by rw [HLEN.out];exact h3)])
   go_enter Tryz.func15,Tryz.ntmps15
   go_wp2_with (go_at_call 36;(refine HAR.out.mono ?_);rintro e w2 ⟨rfl,hb2⟩;have HB2:=hide hb2;clear hb2)
   go_ret;exact ⟨by rw [HF.out];rfl,bal HB2.out _⟩
  ·have h3I:¬ (n:Int)<3:=by omega
   by_cases hp:0<areaV r
   ·have hs1:(sg != 1)=false:=by have:=HCP.out;rw [decide_eq_true hp] at this;simpa using this
    have HPO:=hide hp;clear hp
    go_enter Tryz.func15,Tryz.ntmps15
    go_upto_region 7 with (first
     | (go_at_call 36;(refine HAR.out.mono ?_);rintro e w2 ⟨rfl,hb2⟩;have HB2:=hide hb2;clear hb2)
     | (go_at_call 37;(refine (HSG.out _).mono ?_);rintro e w3 ⟨rfl,hb3⟩;have HB3:=hide (btr (bal HB2.out _) hb3);clear hb3))
    go_wp2_with fail
    go_loopw [6] (fun v6 wr=>∃ (i:Nat),v6=.int .i64 (i:Int)∧i≤n∧Hid (Below w.heap.size w wr∧PairsOk r i (i+1))) (fun v _=>n - (intOf v).toNat)
    case atStart=>exact ⟨0,rfl,by omega,hide ⟨HB3.out,fun i' j' _ _ h1 h2=>by omega⟩⟩
    case round=>
     obtain ⟨i,rfl,hin,HI⟩:=hrel;by_cases hlt:i<n
     ·have hltI:(i:Int)<n:=by omega
      have hil:i<r.length:=by rw [HLEN.out];exact hlt
      go_wp2_with fail
      go_loopw [7] (fun v7 wr'=>∃ (j:Nat),v7=.int .i64 (j:Int)∧i<j∧j≤n∧Hid (Below w.heap.size w wr'∧PairsOk r i j)) (fun v _=>n - (intOf v).toNat)
      case atStart=>exact ⟨i+1,by go_num,by omega,by omega,hide ⟨HI.out.1,HI.out.2⟩⟩
      case round=>
       obtain ⟨j,rfl,hij,hjn,HI2⟩:=hrel;by_cases hlt2:j<n
       ·have hltJ:(j:Int)<n:=by omega
        have hjl:j<r.length:=by rw [HLEN.out];exact hlt2
        obtain ⟨k1,hk1⟩:∃ q,(i+1) % n=q:=⟨_,rfl⟩;obtain ⟨k2,hk2⟩:∃ q,(j+1) % n=q:=⟨_,rfl⟩;have hk1n:k1<n:=by rw [← hk1];exact Nat.mod_lt _ (by omega)
        have hk2n:k2<n:=by rw [← hk2];exact Nat.mod_lt _ (by omega)
        have hk1r:k1<r.length:=by rw [HLEN.out];exact hk1n
        have hk2r:k2<r.length:=by rw [HLEN.out];exact hk2n
        have ek1:Int.tmod ((i:Int)+1) (n:Int)=(k1:Int):=by
         rw [← hk1,Int.tmod_eq_emod_of_nonneg (by omega)]
         push_cast
         rfl
        have ek2:Int.tmod ((j:Int)+1) (n:Int)=(k2:Int):=by
         rw [← hk2,Int.tmod_eq_emod_of_nonneg (by omega)]
         push_cast
         rfl
        have hk1I:(k1:Int)<n:=by omega
        have hn0:¬ n=0:=by omega
        have hwi:IntKind.i64.wrap ((i:Int)+1)=(i:Int)+1:=by rw [IntKind.wrap_i64];omega
        have hwj:IntKind.i64.wrap ((j:Int)+1)=(j:Int)+1:=by rw [IntKind.wrap_i64];omega
        have hk2I:(k2:Int)<n:=by omega
        have hE1:edgeAt r i=⟨r[i],r[k1]⟩:=by
         unfold edgeAt;simp only [HLEN.out,hk1];rw [List.getD_eq_getElem?_getD,List.getElem?_eq_getElem hil,List.getD_eq_getElem?_getD,List.getElem?_eq_getElem hk1r];rfl
        have hE2:edgeAt r j=⟨r[j],r[k2]⟩:=by
         unfold edgeAt;simp only [HLEN.out,hk2];rw [List.getD_eq_getElem?_getD,List.getElem?_eq_getElem hjl,List.getD_eq_getElem?_getD,List.getElem?_eq_getElem hk2r];rfl
        have ga:=good_mem HGD.out (List.getElem_mem hil);have gb:=good_mem HGD.out (List.getElem_mem hk1r);have gp:=good_mem HGD.out (List.getElem_mem hjl);have gq:=good_mem HGD.out (List.getElem_mem hk2r);obtain ⟨b,o,rfl,hb,hcs⟩:=(show PR wr w.heap.size A n r from HR.out.below HI2.out.1).at (show 0<n by omega);obtain ⟨a0,a1⟩:=hcs i hil;obtain ⟨b0,b1⟩:=hcs k1 hk1r;obtain ⟨p0,p1⟩:=hcs j hjl;obtain ⟨q0,q1⟩:=hcs k2 hk2r;have hEQ:decide (r[i]=r[j])=(r[i].x == r[j].x&&r[i].y == r[j].y):=(eqb_pt _ _).symm;obtain ⟨a,hva⟩:∃ q,r[i]=q:=⟨_,rfl⟩;obtain ⟨bb,hvb⟩:∃ q,r[k1]=q:=⟨_,rfl⟩;obtain ⟨p,hvp⟩:∃ q,r[j]=q:=⟨_,rfl⟩;obtain ⟨q,hvq⟩:∃ q,r[k2]=q:=⟨_,rfl⟩;rw [hva] at a0 a1 ga hE1 hEQ;rw [hvb] at b0 b1 gb hE1;rw [hvp] at p0 p1 gp hE2 hEQ;rw [hvq] at q0 q1 gq hE2;have HMT:=hide (fun w0=>rmeet_any a bb p q w0 ga gb gp gq);obtain ⟨mv,hmv⟩:∃ m,rmeetV a bb p q=m:=⟨_,rfl⟩;have HMV:=hide (show meetE (edgeAt r i) (edgeAt r j)=mv from by rw [hE1,hE2];exact hmv);rw [hmv] at HMT;obtain ⟨W,hW⟩:∃ W,wantE r.length i j=W:=⟨_,rfl⟩;obtain ⟨t,ht⟩:∃ t,(a.x == p.x&&a.y == p.y)=t:=⟨_,rfl⟩;have heq:=fun w1=>eq_pt a.x a.y p.x p.y w1
        rw [ht] at heq hEQ;have HEQ:=hide (show decide (r[i]=r[j])=t from by rw [hva,hvp];exact hEQ);have hgt:Tryz.prog.eqGuardType Tryz.prog.depth 56=false:=by kernel_rfl
        have hbr:b<wr.heap.size:=nLl hb HI2.out.1.size;have HC:=hide (show ∀ w',Below wr.heap.size wr w'→((w'.cell? ⟨b,o+i * 2,none⟩=some (.int .i64 a.x)∧w'.cell? ⟨b,o+i * 2+1,none⟩=some (.int .i64 a.y))∧(w'.cell? ⟨b,o+k1 * 2,none⟩=some (.int .i64 bb.x)∧w'.cell? ⟨b,o+k1 * 2+1,none⟩=some (.int .i64 bb.y))∧(w'.cell? ⟨b,o+j * 2,none⟩=some (.int .i64 p.x)∧w'.cell? ⟨b,o+j * 2+1,none⟩=some (.int .i64 p.y))∧(w'.cell? ⟨b,o+k2 * 2,none⟩=some (.int .i64 q.x)∧w'.cell? ⟨b,o+k2 * 2+1,none⟩=some (.int .i64 q.y)))∧b<w'.heap.size from fun w' h=>
         ⟨⟨⟨(h.cell (p:=⟨b,o+i * 2,none⟩) hbr).trans a0,(h.cell (p:=⟨b,o+i * 2+1,none⟩) hbr).trans a1⟩,⟨(h.cell (p:=⟨b,o+k1 * 2,none⟩) hbr).trans b0,(h.cell (p:=⟨b,o+k1 * 2+1,none⟩) hbr).trans b1⟩,⟨(h.cell (p:=⟨b,o+j * 2,none⟩) hbr).trans p0,(h.cell (p:=⟨b,o+j * 2+1,none⟩) hbr).trans p1⟩,⟨(h.cell (p:=⟨b,o+k2 * 2,none⟩) hbr).trans q0,(h.cell (p:=⟨b,o+k2 * 2+1,none⟩) hbr).trans q1⟩⟩,nLl hbr h.size⟩)
        clear hk1 hk2 hE1 hE2 ga gb gp gq hcs hEQ hva hvb hvp hvq hmv ht b0 b1 q0 q1;go_upto_region 13 with fail
        go_quiet (fail)
        have hbn:Below wr.heap.size wr (wr.drewN nq):=bdn wr nq;have HBN:=hide hbn;have HB5:=hide (HI2.out.1.trans (hbn.mono HI2.out.1.size));clear hbn a0 a1 p0 p1;cases t
        ·have HNE:=hide (show ¬ r[i]=r[j] from by have:=HEQ.out;simpa using this);obtain ⟨wx,hwx⟩:∃ x,wr.drewN nq=x:=⟨_,rfl⟩;rw [hwx] at HBN HB5 ⊢;clear hwx;go_upto_region 15 with fail
         refine wp_region_dag (by kernel_rfl) (by kernel_rfl) 98 0
          [⟨some 48,[0],[],[],[],[],fun _ _ v _=>v=.slice (some ⟨b,o,none⟩) n c⟩,
           ⟨some 49,[0],[],[],[],[],fun _ _ v _=>v=.int .i64 (i:Int)⟩,
           ⟨some 50,[0],[],[],[0,1],[],fun _ _ v _=>v=.pointer (some ⟨b,o+i * 2,none⟩)⟩,
           ⟨some 51,[0],[],[],[2],[],fun _ _ v _=>v=.agg #[.int .i64 a.x,.int .i64 a.y]⟩,
           ⟨some 52,[0],[],[],[],[],fun _ _ v _=>v=.slice (some ⟨b,o,none⟩) n c⟩,
           ⟨some 53,[0],[],[],[],[],fun _ _ v _=>v=.int .i64 (i:Int)⟩,
           ⟨some 54,[0],[],[],[5],[],fun _ _ v _=>v=.int .i64 ((i:Int)+1)⟩,
           ⟨some 55,[0],[],[],[],[],fun _ _ v _=>v=.int .i64 (n:Int)⟩,
           ⟨some 56,[0],[],[],[6,7],[],fun _ _ v _=>v=.int .i64 (k1:Int)⟩,
           ⟨some 57,[0],[],[],[4,8],[],fun _ _ v _=>v=.pointer (some ⟨b,o+k1 * 2,none⟩)⟩,
           ⟨some 58,[0],[],[],[9],[],fun _ _ v _=>v=.agg #[.int .i64 bb.x,.int .i64 bb.y]⟩,
           ⟨some 59,[0],[],[],[],[],fun _ _ v _=>v=.slice (some ⟨b,o,none⟩) n c⟩,
           ⟨some 60,[0],[],[],[],[],fun _ _ v _=>v=.int .i64 (j:Int)⟩,
           ⟨some 61,[0],[],[],[11,12],[],fun _ _ v _=>v=.pointer (some ⟨b,o+j * 2,none⟩)⟩,
           ⟨some 62,[0],[],[],[13],[],fun _ _ v _=>v=.agg #[.int .i64 p.x,.int .i64 p.y]⟩,
           ⟨some 63,[0],[],[],[],[],fun _ _ v _=>v=.slice (some ⟨b,o,none⟩) n c⟩,
           ⟨some 64,[0],[],[],[],[],fun _ _ v _=>v=.int .i64 (j:Int)⟩,
           ⟨some 65,[0],[],[],[16],[],fun _ _ v _=>v=.int .i64 ((j:Int)+1)⟩,
           ⟨some 66,[0],[],[],[],[],fun _ _ v _=>v=.int .i64 (n:Int)⟩,
           ⟨some 67,[0],[],[],[17,18],[],fun _ _ v _=>v=.int .i64 (k2:Int)⟩,
           ⟨some 68,[0],[],[],[15,19],[],fun _ _ v _=>v=.pointer (some ⟨b,o+k2 * 2,none⟩)⟩,
           ⟨some 69,[0],[],[],[20],[],fun _ _ v _=>v=.agg #[.int .i64 q.x,.int .i64 q.y]⟩,
           ⟨some 70,[0],[],[],[3,10,14,21],[],fun _ _ v _=>v=.int .i64 mv⟩,
           ⟨some 8,[0],[],[],[22],[],fun _ _ v _=>v=.int .i64 mv⟩] (fun _ w'=>Below wx.heap.size wx w') (fun _ _ _ _ _=>False) (fun _ w w'=>Below w.heap.size w w') ?gu ?ru ?put [48,49,50,51,52,53,54,55,56,57,58,59,60,61,62,63,64,65,66,67,68,69,70,8] rfl (by kernel_rfl) rfl ?g0 ?keep ?steps ?fin
         case ru=>
          intro e he s a v w w' hu hv;simp only [List.mem_cons,List.not_mem_nil,or_false] at he;rcases he with rfl|rfl|rfl|rfl|rfl|rfl|rfl|rfl|rfl|rfl|rfl|rfl|rfl|rfl|rfl|rfl|rfl|rfl|rfl|rfl|rfl|rfl|rfl|rfl
          all_goals first|exact hv
         case put=>
          intro e he s a d u v w hnd hv;simp only [List.mem_cons,List.not_mem_nil,or_false] at he;rcases he with rfl|rfl|rfl|rfl|rfl|rfl|rfl|rfl|rfl|rfl|rfl|rfl|rfl|rfl|rfl|rfl|rfl|rfl|rfl|rfl|rfl|rfl|rfl|rfl
          all_goals first|exact hv
         case keep=>
          intro e he s s' a v w w' hsl hm ht hv;simp only [List.mem_cons,List.not_mem_nil,or_false] at he;rcases he with rfl|rfl|rfl|rfl|rfl|rfl|rfl|rfl|rfl|rfl|rfl|rfl|rfl|rfl|rfl|rfl|rfl|rfl|rfl|rfl|rfl|rfl|rfl|rfl
          all_goals first|exact hv|exact ht.elim
         case steps=>
          refine ⟨?_,?_,?_,?_,?_,?_,?_,?_,?_,?_,?_,?_,?_,?_,?_,?_,?_,?_,?_,?_,?_,?_,?_,?_,trivial⟩
          ·intro st hst ac w3 hg hG hd K hK;dsimp only at hst hG hK;exact op_move _ rfl (hK _ _ bR (hg.kp 0 (by simp)))
          ·intro st hst ac w3 hg hG hd K hK;dsimp only at hst hG hK;exact op_move _ rfl (hK _ _ bR (hg.kp 6 (by simp)))
          ·intro st hst ac w3 hg hG hd K hK;dsimp only at hst hG hK;have f0:=hd 0 (by simp) _ rfl _ rfl;have f1:=hd 1 (by simp) _ rfl _ rfl;(try simp [Act.eval] at f0);(try simp [Act.eval] at f1);go_simp;exact hK _ _ bR rfl
          ·intro st hst ac w3 hg hG hd K hK;dsimp only at hst hG hK;obtain ⟨⟨⟨x0,x1⟩,⟨x2,x3⟩,⟨x4,x5⟩,x6,x7⟩,x8⟩:=HC.out _ (btr HBN.out hG);clear hG;have f2:=hd 2 (by simp) _ rfl _ rfl;(try simp [Act.eval] at f2);go_simp;exact hK _ _ bR rfl
          ·intro st hst ac w3 hg hG hd K hK;dsimp only at hst hG hK;exact op_move _ rfl (hK _ _ bR (hg.kp 0 (by simp)))
          ·intro st hst ac w3 hg hG hd K hK;dsimp only at hst hG hK;exact op_move _ rfl (hK _ _ bR (hg.kp 6 (by simp)))
          ·intro st hst ac w3 hg hG hd K hK;dsimp only at hst hG hK;have f5:=hd 5 (by simp) _ rfl _ rfl;(try simp [Act.eval] at f5);go_simp;exact hK _ _ bR rfl
          ·intro st hst ac w3 hg hG hd K hK;dsimp only at hst hG hK;exact op_move _ rfl (hK _ _ bR (hg.kp 5 (by simp)))
          ·intro st hst ac w3 hg hG hd K hK;dsimp only at hst hG hK;have f6:=hd 6 (by simp) _ rfl _ rfl;have f7:=hd 7 (by simp) _ rfl _ rfl;(try simp [Act.eval] at f6);(try simp [Act.eval] at f7);go_simp;exact hK _ _ bR rfl
          ·intro st hst ac w3 hg hG hd K hK;dsimp only at hst hG hK;have f4:=hd 4 (by simp) _ rfl _ rfl;have f8:=hd 8 (by simp) _ rfl _ rfl;(try simp [Act.eval] at f4);(try simp [Act.eval] at f8);go_simp;exact hK _ _ bR rfl
          ·intro st hst ac w3 hg hG hd K hK;dsimp only at hst hG hK;obtain ⟨⟨⟨x0,x1⟩,⟨x2,x3⟩,⟨x4,x5⟩,x6,x7⟩,x8⟩:=HC.out _ (btr HBN.out hG);clear hG;have f9:=hd 9 (by simp) _ rfl _ rfl;(try simp [Act.eval] at f9);go_simp;exact hK _ _ bR rfl
          ·intro st hst ac w3 hg hG hd K hK;dsimp only at hst hG hK;exact op_move _ rfl (hK _ _ bR (hg.kp 0 (by simp)))
          ·intro st hst ac w3 hg hG hd K hK;dsimp only at hst hG hK;exact op_move _ rfl (hK _ _ bR (hg.kp 7 (by simp)))
          ·intro st hst ac w3 hg hG hd K hK;dsimp only at hst hG hK;have f11:=hd 11 (by simp) _ rfl _ rfl;have f12:=hd 12 (by simp) _ rfl _ rfl;(try simp [Act.eval] at f11);(try simp [Act.eval] at f12);go_simp;exact hK _ _ bR rfl
          ·intro st hst ac w3 hg hG hd K hK;dsimp only at hst hG hK;obtain ⟨⟨⟨x0,x1⟩,⟨x2,x3⟩,⟨x4,x5⟩,x6,x7⟩,x8⟩:=HC.out _ (btr HBN.out hG);clear hG;have f13:=hd 13 (by simp) _ rfl _ rfl;(try simp [Act.eval] at f13);go_simp;exact hK _ _ bR rfl
          ·intro st hst ac w3 hg hG hd K hK;dsimp only at hst hG hK;exact op_move _ rfl (hK _ _ bR (hg.kp 0 (by simp)))
          ·intro st hst ac w3 hg hG hd K hK;dsimp only at hst hG hK;exact op_move _ rfl (hK _ _ bR (hg.kp 7 (by simp)))
          ·intro st hst ac w3 hg hG hd K hK;dsimp only at hst hG hK;have f16:=hd 16 (by simp) _ rfl _ rfl;(try simp [Act.eval] at f16);go_simp;exact hK _ _ bR rfl
          ·intro st hst ac w3 hg hG hd K hK;dsimp only at hst hG hK;exact op_move _ rfl (hK _ _ bR (hg.kp 5 (by simp)))
          ·intro st hst ac w3 hg hG hd K hK;dsimp only at hst hG hK;have f17:=hd 17 (by simp) _ rfl _ rfl;have f18:=hd 18 (by simp) _ rfl _ rfl;(try simp [Act.eval] at f17);(try simp [Act.eval] at f18);go_simp;exact hK _ _ bR rfl
          ·intro st hst ac w3 hg hG hd K hK;dsimp only at hst hG hK;have f15:=hd 15 (by simp) _ rfl _ rfl;have f19:=hd 19 (by simp) _ rfl _ rfl;(try simp [Act.eval] at f15);(try simp [Act.eval] at f19);go_simp;exact hK _ _ bR rfl
          ·intro st hst ac w3 hg hG hd K hK;dsimp only at hst hG hK;obtain ⟨⟨⟨x0,x1⟩,⟨x2,x3⟩,⟨x4,x5⟩,x6,x7⟩,x8⟩:=HC.out _ (btr HBN.out hG);clear hG;have f20:=hd 20 (by simp) _ rfl _ rfl;(try simp [Act.eval] at f20);go_simp;exact hK _ _ bR rfl
          ·intro st hst ac w3 hg hG hd K hK;dsimp only at hst hG hK;have f1:=hd 3 (by simp) _ rfl _ rfl;have f2:=hd 10 (by simp) _ rfl _ rfl;have f3:=hd 14 (by simp) _ rfl _ rfl;have f4:=hd 21 (by simp) _ rfl _ rfl;clear hG;simp [Act.eval] at f1 f2 f3 f4;go_simp;(refine (HMT.out w3).mono ?_);rintro e w8 ⟨rfl,hb⟩;exact hK _ _ hb rfl
          ·intro st hst ac w3 hg hG hd K hK;dsimp only at hst hG hK;exact op_assign _ rfl (hK _ _ bR (hd 22 (by simp) _ rfl _ rfl))
         case gu=>intro s w1 w2 hG hu;exact hG.trans (hu.mono hG.size)
         case g0=>exact bR.drew
         case fin=>
          intro f9 w9 hG hall;have h8:=hall _ (List.mem_of_getElem? (i:=23) rfl) 8 rfl;clear hall;have HBB:=hide (HB5.out.trans (hG.mono HB5.out.size));clear hG;simp only [fillF,List.map_cons,List.map_nil,List.foldl_cons,List.foldl_nil,Act.put,List.setIfInBounds_toArray,List.set_cons_zero,List.set_cons_succ];rw [h8];clear h8;by_cases e1:j=i+1
          ·have d1:((j:Int) == (i:Int)+1)=true:=by simp;omega
           have HWW:=hide (show wantE r.length i j=1 from want_yes (.inl e1));clear e1;by_cases hmw:mv=1
           ·have dmw:(mv != 1)=false:=by simp [hmw]
            have HJ:=hide (pairs_step hil hjl HI2.out.2 (fun e=>HNE.out e) (by rw [HMV.out,hmw,HWW.out]));clear hmw;go_wp2_with fail
            refine ⟨⟨j+1,by go_num,by omega,by omega,hide ⟨HBB.out,HJ.out⟩⟩,?_⟩;simp [intOf];omega
           ·have dmw:(mv != 1)=true:=by simp [hmw]
            have HF:=hide (ring_no_meet HA.out hjl hij (by rw [HMV.out,HWW.out];exact hmw));clear hmw;go_wp2_with fail
            go_ret;exact ⟨by rw [HF.out];rfl,HBB.out⟩
          ·have d1:((j:Int) == (i:Int)+1)=false:=by simp;omega
           by_cases e2:i=0
           ·have d2:((i:Int) == 0)=true:=by simp;omega
            by_cases e3:j=n - 1
            ·have d3:((j:Int) == (n:Int) - 1)=true:=by simp;omega
             have HWW:=hide (show wantE r.length i j=1 from want_yes (.inr ⟨e2,by rw [HLEN.out];exact e3⟩));clear e1 e2 e3;by_cases hmw:mv=1
             ·have dmw:(mv != 1)=false:=by simp [hmw]
              have HJ:=hide (pairs_step hil hjl HI2.out.2 (fun e=>HNE.out e) (by rw [HMV.out,hmw,HWW.out]));clear hmw;go_wp2_with fail
              refine ⟨⟨j+1,by go_num,by omega,by omega,hide ⟨HBB.out,HJ.out⟩⟩,?_⟩;simp [intOf];omega
             ·have dmw:(mv != 1)=true:=by simp [hmw]
              have HF:=hide (ring_no_meet HA.out hjl hij (by rw [HMV.out,HWW.out];exact hmw));clear hmw;go_wp2_with fail
              go_ret;exact ⟨by rw [HF.out];rfl,HBB.out⟩
            ·have d3:((j:Int) == (n:Int) - 1)=false:=by simp;omega
             have HWW:=hide (show wantE r.length i j=0 from want_no (by rw [HLEN.out];omega));clear e1 e2 e3;by_cases hmw:mv=0
             ·have dmw:(mv != 0)=false:=by simp [hmw]
              have HJ:=hide (pairs_step hil hjl HI2.out.2 (fun e=>HNE.out e) (by rw [HMV.out,hmw,HWW.out]));clear hmw;go_wp2_with fail
              refine ⟨⟨j+1,by go_num,by omega,by omega,hide ⟨HBB.out,HJ.out⟩⟩,?_⟩;simp [intOf];omega
             ·have dmw:(mv != 0)=true:=by simp [hmw]
              have HF:=hide (ring_no_meet HA.out hjl hij (by rw [HMV.out,HWW.out];exact hmw));clear hmw;go_wp2_with fail
              go_ret;exact ⟨by rw [HF.out];rfl,HBB.out⟩
           ·have d2:((i:Int) == 0)=false:=by simp;omega
            have HWW:=hide (show wantE r.length i j=0 from want_no (by rw [HLEN.out];omega));clear e1 e2;by_cases hmw:mv=0
            ·have dmw:(mv != 0)=false:=by simp [hmw]
             have HJ:=hide (pairs_step hil hjl HI2.out.2 (fun e=>HNE.out e) (by rw [HMV.out,hmw,HWW.out]));clear hmw;go_wp2_with fail
             refine ⟨⟨j+1,by go_num,by omega,by omega,hide ⟨HBB.out,HJ.out⟩⟩,?_⟩;simp [intOf];omega
            ·have dmw:(mv != 0)=true:=by simp [hmw]
             have HF:=hide (ring_no_meet HA.out hjl hij (by rw [HMV.out,HWW.out];exact hmw));clear hmw;go_wp2_with fail
             go_ret;exact ⟨by rw [HF.out];rfl,HBB.out⟩
        ·have HF:=hide (ring_no_eq HA.out hil hjl hij (by have:=HEQ.out;simpa using this));go_wp2_with fail
         go_ret;exact ⟨by rw [HF.out];rfl,HB5.out⟩
       ·have hltJ:¬ (j:Int)<n:=by omega
        obtain rfl:j=n:=by omega
        have HNX:=hide (show PairsOk r (i+1) (i+1+1) from pairs_next (by have:=HI2.out.2;rwa [← HLEN.out] at this));have HBJ:=hide HI2.out.1;clear HI2;go_wp2_with fail
        refine ⟨⟨i+1,by go_num,by omega,hide ⟨HBJ.out,HNX.out⟩⟩,?_⟩;simp [intOf];omega
     ·have hltI:¬ (i:Int)<n:=by omega
      obtain rfl:i=n:=by omega
      have HF:=hide (ring_yes HA.out (by rw [HLEN.out];omega) HPO.out (by rw [HLEN.out];exact Nat.le_refl _) HI.out.2);have HBJ:=hide HI.out.1;clear HI;go_wp2_with fail
      go_ret;exact ⟨by rw [HF.out];rfl,HBJ.out⟩
   ·have hs1:(sg != 1)=true:=by have:=HCP.out;rw [decide_eq_false hp] at this;simpa using this
    have HF:=hide (show ringE r=4 from by
     unfold ringE;rw [if_neg (by have:=HA.out;omega),if_neg (by rw [HLEN.out];exact h3)];split
     ·rfl
     ·rw [if_pos (by omega)])
    clear hp
    go_enter Tryz.func15,Tryz.ntmps15
    go_wp2_with (first
     | (go_at_call 36;(refine HAR.out.mono ?_);rintro e w2 ⟨rfl,hb2⟩;have HB2:=hide hb2;clear hb2)
     | (go_at_call 37;(refine (HSG.out _).mono ?_);rintro e w3 ⟨rfl,hb3⟩;have HB3:=hide (btr (bal HB2.out _) hb3);clear hb3))
    go_ret;exact ⟨by rw [HF.out];rfl,HB3.out⟩
 ·obtain ⟨E,hE⟩:∃ E,areaE r=E:=⟨_,rfl⟩;have HF:=hide (show ringE r=E from by unfold ringE;rw [if_pos ha,hE]);rw [hE] at HAR ha;have h0:(E == 0)=false:=by simp [ha]
  obtain ⟨I,hI⟩:∃ I,areaI r=I:=⟨_,rfl⟩;rw [hI] at HAR;clear hr hlen hai ha hE hI
  go_enter Tryz.func15,Tryz.ntmps15
  go_wp2_with (go_at_call 36;(refine HAR.out.mono ?_);rintro e w2 ⟨rfl,hb2⟩;have HB2:=hide hb2;clear hb2)
  go_ret;exact ⟨by rw [HF.out];rfl,bal HB2.out _⟩
end Go.Proofs.YtacinobmcgcccaaGreatDoor
