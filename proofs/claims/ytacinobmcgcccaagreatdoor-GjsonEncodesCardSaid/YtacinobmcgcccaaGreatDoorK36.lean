/- The reference: Area. -/
import Derived.Test.YtacinobmcgcccaaGreatDoorK31
import Derived.Test.YtacinobmcgcccaaGreatDoorK11
import Derived.Test.YtacinobmcgcccaaGreatDoorK34
import Derived.Test.YtacinobmcgcccaaGreatDoorK35
import Derived.Test.YtacinobmcgcccaaGreatDoorK05
import Derived.Test.YtacinobmcgcccaaGreatDoorK07
set_option linter.unusedSimpArgs false
set_option linter.unusedVariables false
namespace Go.Proofs.YtacinobmcgcccaaGreatDoor
open Go.RowKit Go.Shelf
def crossS (r:List Pt) (k:Nat):Int:=(((edgesL r).take k).map fun e=>crossV ⟨0,0⟩ e.a e.b).sum
theorem crossS_bound {r:List Pt} (hg:goodAll r=true) (hn:r.length≤128) (k:Nat):inr (crossS r k):=by
 have h:=sum_bound (fun e:Eg=>crossV ⟨0,0⟩ e.a e.b) 4611686018427387904 (by decide) ((edgesL r).take k) (fun e he=>cross_bound (by decide) (good_mem hg (edge_good hg (List.mem_of_mem_take he)).1) (good_mem hg (edge_good hg (List.mem_of_mem_take he)).2));have hl:((edgesL r).take k).length≤128:=by rw [List.length_take,edges_len];omega
 have:((((edgesL r).take k).length:Nat):Int) * 4611686018427387904≤590295810358705651712:=by omega
 unfold inr crossS;omega
theorem crossS_step {r:List Pt} {k:Nat} (h:k<r.length):crossS r (k+1)=crossS r k+crossV ⟨0,0⟩ (edgeAt r k).a (edgeAt r k).b:=by
 have h2:k<(edgesL r).length:=by rw [edges_len];exact h
 unfold crossS;rw [List.take_succ_eq_append_getElem h2,List.map_append,List.sum_append,edges_at h2];simp
theorem crossS_all (r:List Pt):crossS r r.length=areaV r:=by
 unfold crossS areaV;rw [List.take_of_length_le (by rw [edges_len];exact Nat.le_refl _)]
theorem cross_form (p q:Pt):p.x * q.y - p.y * q.x=crossV ⟨0,0⟩ p q:=by
 unfold crossV;simp
abbrev TInt:TypeId:=80
set_option maxRecDepth 100000 in
set_option maxHeartbeats 4000000 in
theorem rarea_any (r:List Pt) (A:Option Addr) (n c:Nat) (w:World) (hr:PR w w.heap.size A n r) (hn:n≤8796093022208) :
 Calls Tryz.prog 36 #[.slice A n c] w fun e w'=>e=.returned (.tuple #[.agg #[.int .i64 (areaI r).hi,.int .u64 (areaI r).lo],.int .i64 (areaE r)])∧Below w.heap.size w w':=by
 have hlen:=hr.1;obtain ⟨w1,hw1⟩:∃ q,w.alloc (.cells #[.int .i64 0,.int .u64 0] TInt)=q:=⟨_,rfl⟩;have HB1:=hide (show Below w.heap.size w w1 from hw1 ▸ bal bR _);have hk1:Blk w1 w.heap.size TInt #[.int .i64 0,.int .u64 0]:=hw1 ▸ Blk.new _ _ _;have HK1:=hide hk1;have HR1:=hide (hr.later HB1.out);have HR0:=hide hr;have HG:=hide (rgood_any r A n c w1 HR1.out (by omega));have HW1:=hide hw1;have kc:=hk1.cell;have fc:=hk1.frozen;have zc:=hk1.lt;clear hw1 hk1 hr;by_cases hbig:128<n
 ·have hbI:(128:Int)<n:=by omega
  have HA:=hide (show areaE r=12 from by unfold areaE;rw [if_pos (by omega)]);have HAI:=hide (show areaI r=⟨0,0⟩ from by unfold areaI;rw [HA.out];rfl);clear hlen
  go_enter Tryz.func36,Tryz.ntmps36
  go_upto_region 1 with fail
  rw [HW1.out];go_wp2_with fail
  refine bodyPost_ret (v:=.tuple #[.agg #[.int .i64 0,.int .u64 0],.int .i64 12]) (by simp (maxDischargeDepth:=9) [results,Tryz.results36,go_sem,kc,zc];done) rfl ⟨by rw [HA.out,HAI.out],?_⟩;exact (HB1.out.setCell (p:=⟨w.heap.size,0,none⟩) (Nat.le_refl _) _).setCell (p:=⟨w.heap.size,1,none⟩) (Nat.le_refl _) _
 ·have hbI:¬ (128:Int)<n:=by omega
  cases hg:goodAll r
  ·have HA:=hide (show areaE r=3 from by unfold areaE;rw [if_neg (by omega),hg];rfl);have HAI:=hide (show areaI r=⟨0,0⟩ from by unfold areaI;rw [HA.out];rfl);rw [hg] at HG;clear hlen hg
   go_enter Tryz.func36,Tryz.ntmps36
   go_upto_region 1 with fail
   rw [HW1.out];go_wp2_with (go_at_call 80;(refine HG.out.mono ?_);rintro e w2 ⟨rfl,hb2⟩;have HB2:=hide hb2;have hk2:=HK1.out.below hb2 HK1.out.lt;clear kc fc zc;have kc:=hk2.cell;have fc:=hk2.frozen;have zc:=hk2.lt;clear hk2 hb2)
   refine bodyPost_ret (v:=.tuple #[.agg #[.int .i64 0,.int .u64 0],.int .i64 3]) (by simp (maxDischargeDepth:=9) [results,Tryz.results36,go_sem,kc,zc];done) rfl ⟨by rw [HA.out,HAI.out],?_⟩;exact ((btr HB1.out HB2.out).setCell (p:=⟨w.heap.size,0,none⟩) (Nat.le_refl _) _).setCell (p:=⟨w.heap.size,1,none⟩) (Nat.le_refl _) _
  ·have HA:=hide (show areaE r=0 from by unfold areaE;rw [if_neg (by omega),hg];rfl);have HAI:=hide (show areaI r=two (areaV r) from by unfold areaI;rw [HA.out];rfl);have HGD:=hide hg;have HLEN:=hide hlen;rw [hg] at HG;have hn128:n≤128:=by omega
   clear hlen hg
   go_enter Tryz.func36,Tryz.ntmps36
   go_upto_region 1 with fail
   rw [HW1.out];go_upto_region 5 with (go_at_call 80;(refine HG.out.mono ?_);rintro e w2 ⟨rfl,hb2⟩;have HB2:=hide hb2;have hk2:=HK1.out.below hb2 HK1.out.lt;clear kc fc zc;have HK2:=hide hk2;have HR2:=hide (HR1.out.later hb2);clear hk2 hb2)
   obtain ⟨w3,hw3⟩:∃ q,w2.alloc (.cells #[.int .i64 0,.int .u64 0] TInt)=q:=⟨_,rfl⟩;obtain ⟨g4,hg4⟩:∃ g,w2.heap.size=g:=⟨_,rfl⟩;have HB3:=hide (show Below w2.heap.size w2 w3 from hw3 ▸ bal bR _);have HK3:=hide (HK2.out.below HB3.out HK2.out.lt);have HS3:=hide (show Blk w3 g4 TInt #[.int .i64 0,.int .u64 0] from hg4 ▸ hw3 ▸ Blk.new _ _ _);have hne:w.heap.size<g4:=by have:=HK2.out.lt;omega
   have HGS:=hide (show g4<w3.heap.size from HS3.out.lt);have HR3:=hide (HR2.out.later HB3.out);have HB03:=hide (btr (btr HB1.out HB2.out) HB3.out);have HW3:=hide hw3;have HG4:=hide hg4;clear hw3 hg4;go_upto_region 6 with fail
   rw [HW3.out,HG4.out];go_wp2_with fail
   go_loopw [5] (fun v5 wr=>∃ (k:Nat),v5=.int .i64 (k:Int)∧k≤n∧Hid (Below w.heap.size w wr∧Blk wr w.heap.size TInt #[.int .i64 0,.int .u64 0]∧Blk wr g4 TInt #[.int .i64 (two (crossS r k)).hi,.int .u64 (two (crossS r k)).lo])) (fun v _=>n - (intOf v).toNat)
   case atStart=>exact ⟨0,rfl,by omega,hide ⟨HB03.out,HK3.out,HS3.out⟩⟩
   case round=>
    obtain ⟨k,rfl,hkn,HI⟩:=hrel;by_cases hlt:k<n
    ·have hltI:(k:Int)<n:=by omega
     have hkr:k<r.length:=by rw [HLEN.out];exact hlt
     obtain ⟨k2,hk2⟩:∃ q,(k+1) % n=q:=⟨_,rfl⟩;have hk2n:k2<n:=by rw [← hk2];exact Nat.mod_lt _ (by omega)
     have hk2r:k2<r.length:=by rw [HLEN.out];exact hk2n
     have ek:Int.tmod ((k:Int)+1) (n:Int)=(k2:Int):=by
      rw [← hk2,Int.tmod_eq_emod_of_nonneg (by omega)]
      push_cast
      rfl
     have hk2I:(k2:Int)<n:=by omega
     have hST:=crossS_step hkr;have hE:edgeAt r k=⟨r[k],r[k2]⟩:=by
      unfold edgeAt;simp only [HLEN.out,hk2];rw [List.getD_eq_getElem?_getD,List.getElem?_eq_getElem hkr,List.getD_eq_getElem?_getD,List.getElem?_eq_getElem hk2r];rfl
     rw [hE] at hST;have hgp:=good_mem HGD.out (List.getElem_mem hkr);have hgq:=good_mem HGD.out (List.getElem_mem hk2r);have hS0:=crossS_bound HGD.out (by rw [HLEN.out];exact hn128) k;have hS1:=crossS_bound HGD.out (by rw [HLEN.out];exact hn128) (k+1);obtain ⟨b,o,rfl,hb,hcs⟩:=(show PR wr w.heap.size A n r from HR0.out.below HI.out.1).at (show 0<n by omega);obtain ⟨r0,r1⟩:=hcs k hkr;obtain ⟨s0,s1⟩:=hcs k2 hk2r;obtain ⟨p,hp⟩:∃ q,r[k]=q:=⟨_,rfl⟩;obtain ⟨q,hq⟩:∃ q,r[k2]=q:=⟨_,rfl⟩;rw [hp] at r0 r1 hST hgp;rw [hq] at s0 s1 hST hgq;simp only at hST;have hcb:=cross_bound (a:=⟨0,0⟩) (by decide) hgp hgq;obtain ⟨X,hX⟩:∃ X,crossV ⟨0,0⟩ p q=X:=⟨_,rfl⟩;rw [hX] at hST hcb;have hpp:i64ok p.x∧i64ok p.y∧i64ok q.x∧i64ok q.y:=by unfold Pt.good at hgp hgq;unfold i64ok;omega
     have hm1:-4611686018427387904≤p.x * q.y∧p.x * q.y≤4611686018427387904:=by
      unfold Pt.good at hgp hgq;have:=mul_le_sq (u:=p.x) (v:=q.y) (L:=1073741824) (by omega) (by omega) (by omega) (by omega);omega
     have hm2:-4611686018427387904≤p.y * q.x∧p.y * q.x≤4611686018427387904:=by
      unfold Pt.good at hgp hgq;have:=mul_le_sq (u:=p.y) (v:=q.x) (L:=1073741824) (by omega) (by omega) (by omega) (by omega);omega
     have hXe:p.x * q.y - p.y * q.x=X:=by rw [cross_form,hX]
     have HP:=hide hpp;have HMu:=hide (fun w0=>rmul_any p.x q.y w0 hpp.1 hpp.2.2.2);have HMv:=hide (fun w0=>rmul_any p.y q.x w0 hpp.2.1 hpp.2.2.1);obtain ⟨U,hU⟩:∃ U,two (p.x * q.y)=U:=⟨_,rfl⟩;obtain ⟨V,hV⟩:∃ V,two (p.y * q.x)=V:=⟨_,rfl⟩;obtain ⟨C,hC⟩:∃ C,two X=C:=⟨_,rfl⟩;obtain ⟨SS,hSS⟩:∃ SS,two (crossS r k)=SS:=⟨_,rfl⟩;obtain ⟨S1,hS1e⟩:∃ S1,two (crossS r (k+1))=S1:=⟨_,rfl⟩;have HSB:=hide (fun w0=>by
      have h:=rsub_any U V w0 (hU ▸ two_ok (by unfold inr;omega)) (hV ▸ two_ok (by unfold inr;omega));rw [← hU,← hV,two_num,two_num,hXe,(clamp_yes (show inr X from by unfold inr;omega)).1,(clamp_yes (show inr X from by unfold inr;omega)).2,hC,hU,hV] at h;exact h)
     have HAD:=hide (fun w0=>by
      have h:=radd_any SS C w0 (hSS ▸ two_ok hS0) (hC ▸ two_ok (by unfold inr;omega));rw [← hSS,← hC,two_num,two_num,← hST,(clamp_yes hS1).1,(clamp_yes hS1).2,hS1e,hSS,hC] at h;exact h)
     rw [hU] at HMu;rw [hV] at HMv;have HS1:=hide hS1e;have hbr:b<wr.heap.size:=nLl hb HI.out.1.size;have hB4:=HI.out.2.2;rw [hSS] at hB4;obtain ⟨wr2,hwr2⟩:∃ q2,wr.alloc (.cells #[.int .i64 q.x,.int .i64 q.y] 56)=q2:=⟨_,rfl⟩;have hbx:Below wr.heap.size wr wr2:=hwr2 ▸ bal bR _;have HBX:=hide (show Blk wr2 wr.heap.size 56 #[.int .i64 q.x,.int .i64 q.y] from hwr2 ▸ Blk.new _ _ _);have HC:=hide (show ∀ w',Below wr2.heap.size wr2 w'→(w'.cell? ⟨b,o+k * 2,none⟩=some (.int .i64 p.x)∧w'.cell? ⟨b,o+k * 2+1,none⟩=some (.int .i64 p.y))∧b<w'.heap.size from fun w' h=>by
      have hbb:=btr hbx h;exact ⟨⟨(hbb.cell (p:=⟨b,o+k * 2,none⟩) hbr).trans r0,(hbb.cell (p:=⟨b,o+k * 2+1,none⟩) hbr).trans r1⟩,nLl hbr hbb.size⟩)
     have HB4:=hide (hB4.below hbx hB4.lt);have HB0:=hide (HI.out.2.1.below hbx HI.out.2.1.lt);have HBB:=hide (HI.out.1.trans (hbx.mono HI.out.1.size));have HW2:=hide hwr2;clear hcs hp hq hST hE hgp hgq hS0 hS1 hcb hX hpp hm1 hm2 hXe hU hV hC hSS hS1e hB4 hwr2 hbx hk2;go_upto_region 10 with fail
     rw [HW2.out];clear r0 r1 s0 s1;refine wp_region_store (by kernel_rfl) (by kernel_rfl) 59 21
      [⟨0,33,fun v _=>v=.slice (some ⟨b,o,none⟩) n c,fun v _=>v=.slice (some ⟨b,o,none⟩) n c⟩,
       ⟨0,34,fun v _=>v=.int .i64 (k:Int),fun v _=>v=.int .i64 (k:Int)⟩,
       ⟨0,35,fun v _=>v=.pointer (some ⟨b,o+k * 2,none⟩),fun v _=>v=.pointer (some ⟨b,o+k * 2,none⟩)⟩,
       ⟨0,36,fun v _=>v=.pointer (some ⟨b,o+k * 2,none⟩),fun v _=>v=.pointer (some ⟨b,o+k * 2,none⟩)⟩,
       ⟨0,37,fun v _=>v=.int .i64 p.x,fun v _=>v=.int .i64 p.x⟩,
       ⟨0,38,fun v _=>v=.pointer (some ⟨wr.heap.size,1,none⟩),fun v _=>v=.pointer (some ⟨wr.heap.size,1,none⟩)⟩,
       ⟨0,39,fun v _=>v=.int .i64 q.y,fun v _=>v=.int .i64 q.y⟩,
       ⟨0,40,fun v _=>v=.agg #[.int .i64 U.hi,.int .u64 U.lo],fun v _=>v=.agg #[.int .i64 U.hi,.int .u64 U.lo]⟩,
       ⟨0,41,fun v _=>v=.slice (some ⟨b,o,none⟩) n c,fun v _=>v=.slice (some ⟨b,o,none⟩) n c⟩,
       ⟨0,42,fun v _=>v=.int .i64 (k:Int),fun v _=>v=.int .i64 (k:Int)⟩,
       ⟨0,43,fun v _=>v=.pointer (some ⟨b,o+k * 2,none⟩),fun v _=>v=.pointer (some ⟨b,o+k * 2,none⟩)⟩,
       ⟨0,44,fun v _=>v=.pointer (some ⟨b,o+k * 2+1,none⟩),fun v _=>v=.pointer (some ⟨b,o+k * 2+1,none⟩)⟩,
       ⟨0,45,fun v _=>v=.int .i64 p.y,fun v _=>v=.int .i64 p.y⟩,
       ⟨0,46,fun v _=>v=.pointer (some ⟨wr.heap.size,0,none⟩),fun v _=>v=.pointer (some ⟨wr.heap.size,0,none⟩)⟩,
       ⟨0,47,fun v _=>v=.int .i64 q.x,fun v _=>v=.int .i64 q.x⟩,
       ⟨0,48,fun v _=>v=.agg #[.int .i64 V.hi,.int .u64 V.lo],fun v _=>v=.agg #[.int .i64 V.hi,.int .u64 V.lo]⟩,
       ⟨0,49,fun v _=>v=.tuple #[.agg #[.int .i64 C.hi,.int .u64 C.lo],.int .i64 0],fun v _=>v=.tuple #[.agg #[.int .i64 C.hi,.int .u64 C.lo],.int .i64 0]⟩,
       ⟨0,32,fun v _=>v=.tuple #[.agg #[.int .i64 C.hi,.int .u64 C.lo],.int .i64 0],fun v _=>v=.tuple #[.agg #[.int .i64 C.hi,.int .u64 C.lo],.int .i64 0]⟩,
       ⟨0,50,fun v _=>v=.agg #[.int .i64 C.hi,.int .u64 C.lo],fun v _=>v=.agg #[.int .i64 C.hi,.int .u64 C.lo]⟩,
       ⟨1,51,fun v _=>v=.int .i64 0,fun v _=>v=.int .i64 0⟩,
       ⟨0,7,FreshC wr2 (TInt) #[.int .i64 0,.int .u64 0],FreshC wr2 (TInt) #[.int .i64 C.hi,.int .u64 C.lo]⟩,
       ⟨2,0,fun _ _=>True,fun _ _=>True⟩,
       ⟨1,8,fun v _=>v=.int .i64 0,fun v _=>v=.int .i64 0⟩] (St2 7 (.int .i64 C.hi) (.int .u64 C.lo)) [33,34,35,36,37,38,39,40,41,42,43,44,45,46,47,48,49,32,50,51,7,8] rfl (by kernel_rfl) rfl rfl ?_ ?_ ?_ ?_
     ·intro e he hk v w w' _ hb hv;simp only [List.mem_cons,List.not_mem_nil,or_false] at he;rcases he with rfl|rfl|rfl|rfl|rfl|rfl|rfl|rfl|rfl|rfl|rfl|rfl|rfl|rfl|rfl|rfl|rfl|rfl|rfl|rfl|rfl|rfl|rfl
      all_goals first|exact hv|exact FreshC.mono hv hb|exact absurd hk (by decide)
     ·intro e he hk a w w' hst hv;simp only [List.mem_cons,List.not_mem_nil,or_false] at he;rcases he with rfl|rfl|rfl|rfl|rfl|rfl|rfl|rfl|rfl|rfl|rfl|rfl|rfl|rfl|rfl|rfl|rfl|rfl|rfl|rfl|rfl|rfl|rfl
      all_goals first|exact hv|exact FreshC.put2 hst hv|exact trivial|exact absurd hk (by decide)
     ·refine ⟨?_,?_,?_,?_,?_,?_,?_,?_,?_,?_,?_,?_,?_,?_,?_,?_,?_,?_,?_,?_,?_,?_,?_,trivial⟩
      ·intro ac w3 hg hb3 hd K hK;exact op_move _ rfl (hK _ _ bR (hg.kp 0 (by simp)))
      ·intro ac w3 hg hb3 hd K hK;exact op_move _ rfl (hK _ _ bR (hg.kp 5 (by simp)))
      ·intro ac w3 hg hb3 hd K hK;have f0:=hd ⟨0,.data⟩ (by simp) rfl _ rfl rfl;have f1:=hd ⟨1,.data⟩ (by simp) rfl _ rfl rfl;(try simp [Act.eval] at f0);(try simp [Act.eval] at f1);go_simp;exact hK _ _ bR rfl
      ·intro ac w3 hg hb3 hd K hK;have f2:=hd ⟨2,.data⟩ (by simp) rfl _ rfl rfl;(try simp [Act.eval] at f2);go_simp;exact hK _ _ bR rfl
      ·intro ac w3 hg hb3 hd K hK;obtain ⟨⟨x0,x1⟩,x2⟩:=HC.out _ hb3;have f3:=hd ⟨3,.data⟩ (by simp) rfl _ rfl rfl;(try simp [Act.eval] at f3);go_simp;exact hK _ _ bR rfl
      ·intro ac w3 hg hb3 hd K hK;have k6:=hg.kp 6 (by simp);(try simp [Act.eval] at k6);go_simp;exact hK _ _ bR rfl
      ·intro ac w3 hg hb3 hd K hK;have kk:=(HBX.out.below hb3 HBX.out.lt).cell;have zz:=(HBX.out.below hb3 HBX.out.lt).lt;have f5:=hd ⟨5,.data⟩ (by simp) rfl _ rfl rfl;(try simp [Act.eval] at f5);go_simp;exact hK _ _ bR rfl
      ·intro ac w3 hg hb3 hd K hK;have f1:=hd ⟨4,.data⟩ (by simp) rfl _ rfl rfl;have f3:=hd ⟨6,.data⟩ (by simp) rfl _ rfl rfl;simp [Act.eval] at f1 f3;go_simp;refine (HMu.out _).mono ?_;rintro e v4 ⟨rfl,hb4⟩;exact hK _ _ hb4 rfl
      ·intro ac w3 hg hb3 hd K hK;exact op_move _ rfl (hK _ _ bR (hg.kp 0 (by simp)))
      ·intro ac w3 hg hb3 hd K hK;exact op_move _ rfl (hK _ _ bR (hg.kp 5 (by simp)))
      ·intro ac w3 hg hb3 hd K hK;have f8:=hd ⟨8,.data⟩ (by simp) rfl _ rfl rfl;have f9:=hd ⟨9,.data⟩ (by simp) rfl _ rfl rfl;(try simp [Act.eval] at f8);(try simp [Act.eval] at f9);go_simp;exact hK _ _ bR rfl
      ·intro ac w3 hg hb3 hd K hK;have f10:=hd ⟨10,.data⟩ (by simp) rfl _ rfl rfl;(try simp [Act.eval] at f10);go_simp;exact hK _ _ bR rfl
      ·intro ac w3 hg hb3 hd K hK;obtain ⟨⟨x0,x1⟩,x2⟩:=HC.out _ hb3;have f11:=hd ⟨11,.data⟩ (by simp) rfl _ rfl rfl;(try simp [Act.eval] at f11);go_simp;exact hK _ _ bR rfl
      ·intro ac w3 hg hb3 hd K hK;have k6:=hg.kp 6 (by simp);(try simp [Act.eval] at k6);go_simp;exact hK _ _ bR rfl
      ·intro ac w3 hg hb3 hd K hK;have kk:=(HBX.out.below hb3 HBX.out.lt).cell;have zz:=(HBX.out.below hb3 HBX.out.lt).lt;have f13:=hd ⟨13,.data⟩ (by simp) rfl _ rfl rfl;(try simp [Act.eval] at f13);go_simp;exact hK _ _ bR rfl
      ·intro ac w3 hg hb3 hd K hK;have f1:=hd ⟨12,.data⟩ (by simp) rfl _ rfl rfl;have f3:=hd ⟨14,.data⟩ (by simp) rfl _ rfl rfl;simp [Act.eval] at f1 f3;go_simp;refine (HMv.out _).mono ?_;rintro e v4 ⟨rfl,hb4⟩;exact hK _ _ hb4 rfl
      ·intro ac w3 hg hb3 hd K hK;have f1:=hd ⟨7,.data⟩ (by simp) rfl _ rfl rfl;have f3:=hd ⟨15,.data⟩ (by simp) rfl _ rfl rfl;simp [Act.eval] at f1 f3;go_simp;refine (HSB.out _).mono ?_;rintro e v4 ⟨rfl,hb4⟩;exact hK _ _ hb4 rfl
      ·intro ac w3 hg hb3 hd K hK;exact op_move _ rfl (hK _ _ bR (hd ⟨16,.data⟩ (by simp) rfl _ rfl rfl))
      ·intro ac w3 hg hb3 hd K hK;have f17:=hd ⟨17,.data⟩ (by simp) rfl _ rfl rfl;(try simp [Act.eval] at f17);go_simp;exact hK _ _ bR rfl
      ·constructor
       ·intro ac w3 hg hb3 hd K hK;have f17:=hd ⟨17,.data⟩ (by simp) rfl _ rfl rfl;(try simp [Act.eval] at f17);go_simp;exact hK _ _ bR rfl
       ·intro ac w3 hg hd K hK;have f17:=hd ⟨17,.data⟩ (by simp) rfl _ rfl rfl;(try simp [Act.eval] at f17);go_simp;exact hK _ rfl
      ·intro ac w3 hg hb3 hd K hK;go_simp;exact hK (.pointer (some ⟨w3.heap.size,0,none⟩)) _ (bal bR _) (FreshC.new hb3)
      ·intro ac w3 hg hb3 hd K hK;obtain ⟨_,g,f1,f2,f3⟩:=hd ⟨20,.data⟩ (by simp) rfl _ rfl rfl;have fv:=hd ⟨18,.data⟩ (by simp) rfl _ rfl rfl;have f0:=f1;(try simp [Act.eval] at f1);(try simp [Act.eval] at fv);have kc:=f3.cell;have qc:=f3.frozen;have zc:=f3.lt;clear f2 f3;have F0:=hide f0;clear f0;go_simp;exact hK _ ⟨g,F0.out,rfl⟩
      ·constructor
       ·intro ac w3 hg hb3 hd K hK;exact op_assign _ rfl (hK _ _ bR (hd ⟨19,.data⟩ (by simp) rfl _ rfl rfl))
       ·intro ac w3 hg hd K hK;exact op_assign _ rfl (hK _ (hd ⟨19,.data⟩ (by simp) rfl _ rfl rfl))
     ·intro f wz hall;obtain ⟨hbz,g,hp7,hg0,hkz⟩:FreshC wr2 TInt #[.int .i64 C.hi,.int .u64 C.lo] (f 7) wz:=hall _ (List.mem_of_getElem? (i:=20) rfl) (show (0:Nat)<2 by decide);have h8:f 8=.int .i64 0:=hall _ (List.mem_of_getElem? (i:=22) rfl) (show (1:Nat)<2 by decide);simp only [fillF,List.foldl_cons,List.foldl_nil,Act.put,List.setIfInBounds_toArray,List.set_cons_zero,List.set_cons_succ];rw [hp7,h8];have HQ4:=hide (HB4.out.below hbz HB4.out.lt);have HQ0:=hide (HB0.out.below hbz HB0.out.lt);have HBZ:=hide (HBB.out.trans (hbz.mono HBB.out.size));have k4:=HQ4.out.cell;have f4:=HQ4.out.frozen;have z4:=HQ4.out.lt;have kg:=hkz.cell;have yg:=hkz.lt;clear hall hp7 h8 hkz hbz;go_wp2_with (go_at_call 57;go_loud (refine (HAD.out wz).mono ?_);rintro e w9 ⟨rfl,hb9⟩;have hk9:=HQ4.out.below hb9 HQ4.out.lt;have HK9:=hide hk9;have HJ0:=hide (HQ0.out.below hb9 HQ0.out.lt);have HBJ:=hide (HBZ.out.trans (hb9.mono HBZ.out.size));clear k4 f4 z4;have k4:=hk9.cell;have f4:=hk9.frozen;have z4:=hk9.lt;clear hk9 hb9)
      refine ⟨⟨k+1,by go_num,by omega,hide ⟨?_,?_,?_⟩⟩,?_⟩
      ·exact (HBJ.out.setCell (p:=⟨g4,0,none⟩) (Nat.le_of_lt hne) _).setCell (p:=⟨g4,1,none⟩) (Nat.le_of_lt hne) _
      ·exact (HJ0.out.far (p:=⟨g4,0,none⟩) (by simp;omega) _).far (p:=⟨g4,1,none⟩) (by simp;omega) _
      ·rw [HS1.out];exact (HK9.out.set_ 0 _).set_ 1 _
      ·simp [intOf];omega
    ·have hltI:¬ (k:Int)<n:=by omega
     obtain rfl:k=n:=by omega
     have hka:=HI.out.2.2;have hkr:=HI.out.2.1;rw [show crossS r k=areaV r from by rw [← HLEN.out];exact crossS_all r] at hka;obtain ⟨V,hV⟩:∃ V,two (areaV r)=V:=⟨_,rfl⟩;rw [hV] at hka HAI;have ka:=hka.cell;have fa:=hka.frozen;have za:=hka.lt;have kr:=hkr.cell;have fr:=hkr.frozen;have zr:=hkr.lt;have HBB:=hide HI.out.1;clear hka hkr hV HI;go_wp2_with fail
     refine bodyPost_ret (v:=.tuple #[.agg #[.int .i64 V.hi,.int .u64 V.lo],.int .i64 0]) (by simp (maxDischargeDepth:=9) [results,Tryz.results36,go_sem,kr,zr];done) rfl ⟨by rw [HA.out,HAI.out],?_⟩;exact (HBB.out.setCell (p:=⟨w.heap.size,0,none⟩) (Nat.le_refl _) _).setCell (p:=⟨w.heap.size,1,none⟩) (Nat.le_refl _) _
theorem same_end {xs ys:List Pt} {k:Nat} (hk:k≤xs.length) (hk2:k≤ys.length) (h:xs.take k=ys.take k) (he:k=xs.length∨k=ys.length):decide (xs=ys)=decide (xs.length=ys.length):=by
 by_cases hl:xs.length=ys.length
 ·rw [decide_eq_true hl];have h1:k=xs.length:=by omega
  rw [List.take_of_length_le (by omega),List.take_of_length_le (by omega)] at h;exact decide_eq_true h
 ·rw [decide_eq_false hl];exact decide_eq_false fun e=>hl (by rw [e])
theorem decide_beq (n m:Nat):decide (n=m)=((n:Int) == m):=by
 by_cases h:n=m
 ·simp [h]
 ·have h2:¬ (n:Int)=m:=by omega
  simp [h,h2]
set_option maxRecDepth 100000 in
set_option maxHeartbeats 1000000 in
theorem rsame_any (xs ys:List Pt) (A A':Option Addr) (n m c d:Nat) (w:World) (h1:PR w w.heap.size A n xs) (h2:PR w w.heap.size A' m ys) (hn:n≤9000000000000000000) (hm:m≤9000000000000000000) :
 Calls Tryz.prog 54 #[.slice A n c,.slice A' m d] w fun e w'=>e=.returned (.bool (decide (xs=ys)))∧Below w.heap.size w w':=by
 have l1:=h1.1;have l2:=h2.1;have HX:=hide h1;have HY:=hide h2;have HL1:=hide l1;have HL2:=hide l2;have hgt:Tryz.prog.eqGuardType Tryz.prog.depth 56=false:=by kernel_rfl
 clear h1 h2 l1 l2
 go_enter Tryz.func54,Tryz.ntmps54
 go_wp2_with fail
 go_loopw [5] (fun v5 wr=>∃ (k:Nat),v5=.int .i64 (k:Int)∧k≤n∧k≤m∧Hid (Below w.heap.size w wr∧xs.take k=ys.take k)) (fun v _=>n - (intOf v).toNat)
 case atStart=>exact ⟨0,rfl,by omega,by omega,hide ⟨Below.refl _ _,by simp⟩⟩
 case round=>
  obtain ⟨k,rfl,hkn,hkm,HI⟩:=hrel;by_cases hlt:k<n
  ·have hltI:(k:Int)<n:=by omega
   by_cases hlm:k<m
   ·have hlmI:(k:Int)<m:=by omega
    have hx:k<xs.length:=by rw [HL1.out];exact hlt
    have hy:k<ys.length:=by rw [HL2.out];exact hlm
    obtain ⟨b,o,rfl,hb,hcs⟩:=HX.out.at (by omega);obtain ⟨b',o',rfl,hb',hcs'⟩:=HY.out.at (by omega);obtain ⟨r0,r1⟩:=hcs k hx;obtain ⟨s0,s1⟩:=hcs' k hy;have hT1:=List.take_succ_eq_append_getElem hx;have hT2:=List.take_succ_eq_append_getElem hy;obtain ⟨p,hp⟩:∃ q,xs[k]=q:=⟨_,rfl⟩;obtain ⟨q,hq⟩:∃ q,ys[k]=q:=⟨_,rfl⟩;rw [hp] at r0 r1 hT1;rw [hq] at s0 s1 hT2;have r0:=(HI.out.1.cell (p:=⟨b,o+k * 2,none⟩) hb).trans r0;have r1:=(HI.out.1.cell (p:=⟨b,o+k * 2+1,none⟩) hb).trans r1;have s0:=(HI.out.1.cell (p:=⟨b',o'+k * 2,none⟩) hb').trans s0;have s1:=(HI.out.1.cell (p:=⟨b',o'+k * 2+1,none⟩) hb').trans s1;have hbr:b<wr.heap.size:=nLl hb HI.out.1.size;have hbr':b'<wr.heap.size:=nLl hb' HI.out.1.size;have heq:=fun w1=>eq_pt p.x p.y q.x q.y w1
    obtain ⟨t,ht⟩:∃ t,(p.x == q.x&&p.y == q.y)=t:=⟨_,rfl⟩;rw [ht] at heq;rw [eqb_pt] at ht;have HT:=hide ht;have HP:=hide hp;have HQ:=hide hq;have HT1:=hide hT1;have HT2:=hide hT2;clear ht hp hq hT1 hT2 hcs hcs';go_upto_region 4 with fail
    go_quiet (fail)
    have HBB:=hide (HI.out.1.trans ((bdn wr nq).mono HI.out.1.size));cases t
    ·have HF:=hide (show decide (xs=ys)=false from decide_eq_false fun e=>by
      have h:=HT.out;simp only [decide_eq_false_iff_not] at h;apply h;rw [← HP.out,← HQ.out];subst e;rfl)
     go_wp2_with fail
     go_ret;exact ⟨by rw [HF.out];rfl,HBB.out⟩
    ·have HF:=hide (show xs.take (k+1)=ys.take (k+1) from by
      have h:=HT.out;simp only [decide_eq_true_eq] at h;rw [HT1.out,HT2.out,HI.out.2,h])
     go_wp2_with fail
     go_roundw
     case rel=>exact ⟨k+1,by go_num,by omega,by omega,hide ⟨HBB.out,HF.out⟩⟩
     case measure=>simp [intOf];omega
   ·have hlmI:¬ (k:Int)<m:=by omega
    obtain ⟨q,hq⟩:∃ q,((n:Int) == m)=q:=⟨_,rfl⟩;have HF:=hide (show decide (xs=ys)=q from by
     rw [same_end (by rw [HL1.out];exact hkn) (by rw [HL2.out];exact hkm) HI.out.2 (by rw [HL1.out,HL2.out];omega),← hq,HL1.out,HL2.out];exact decide_beq n m)
    go_wp2_with fail
    go_ret;exact ⟨by rw [HF.out];rfl,HI.out.1⟩
  ·have hltI:¬ (k:Int)<n:=by omega
   obtain ⟨q,hq⟩:∃ q,((n:Int) == m)=q:=⟨_,rfl⟩;have HF:=hide (show decide (xs=ys)=q from by
    rw [same_end (by rw [HL1.out];exact hkn) (by rw [HL2.out];exact hkm) HI.out.2 (by rw [HL1.out,HL2.out];omega),← hq,HL1.out,HL2.out];exact decide_beq n m)
   go_wp2_with fail
   go_ret;exact ⟨by rw [HF.out];rfl,HI.out.1⟩
set_option maxHeartbeats 400000 in
theorem rsign_any (x:I2) (w:World) (hx:x.ok) :
 Calls Tryz.prog 37 #[.agg #[.int .i64 x.hi,.int .u64 x.lo]] w fun e w'=>e=.returned (.int .i64 (cmpOf x.num 0))∧Below w.heap.size w w':=by
 have HS:=hide (sign_num x hx);clear hx;cases d0:decide (x.hi<0)
 ·rcases zero_ways x with ⟨z1,z2⟩|z1|⟨z1,z2⟩
  ·have HV:Hid (cmpOf x.num 0=0):=hide (by rw [HS.out,if_neg (by simpa using d0),if_pos (by simp at z1 z2;exact ⟨z1,z2⟩)])
   go_enter Tryz.func37,Tryz.ntmps37
   go_wp2
   go_ret;exact ⟨ret_int HV.out.symm,by (repeat (first|exact Below.refl _ _|refine Below.drew ?_|refine Below.setCell ?_ (by simp;try omega) _|refine bal ?_ _))⟩
  ·have HV:Hid (cmpOf x.num 0=1):=hide (by rw [HS.out,if_neg (by simpa using d0),if_neg (by simp at z1;omega)])
   go_enter Tryz.func37,Tryz.ntmps37
   go_wp2
   go_ret;exact ⟨ret_int HV.out.symm,by (repeat (first|exact Below.refl _ _|refine Below.drew ?_|refine Below.setCell ?_ (by simp;try omega) _|refine bal ?_ _))⟩
  ·have HV:Hid (cmpOf x.num 0=1):=hide (by rw [HS.out,if_neg (by simpa using d0),if_neg (by simp at z2;omega)])
   go_enter Tryz.func37,Tryz.ntmps37
   go_wp2
   go_ret;exact ⟨ret_int HV.out.symm,by (repeat (first|exact Below.refl _ _|refine Below.drew ?_|refine Below.setCell ?_ (by simp;try omega) _|refine bal ?_ _))⟩
 ·have HV:Hid (cmpOf x.num 0 = -1):=hide (by rw [HS.out,if_pos (by simpa using d0)])
  go_enter Tryz.func37,Tryz.ntmps37
  go_wp2
  go_ret;exact ⟨ret_int HV.out.symm,by (repeat (first|exact Below.refl _ _|refine Below.drew ?_|refine Below.setCell ?_ (by simp;try omega) _|refine bal ?_ _))⟩
theorem cmp_pos (n:Int):(cmpOf n 0 == 1)=decide (0<n):=by
 unfold cmpOf
 repeat' split
 all_goals (simp;try omega)
def lessB (p q:Pt):Bool:=decide (p.x<q.x)||(decide (p.x=q.x)&&decide (p.y<q.y))
theorem lessB_iff (p q:Pt):lessB p q=true ↔ orderV p q<0:=by
 rw [orderV_neg];unfold lessB;simp only [Bool.or_eq_true,Bool.and_eq_true,decide_eq_true_eq]
theorem minP_le:∀ (l:List Pt) (p:Pt),∀ x∈p :: l,¬ orderV x (l.foldl minStep p)<0
 | [],p,x,hx=>by
   simp only [List.mem_cons,List.not_mem_nil,or_false] at hx;subst hx;rw [List.foldl_nil,(orderV_eq x x).2 rfl];omega
 | q :: l,p,x,hx=>by
   rw [List.foldl_cons];have hm:=minP_le l (minStep p q);have h0:=hm (minStep p q) (by simp);rcases List.mem_cons.1 hx with rfl|hx
   ·unfold minStep at h0 hm ⊢;by_cases hq:orderV q x<0
    ·rw [if_pos hq] at h0 ⊢;have:=h0;rw [orderV_neg] at *;omega
    ·rw [if_neg hq] at h0 ⊢;exact h0
   ·rcases List.mem_cons.1 hx with rfl|hx
    ·unfold minStep at h0 hm ⊢;by_cases hq:orderV x p<0
     ·rw [if_pos hq] at h0 ⊢;exact h0
     ·rw [if_neg hq] at h0 ⊢;have h1:=h0;rw [orderV_neg] at *;omega
    ·exact hm x (by simp [hx])
theorem minP_least {l:List Pt} {x:Pt} (h:x∈l):¬ orderV x (minP l)<0:=by
 cases l with
 | nil=>cases h
 | cons p l=>exact minP_le l p x h
theorem leastK_step {r:List Pt} {i:Nat} (hi:i<r.length) (h0:0<i) {k:Nat} (hk:leastK (r.take i)=k) (hkr:k<r.length) :
 leastK (r.take (i+1))=if lessB r[i] r[k] then i else k:=by
 have hl:0<(r.take i).length:=by rw [List.length_take];omega
 have hkl:=leastK_lt hl;rw [hk] at hkl;have hrk:r[k]=minP (r.take i):=by
  have h1:(r.take i)[k]=minP (r.take i):=by
   have:(r.take i)[(r.take i).idxOf (minP (r.take i))]'(List.idxOf_lt_length_iff.2 (minP_mem hl))=minP (r.take i):=List.getElem_idxOf _;unfold leastK at hk;simpa only [hk] using this
  rw [← h1,List.getElem_take]
 have hm:minP (r.take (i+1))=minStep (minP (r.take i)) r[i]:=minP_take hi h0;unfold leastK;rw [hm,hrk];unfold minStep;by_cases hq:orderV r[i] (minP (r.take i))<0
 ·rw [if_pos hq,if_pos ((lessB_iff _ _).2 hq),List.take_succ_eq_append_getElem hi,List.idxOf_append,if_neg (fun h=>minP_least h hq)];simp;omega
 ·rw [if_neg hq,if_neg (fun h=>hq ((lessB_iff _ _).1 h)),List.take_succ_eq_append_getElem hi,List.idxOf_append,if_pos (minP_mem hl)];exact hk
theorem leastK_one {r:List Pt} (h:0<r.length):leastK (r.take 1)=0:=by
 match r,h with
 | p :: r,_=>simp [leastK,minP]
theorem least_take {r:List Pt} {k i:Nat} (hk:k<r.length) (hi:i<r.length) :
 (r.drop k++r.take k).take (i+1)=(r.drop k++r.take k).take i++[r[(k+i) % r.length]'(Nat.mod_lt _ (by omega))]:=by
 have hl:(r.drop k++r.take k).length=r.length:=by rw [List.length_append,List.length_drop,List.length_take];omega
 have hi2:i<(r.drop k++r.take k).length:=by omega
 rw [List.take_succ_eq_append_getElem hi2];congr 2;by_cases h:i<r.length - k
 ·rw [List.getElem_append_left (by rw [List.length_drop];exact h),List.getElem_drop];congr 1;rw [Nat.mod_eq_of_lt (by omega)]
 ·rw [List.getElem_append_right (by rw [List.length_drop];omega),List.getElem_take];congr 1;rw [List.length_drop,show (k+i)=(i - (r.length - k))+r.length by omega,Nat.add_mod_right,Nat.mod_eq_of_lt (by omega)]
theorem two_new1 (w:World) (t:TypeId) (a b:Value):∀ j u,[a,b][j]? = some u→(w.alloc (.cells #[a,b] t)).cell? ((⟨w.heap.size,0,none⟩:Addr).add j)=some u:=fun j u hu=>by
 have e:=(Blk.new w t #[a,b]).cell j;rw [show (⟨w.heap.size,0,none⟩:Addr).add j=⟨w.heap.size,j,none⟩ by simp [Addr.add];exact fun h=>h.symm,e];simpa using hu
set_option maxRecDepth 100000 in
set_option maxHeartbeats 2000000 in
theorem rleast_any (r:List Pt) (A:Option Addr) (n c:Nat) (w:World) (hr:PR w w.heap.size A n r) (hn:n≤1000000000) :
 Calls Tryz.prog 102 #[.slice A n c] w fun e w'=>∃ v,e=.returned v∧w'.ownsRow w.heap.size 56 2 v n ((leastL r).flatMap Pt.enc)∧Below w.heap.size w w':=by
 obtain ⟨i0,hi0,hz0,hz1,hz2⟩:=pt_inf;have hlen:=hr.1;have HR:=hide hr;have HLEN:=hide hlen;clear hr hlen
 go_enter Tryz.func102,Tryz.ntmps102
 go_wp2_with fail
 go_loopw [3,4] (fun v3 v4 wr=>∃ (i k:Nat),v4=.int .i64 (i:Int)∧v3=.int .i64 (k:Int)∧i≤n∧(k<n∨n=0∧k=0)∧Hid (Below w.heap.size w wr∧(i=0∧k=0∨0<i∧leastK (r.take i)=k))) (fun _ v _=>n - (intOf v).toNat)
 case atStart=>exact ⟨0,0,rfl,rfl,by omega,by omega,hide ⟨Below.refl _ _,.inl ⟨rfl,rfl⟩⟩⟩
 case round=>
  obtain ⟨i,k,rfl,rfl,hin,hkn,HI⟩:=hrel;by_cases hlt:i<n
  ·have hltI:(i:Int)<n:=by omega
   have hkn2:k<n:=by omega
   have hkI:(k:Int)<n:=by omega
   have hi:i<r.length:=by rw [HLEN.out];exact hlt
   have hk:k<r.length:=by rw [HLEN.out];exact hkn2
   obtain ⟨b,o,rfl,hb,hcs⟩:=HR.out.at (show 0<n by omega);obtain ⟨r0,r1⟩:=hcs i hi;obtain ⟨s0,s1⟩:=hcs k hk;have HST:=hide (show leastK (r.take (i+1))=if lessB r[i] r[k] then i else k from by
    rcases HI.out.2 with ⟨rfl,rfl⟩|⟨h0,h1⟩
    ·rw [leastK_one (by omega)];split <;> rfl
    ·exact leastK_step hi h0 h1 hk)
   obtain ⟨p,hp⟩:∃ q,r[i]=q:=⟨_,rfl⟩;obtain ⟨q,hq⟩:∃ q,r[k]=q:=⟨_,rfl⟩;rw [hp] at r0 r1 HST;rw [hq] at s0 s1 HST;obtain ⟨t,ht⟩:∃ t,lessB p q=t:=⟨_,rfl⟩;rw [ht] at HST;have HL:=hide (fun w0=>rless_any p q w0);simp only [show (decide (p.x<q.x)||(decide (p.x=q.x)&&decide (p.y<q.y)))=t from ht] at HL;have r0:=(HI.out.1.cell (p:=⟨b,o+i * 2,none⟩) hb).trans r0;have r1:=(HI.out.1.cell (p:=⟨b,o+i * 2+1,none⟩) hb).trans r1;have s0:=(HI.out.1.cell (p:=⟨b,o+k * 2,none⟩) hb).trans s0;have s1:=(HI.out.1.cell (p:=⟨b,o+k * 2+1,none⟩) hb).trans s1;have hbr:b<wr.heap.size:=nLl hb HI.out.1.size;have HC:=hide (show ∀ w',Below wr.heap.size wr w'→(w'.cell? ⟨b,o+i * 2,none⟩=some (.int .i64 p.x)∧w'.cell? ⟨b,o+i * 2+1,none⟩=some (.int .i64 p.y)∧w'.cell? ⟨b,o+k * 2,none⟩=some (.int .i64 q.x)∧w'.cell? ⟨b,o+k * 2+1,none⟩=some (.int .i64 q.y))∧b<w'.heap.size from fun w' h=>
    ⟨⟨(h.cell (p:=⟨b,o+i * 2,none⟩) hbr).trans r0,(h.cell (p:=⟨b,o+i * 2+1,none⟩) hbr).trans r1,(h.cell (p:=⟨b,o+k * 2,none⟩) hbr).trans s0,(h.cell (p:=⟨b,o+k * 2+1,none⟩) hbr).trans s1⟩,nLl hbr h.size⟩)
   clear r0 r1 s0 s1 hcs hp hq ht;go_upto_region 5 with fail
   refine wp_region_dag (by kernel_rfl) (by kernel_rfl) 42 0
    [⟨some 13,[0],[],[],[],[],fun _ _ v _=>v=.slice (some ⟨b,o,none⟩) n c⟩,
     ⟨some 14,[0],[],[],[],[],fun _ _ v _=>v=.int .i64 (i:Int)⟩,
     ⟨some 15,[0],[],[],[0,1],[],fun _ _ v _=>v=.pointer (some ⟨b,o+i * 2,none⟩)⟩,
     ⟨some 16,[0],[],[],[2],[],fun _ _ v _=>v=.agg #[.int .i64 p.x,.int .i64 p.y]⟩,
     ⟨some 17,[0],[],[],[],[],fun _ _ v _=>v=.slice (some ⟨b,o,none⟩) n c⟩,
     ⟨some 18,[0],[],[],[],[],fun _ _ v _=>v=.int .i64 (k:Int)⟩,
     ⟨some 19,[0],[],[],[4,5],[],fun _ _ v _=>v=.pointer (some ⟨b,o+k * 2,none⟩)⟩,
     ⟨some 20,[0],[],[],[6],[],fun _ _ v _=>v=.agg #[.int .i64 q.x,.int .i64 q.y]⟩,
     ⟨some 21,[0],[],[],[3,7],[],fun _ _ v _=>v=.bool t⟩] (fun _ w'=>Below wr.heap.size wr w') (fun _ _ _ _ _=>False) (fun _ w w'=>Below w.heap.size w w') ?gu ?ru ?put [13,14,15,16,17,18,19,20,21] rfl (by kernel_rfl) rfl ?g0 ?keep ?steps ?fin
   case ru=>
    intro e he s a v w w' hu hv;simp only [List.mem_cons,List.not_mem_nil,or_false] at he;rcases he with rfl|rfl|rfl|rfl|rfl|rfl|rfl|rfl|rfl
    all_goals first|exact hv
   case put=>
    intro e he s a d u v w hnd hv;simp only [List.mem_cons,List.not_mem_nil,or_false] at he;rcases he with rfl|rfl|rfl|rfl|rfl|rfl|rfl|rfl|rfl
    all_goals first|exact hv
   case keep=>
    intro e he s s' a v w w' hsl hm ht hv;simp only [List.mem_cons,List.not_mem_nil,or_false] at he;rcases he with rfl|rfl|rfl|rfl|rfl|rfl|rfl|rfl|rfl
    all_goals first|exact hv|exact ht.elim
   case steps=>
    refine ⟨?_,?_,?_,?_,?_,?_,?_,?_,?_,trivial⟩
    ·intro st hst ac w3 hg hG hd K hK;dsimp only at hst hG hK;exact op_move _ rfl (hK _ _ bR (hg.kp 0 (by simp)))
    ·intro st hst ac w3 hg hG hd K hK;dsimp only at hst hG hK;exact op_move _ rfl (hK _ _ bR (hg.kp 4 (by simp)))
    ·intro st hst ac w3 hg hG hd K hK;dsimp only at hst hG hK;have f0:=hd 0 (by simp) _ rfl _ rfl;have f1:=hd 1 (by simp) _ rfl _ rfl;(try simp [Act.eval] at f0);(try simp [Act.eval] at f1);go_simp;exact hK _ _ bR rfl
    ·intro st hst ac w3 hg hG hd K hK;dsimp only at hst hG hK;obtain ⟨⟨x0,x1,x2,x3⟩,x4⟩:=HC.out _ hG;clear hG;have f2:=hd 2 (by simp) _ rfl _ rfl;(try simp [Act.eval] at f2);go_simp;exact hK _ _ bR rfl
    ·intro st hst ac w3 hg hG hd K hK;dsimp only at hst hG hK;exact op_move _ rfl (hK _ _ bR (hg.kp 0 (by simp)))
    ·intro st hst ac w3 hg hG hd K hK;dsimp only at hst hG hK;exact op_move _ rfl (hK _ _ bR (hg.kp 3 (by simp)))
    ·intro st hst ac w3 hg hG hd K hK;dsimp only at hst hG hK;have f4:=hd 4 (by simp) _ rfl _ rfl;have f5:=hd 5 (by simp) _ rfl _ rfl;(try simp [Act.eval] at f4);(try simp [Act.eval] at f5);go_simp;exact hK _ _ bR rfl
    ·intro st hst ac w3 hg hG hd K hK;dsimp only at hst hG hK;obtain ⟨⟨x0,x1,x2,x3⟩,x4⟩:=HC.out _ hG;clear hG;have f6:=hd 6 (by simp) _ rfl _ rfl;(try simp [Act.eval] at f6);go_simp;exact hK _ _ bR rfl
    ·intro st hst ac w3 hg hG hd K hK;dsimp only at hst hG hK;have f1:=hd 3 (by simp) _ rfl _ rfl;have f2:=hd 7 (by simp) _ rfl _ rfl;clear hG;simp [Act.eval] at f1 f2;go_simp;(refine (HL.out w3).mono ?_);rintro e w4 ⟨rfl,hb4⟩;exact hK _ w4 hb4 rfl
   case gu=>intro s w1 w2 hG hu;exact hG.trans (hu.mono hG.size)
   case g0=>exact bR.drew
   case fin=>
    intro f9 w9 hG hall;have h21:=hall _ (List.mem_of_getElem? (i:=8) rfl) 21 rfl;clear hall;have HBB:=hide (HI.out.1.trans (hG.mono HI.out.1.size));clear hG;simp only [fillF,List.map_cons,List.map_nil,List.foldl_cons,List.foldl_nil,Act.put,List.setIfInBounds_toArray,List.set_cons_zero,List.set_cons_succ];rw [h21];cases t
    ·go_wp2_with fail
     refine ⟨⟨i+1,k,by go_num,rfl,by omega,by omega,hide ⟨HBB.out,.inr ⟨by omega,by have:=HST.out;simpa using this⟩⟩⟩,?_⟩;simp [intOf];omega
    ·go_wp2_with fail
     refine ⟨⟨i+1,i,by go_num,rfl,by omega,by omega,hide ⟨HBB.out,.inr ⟨by omega,by have:=HST.out;simpa using this⟩⟩⟩,?_⟩;simp [intOf];omega
  ·have hltI:¬ (i:Int)<n:=by omega
   obtain rfl:i=n:=by omega
   have HK:=hide (show leastL r=r.drop k++r.take k from by
    unfold leastL;rcases HI.out.2 with ⟨h0,rfl⟩|⟨h0,h1⟩
    ·have:r=[]:=List.eq_nil_of_length_eq_zero (by rw [HLEN.out];exact h0);subst this;rfl
    ·rw [List.take_of_length_le (by rw [HLEN.out];exact Nat.le_refl _)] at h1;rw [h1])
   have HB1:=hide HI.out.1;clear HI;go_wp2_with fail
   go_loopw [5,6] (fun v5 v6 wr'=>∃ (j c5:Nat) (A5:Option Addr),v6=.int .i64 (j:Int)∧v5=.slice A5 j c5∧j≤i∧Hid (Below w.heap.size w wr'∧wr'.ownsRow w.heap.size 56 2 (.slice A5 j c5) j (((r.drop k++r.take k).take j).flatMap Pt.enc))) (fun _ v _=>i - (intOf v).toNat)
   case atStart=>exact ⟨0,0,none,rfl,rfl,by omega,hide ⟨HB1.out,World.ownsRow_nil _ _ _ _⟩⟩
   case round=>
    obtain ⟨j,c5,A5,rfl,rfl,hj,HI⟩:=hrel;by_cases hlt2:j<i
    ·have hltJ:(j:Int)<i:=by omega
     have hk:k<r.length:=by rw [HLEN.out];omega
     have hjr:j<r.length:=by rw [HLEN.out];exact hlt2
     obtain ⟨x,hx⟩:∃ x,(k+j) % i=x:=⟨_,rfl⟩;have hxn:x<i:=by rw [← hx];exact Nat.mod_lt _ (by omega)
     have hxr:x<r.length:=by rw [HLEN.out];exact hxn
     have hxm:((k:Int)+j).tmod i=x:=by rw [← hx];exact (by push_cast;exact Int.tmod_eq_emod_of_nonneg (by omega))
     have hxI:(x:Int)<i:=by omega
     obtain ⟨b,o,rfl,hb,hcs⟩:=HR.out.at (show 0<i by omega);obtain ⟨r0,r1⟩:=hcs x hxr;have hT:=least_take hk hjr;simp only [HLEN.out,hx] at hT;obtain ⟨p,hp⟩:∃ q,r[x]=q:=⟨_,rfl⟩;rw [hp] at r0 r1 hT;have HT:=hide (show ((r.drop k++r.take k).take (j+1)).flatMap Pt.enc=((r.drop k++r.take k).take j).flatMap Pt.enc++[.int .i64 p.x,.int .i64 p.y] from by rw [hT,List.flatMap_append,List.flatMap_singleton];rfl);replace r0:=(HI.out.1.cell (p:=⟨b,o+x * 2,none⟩) hb).trans r0;replace r1:=(HI.out.1.cell (p:=⟨b,o+x * 2+1,none⟩) hb).trans r1;have hbr:b<wr.heap.size:=nLl hb HI.out.1.size;have HB2:=hide HI.out.1;have HROW:=hide (own_later HI.out.2 (bal (Below.refl _ wr) (.cells #[.int .i64 p.x,.int .i64 p.y] 56)));have HF5:=hide (two_new1 wr 56 (.int .i64 p.x) (.int .i64 p.y));have hwb:w.heap.size≤(wr.alloc (.cells #[.int .i64 p.x,.int .i64 p.y] 56)).heap.size:=Nat.le_trans HB2.out.size (bal (Below.refl _ wr) _).size;clear HI hcs;go_wp2_with (at_builtin;go_loud (refine wpList_append_own_at _ rfl (.tmp 29) (.tmp 39) _ rfl w.heap.size 56 i0 _ 2 16 Tryz.underlying23 hi0 hz0 hz1 hz2 rfl (by decide) (.slice A5 j c5) j _ rfl HROW.out ⟨wr.heap.size,0,none⟩ 1 1 [.int .i64 p.x,.int .i64 p.y] rfl rfl HF5.out (by intro u hu;simp at hu;rcases hu with rfl|rfl <;> rfl) (by unfold maxLen;omega) (by omega) hwb ?_);intro v' w6 hown hgrow _ _;(obtain ⟨A7,c7,rfl,hob7⟩:=own_sl hown);have HOWN:=hide hown;have HGR:=hide hgrow;clear hown hgrow)
     refine ⟨⟨j+1,c7,A7,by go_num,rfl,by omega,hide ⟨?_,by rw [HT.out];exact HOWN.out⟩⟩,?_⟩
     ·exact (bal HB2.out _).grown HGR.out hwb (fun q e=>(HROW.out.lt q e).1)
     ·simp [intOf];omega
    ·have hltJ:¬ (j:Int)<i:=by omega
     obtain rfl:j=i:=by omega
     have hq:=HI.out.2;rw [List.take_of_length_le (by rw [List.length_append,List.length_drop,List.length_take,HLEN.out];omega),← HK.out] at hq;have HQ:=hide hq;clear hq;go_wp2_with fail
     go_ret;exact ⟨_,rfl,HQ.out,HI.out.1⟩
end Go.Proofs.YtacinobmcgcccaaGreatDoor
