/- slices.Grow of nothing; slices.Concat. -/
import Derived.Test.YtkolacaceaamoaaKMr
set_option linter.unusedSimpArgs false
set_option linter.unusedVariables false
namespace Go.Proofs.Ytkolacaceaamoaa
open Go.RowKit
set_option maxHeartbeats 1000000 in
theorem grow_items {w:World} (n:Nat) (hn:n ≤ 1000000000):Calls Try.prog 90 #[.slice none 0 0,.int .i64 (n:Int)] w fun e w'=>∃ v,e = .returned v ∧ w'.ownsRow w.heap.size TIt 2 v 0 [] ∧ Below w.heap.size w w':=by
 obtain ⟨i0,hi0,hz0,hz1,hz2⟩:=tit_inf
 have d1:decide ((n:Int) < 0) = false:=by simp
 rcases Nat.eq_zero_or_pos n with h0 | h0
 ·subst h0
  go_enter Try.func90,Try.ntmps90
  go_wp2_with fail
  go_ret
  exact ⟨_,rfl,World.ownsRow_nil _ _ _ _,Below.refl _ _⟩
 ·have d2:decide (0 < (n:Int)) = true:=by simp; omega
  obtain ⟨gc,hgc⟩:∃ gc,grownCap w n 0 TIt = gc:=⟨_,rfl⟩
  have hge:=grownCap_ge w n 0 TIt
  have hgm:=grownCap_le_maxLen w n 0 TIt (by unfold maxLen; omega)
  have hold:(Builtin.firstCells i0.size 0 (.slice none 0 0)).run Try.prog w.drew = .ok ([]:List Value).toArray w.drew:=by simp [Builtin.firstCells]
  have hr:=Go.Lib.run_append_grow_zeros (P:=Try.prog) w 32 3 32 TIt i0 _ .i64 .i64 Try.underlying32 Try.underlying3 hi0 hz0 none 0 0 [] hold n h0 (by omega) (by omega) (by omega) (by rw [hz2]; omega) (growslice_fits (by omega) (by rw [hz2]; omega))
  rw [Nat.zero_add,hgc] at hr
  rw [hgc] at hge hgm
  obtain ⟨w3,hw3⟩:∃ w3,(w.drew.alloc (.cells ((([]:List Value).toArray) ++ Builtin.zeroCells (Value.cells (.agg #[.slice none 0 0,.slice none 0 0])) n ++ Builtin.zeroCells (Value.cells (.agg #[.slice none 0 0,.slice none 0 0])) (gc - n)) TIt)) = w3:=⟨_,rfl⟩
  rw [hw3] at hr
  have HOW:=hide (show w3.ownsRow w.heap.size TIt 2 (.slice (some ⟨w.heap.size,0,none⟩) 0 gc) 0 [] from ⟨rfl,.inr ⟨w.heap.size,gc,_,rfl,Nat.le_refl _,hw3 ▸ heap_alloc_new w.drew _,Nat.zero_le _,hgm,by
   simp only [Array.size_append,List.size_toArray,size_zeroCells,Value.cells]
   simp
   omega,rfl⟩⟩)
  have HB:=hide (show Below w.heap.size w w3 from hw3 ▸ ((Below.refl w.heap.size w).drew).alloc (Nat.le_refl _) _)
  have HR:=hide hr
  clear hw3 hr hold hgc
  go_enter Try.func90,Try.ntmps90
  go_wp2_with (at_builtin; go_loud (refine Go.Lib.wpList_append_run _ rfl (.tmp 20) (.tmp 21) _ _ rfl _ _ rfl rfl _ _ HR.out ?_))
  go_ret
  exact ⟨_,rfl,HOW.out,HB.out⟩
set_option maxHeartbeats 1000000 in
theorem grow_kids {w:World} (n:Nat) (hn:n ≤ 1000000000):Calls Try.prog 91 #[.slice none 0 0,.int .i64 (n:Int)] w fun e w'=>∃ v,e = .returned v ∧ w'.ownsRow w.heap.size TKd 2 v 0 [] ∧ Below w.heap.size w w':=by
 obtain ⟨i0,hi0,hz0,hz1,hz2⟩:=tkd_inf
 have d1:decide ((n:Int) < 0) = false:=by simp
 rcases Nat.eq_zero_or_pos n with h0 | h0
 ·subst h0
  go_enter Try.func91,Try.ntmps91
  go_wp2_with fail
  go_ret
  exact ⟨_,rfl,World.ownsRow_nil _ _ _ _,Below.refl _ _⟩
 ·have d2:decide (0 < (n:Int)) = true:=by simp; omega
  obtain ⟨gc,hgc⟩:∃ gc,grownCap w n 0 TKd = gc:=⟨_,rfl⟩
  have hge:=grownCap_ge w n 0 TKd
  have hgm:=grownCap_le_maxLen w n 0 TKd (by unfold maxLen; omega)
  have hold:(Builtin.firstCells i0.size 0 (.slice none 0 0)).run Try.prog w.drew = .ok ([]:List Value).toArray w.drew:=by simp [Builtin.firstCells]
  have hr:=Go.Lib.run_append_grow_zeros (P:=Try.prog) w 75 3 75 TKd i0 _ .i64 .i64 Try.underlying75 Try.underlying3 hi0 hz0 none 0 0 [] hold n h0 (by omega) (by omega) (by omega) (by rw [hz2]; omega) (growslice_fits (by omega) (by rw [hz2]; omega))
  rw [Nat.zero_add,hgc] at hr
  rw [hgc] at hge hgm
  obtain ⟨w3,hw3⟩:∃ w3,(w.drew.alloc (.cells ((([]:List Value).toArray) ++ Builtin.zeroCells (Value.cells (.agg #[.slice none 0 0,.int .i64 0])) n ++ Builtin.zeroCells (Value.cells (.agg #[.slice none 0 0,.int .i64 0])) (gc - n)) TKd)) = w3:=⟨_,rfl⟩
  rw [hw3] at hr
  have HOW:=hide (show w3.ownsRow w.heap.size TKd 2 (.slice (some ⟨w.heap.size,0,none⟩) 0 gc) 0 [] from ⟨rfl,.inr ⟨w.heap.size,gc,_,rfl,Nat.le_refl _,hw3 ▸ heap_alloc_new w.drew _,Nat.zero_le _,hgm,by
   simp only [Array.size_append,List.size_toArray,size_zeroCells,Value.cells]
   simp
   omega,rfl⟩⟩)
  have HB:=hide (show Below w.heap.size w w3 from hw3 ▸ ((Below.refl w.heap.size w).drew).alloc (Nat.le_refl _) _)
  have HR:=hide hr
  clear hw3 hr hold hgc
  go_enter Try.func91,Try.ntmps91
  go_wp2_with (at_builtin; go_loud (refine Go.Lib.wpList_append_run _ rfl (.tmp 20) (.tmp 21) _ _ rfl _ _ rfl rfl _ _ HR.out ?_))
  go_ret
  exact ⟨_,rfl,HOW.out,HB.out⟩
end Go.Proofs.Ytkolacaceaamoaa
/- slices.Concat of items, of kids. -/
namespace Go.Proofs.Ytkolacaceaamoaa
open Go.RowKit
theorem LR.ones {α:Type} {R:α → List Value → Prop} (hR:∀ a cs,R a cs → ∀ u ∈ cs,u.oneCell' = true):∀ (l:List α) (xs:List Value),LR R l xs → ∀ u ∈ xs,u.oneCell' = true
 | [],xs,h,u,hu=>by
  have:xs = []:=h
  subst this
  cases hu
 | a :: l,xs,⟨cs,rest,e,h1,h2⟩,u,hu=>by
  subst e
  rcases List.mem_append.1 hu with h | h
  ·exact hR a cs h1 u h
  ·exact LR.ones hR l rest h2 u h
theorem ItR.ones {w:World} {F:Nat → Prop} (x:It) (cs:List Value) (h:ItR w F x cs):∀ u ∈ cs,u.oneCell' = true:=by
 obtain ⟨a,b,rfl,⟨_,_,rfl,_⟩,⟨_,_,rfl,_⟩⟩:=h
 intro u hu
 simp at hu
 rcases hu with rfl | rfl <;> rfl
theorem KdR.ones {w:World} {F:Nat → Prop} (x:Kd) (cs:List Value) (h:KdR w F x cs):∀ u ∈ cs,u.oneCell' = true:=by
 obtain ⟨a,rfl,⟨_,_,rfl,_⟩⟩:=h
 intro u hu
 simp at hu
 rcases hu with rfl | rfl <;> rfl
/-- A slice among slices. -/
def SlR {α:Type} (R:World → (Nat → Prop) → α → List Value → Prop) (w:World) (F:Nat → Prop) (l:List α) (cs:List Value):Prop:=∃ v,cs = [v] ∧ SLk 2 R w F v l
theorem SlR.at_ {α:Type} {R:World → (Nat → Prop) → α → List Value → Prop} {w:World} {F:Nat → Prop} {A:Option Addr} {n c:Nat} {ls:List (List α)} (h:SLk 1 (SlR R) w F (.slice A n c) ls) {j:Nat} (hj:j < ls.length) :
  ∃ b o A' c',A = some ⟨b,o,none⟩ ∧ F b ∧ b < w.heap.size ∧ w.cell? ⟨b,o + j,none⟩ = some (.slice A' ls[j].length c') ∧ ls[j].length ≤ c' ∧ ∃ xs,RF w F 2 A' ls[j].length xs ∧ LR (R w F) ls[j] xs:=by
 obtain ⟨A',c',xs,e,hc,hr,hl⟩:=h
 injection e with e1 e2 e3
 subst e1 e2 e3
 obtain ⟨ad,rfl,hb,hcell⟩:=hr.2 (by omega)
 have h1:∀ (a:List α) cs,SlR R w F a cs → cs.length = 1:=fun a cs ⟨v,e,_⟩=>by rw [e]; rfl
 obtain ⟨cs,hit,hcs⟩:=LR.at_ (k:=1) h1 ls xs hl j hj
 obtain ⟨cs0,hit0,hcs0⟩:=LR.at_ (k:=1) h1 ls xs hl 0 (by omega)
 obtain ⟨a0,rfl,A2,c2,x2,rfl,hk,hr2,hl2⟩:=hit
 obtain ⟨b0,rfl,_⟩:=hit0
 have q0:=hcell (j * 1 + 0) _ (hcs 0 (by omega))
 have q3:=hcell (0 * 1 + 0) _ (hcs0 0 (by omega))
 have hz:ad.add 0 = ad:=by unfold Addr.add; rw [if_pos rfl]
 rw [show 0 * 1 + 0 = 0 from rfl,hz] at q3
 have hs:=spot_none q3
 have hlt:=cell_in q3
 obtain ⟨b,o,sp⟩:=ad
 cases hs
 refine ⟨b,o,A2,c2,rfl,hb,hlt,?_,hk.1,x2,hr2,hl2⟩
 rw [← add_plain ⟨b,o,none⟩ (j * 1 + 0) rfl] at q0
 simpa using q0
theorem take_flat {α:Type} (ls:List (List α)) {j:Nat} (h:j < ls.length):(ls.take (j + 1)).flatten = (ls.take j).flatten ++ ls[j]:=by
 rw [List.take_succ_eq_append_getElem h,List.flatten_append]
 simp
theorem take_flat_le {α:Type} (ls:List (List α)) (j:Nat):(ls.take j).flatten.length ≤ ls.flatten.length:=by
 conv=>rhs; rw [← List.take_append_drop j ls,List.flatten_append,List.length_append]
 omega
set_option maxRecDepth 100000 in
set_option maxHeartbeats 4000000 in
theorem concat_items {w:World} {F:Nat → Prop} {vs:Value} {ls:List (List It)} (h:SLk 1 (SlR ItR) w F vs ls) (hn:ls.length ≤ 1000000) (hlen:ls.flatten.length ≤ 100000000) :
  Calls Try.prog 71 #[vs] w fun e w'=>∃ v,e = .returned v ∧ Gro ItR TIt 2 w F w' v ls.flatten ∧ Below w.heap.size w w':=by
 obtain ⟨i0,hi0,hz0,hz1,hz2⟩:=tit_inf
 have HI0:=hide hi0
 have HZ0:=hide hz0
 have H1:=hide h
 obtain ⟨A,c,xs0,rfl,_⟩:=h
 clear hi0 hz0
 obtain ⟨n,hnn⟩:∃ n,ls.length = n:=⟨_,rfl⟩
 have HN:=hide hnn
 rw [hnn] at H1 hn ⊢
 have HLEN:=hide hlen
 clear hlen hnn
 go_enter Try.func71,Try.ntmps71
 go_wp2_with fail
 go_loopw [3,11] (fun vz vi wr=>∃ j z:Nat,vi = .int .i64 (j:Int) ∧ vz = .int .i64 (z:Int) ∧ j ≤ n ∧ Hid (z = (ls.take j).flatten.length) ∧ Hid (Below w.heap.size w wr)) (fun _ vi _=>n - (intOf vi).toNat)
 case atStart=>exact ⟨0,0,rfl,rfl,by omega,hide rfl,hide (Below.refl _ _)⟩
 case round=>
  obtain ⟨j,z,rfl,rfl,hj,HZ,HB⟩:=hrel
  by_cases hlt:j < n
  ·have hjl:j < ls.length:=by rw [HN.out]; exact hlt
   obtain ⟨b,o,A',c',rfl,hF,hb,hcell,hcc,_⟩:=SlR.at_ H1.out hjl
   have k0:=(HB.out.cell (p:=⟨b,o + j,none⟩) hb).trans hcell
   have zz:=Nat.lt_of_lt_of_le hb HB.out.size
   obtain ⟨y,hy⟩:∃ y,ls[j].length = y:=⟨_,rfl⟩
   rw [hy] at k0
   have hz2':z + y ≤ 100000000:=by
    have h1:=take_flat_le ls (j + 1)
    rw [take_flat ls hjl,List.length_append,hy,← HZ.out] at h1
    have:=HLEN.out
    omega
   have HZ2:=hide (show z + y = (ls.take (j + 1)).flatten.length from by rw [take_flat ls hjl,List.length_append,hy,← HZ.out])
   have d1:decide ((z:Int) + (y:Int) < 0) = false:=by simp; omega
   clear hy hcell
   go_wp2_with fail
   refine ⟨⟨j + 1,z + y,by push_cast; rfl,by push_cast; rfl,by omega,HZ2,HB⟩,?_⟩
   simp [intOf]
   omega
  ·obtain rfl:n = j:=by omega
   have HZ3:=hide (show z = ls.flatten.length from by rw [HZ.out,List.take_of_length_le (by rw [HN.out]; exact Nat.le_refl _)])
   have hz9:z ≤ 1000000000:=by have:=HZ3.out; have:=HLEN.out; omega
   clear HZ
   go_wp2_with (go_at_call 90; (refine (grow_items z hz9).mono ?_); rintro e w2 ⟨v2,rfl,ho,hb⟩; (obtain ⟨A2,c2,rfl,_⟩:=own_slice ho); have HO2:=hide (own_base ho HB.out.size); have HB2:=hide (show Below w.heap.size w w2 from HB.out.trans (hb.mono HB.out.size)); clear ho hb HB)
   go_loopw [6,27] (fun v6 vi wr=>∃ (j:Nat) (A5:Option Addr) (n5 c5:Nat),vi = .int .i64 (j:Int) ∧ j ≤ n ∧ v6 = .slice A5 n5 c5 ∧ Hid (n5 = (ls.take j).flatten.length) ∧ Hid (Gro ItR TIt 2 w F wr (.slice A5 n5 c5) (ls.take j).flatten) ∧ Hid (Below w.heap.size w wr)) (fun _ vi _=>n - (intOf vi).toNat)
   case atStart=>exact ⟨0,A2,0,c2,rfl,by omega,rfl,hide rfl,hide ⟨[],HO2.out,rfl⟩,HB2⟩
   case round=>
    clear HO2 HB2
    obtain ⟨j,A5,n5,c5,rfl,hj,rfl,HN5,HG,HB⟩:=hrel
    by_cases hlt:j < n
    ·have hjl:j < ls.length:=by rw [HN.out]; exact hlt
     obtain ⟨b,o,A',c',rfl,hF,hb,hcell,hcc,ys,hrf,hlr⟩:=SlR.at_ H1.out hjl
     have k0:=(HB.out.cell (p:=⟨b,o + j,none⟩) hb).trans hcell
     have zz:=Nat.lt_of_lt_of_le hb HB.out.size
     have HON:=hide (LR.ones (fun a cs=>ItR.ones a cs) _ _ hlr)
     obtain ⟨xs,hxo,hxl⟩:=HG.out
     rw [← HN5.out] at hxo
     have HXO:=hide hxo
     have HG2:=hide (show LR (ItR w F) ((ls.take (j + 1)).flatten) (xs ++ ys) from by rw [take_flat ls hjl]; exact LR.app hlr _ _ hxl)
     have HL2:=hide (show n5 + ls[j].length = (ls.take (j + 1)).flatten.length from by rw [take_flat ls hjl,List.length_append,HN5.out])
     have hle:=take_flat_le ls (j + 1)
     rw [← HL2.out] at hle
     have hlen:=HLEN.out
     obtain ⟨y,hy⟩:∃ y,ls[j].length = y:=⟨_,rfl⟩
     rw [hy] at k0 hrf hle HL2
     have HRF:=hide (show Reads wr wr.heap.size 2 A' y ys from (((hrf.keep (F':=fun j=>j < w.heap.size) (fun _ _ _=>rfl) (fun j _ hj=>hj) (by omega)).reads (fun _ h=>h)).below HB.out).more HB.out.size)
     have hny:n5 + y ≤ 100000000:=by omega
     clear hy hcell hrf hlr hxo hxl hle hlen
     go_wp2_with (at_builtin; refine wpList_append_any _ rfl (.tmp 31) (.tmp 32) _ rfl w.heap.size TIt i0 _ 2 48 Try.underlying32 HI0.out HZ0.out hz1 hz2 rfl (by omega) (.slice A5 n5 c5) n5 xs rfl HXO.out _ A' y c' ys rfl HRF.out HON.out (by unfold maxLen; omega) (by omega) HB.out.size ?_; intro v' w7 ho hgb hoo; (obtain ⟨A6,c6,rfl,hc6⟩:=own_slice ho); have HO6:=hide ho; have HB6:=hide (show Below w.heap.size w w7 from HB.out.grown hgb HB.out.size (fun k hk=>(HXO.out.lt k hk).1)); clear ho hgb hoo)
     refine ⟨⟨j + 1,A6,n5 + y,c6,by push_cast; rfl,by omega,rfl,HL2,hide ⟨xs ++ ys,by rw [← HL2.out]; exact HO6.out,HG2.out⟩,HB6⟩,?_⟩
     simp [intOf]
     omega
    ·obtain rfl:n = j:=by omega
     go_wp2_with fail
     go_ret
     have h2:=HG.out
     rw [List.take_of_length_le (by rw [HN.out]; exact Nat.le_refl _)] at h2
     exact ⟨_,rfl,h2,HB.out⟩
set_option maxRecDepth 100000 in
set_option maxHeartbeats 4000000 in
theorem concat_kids {w:World} {F:Nat → Prop} {vs:Value} {ls:List (List Kd)} (h:SLk 1 (SlR KdR) w F vs ls) (hn:ls.length ≤ 1000000) (hlen:ls.flatten.length ≤ 100000000) :
  Calls Try.prog 72 #[vs] w fun e w'=>∃ v,e = .returned v ∧ Gro KdR TKd 2 w F w' v ls.flatten ∧ Below w.heap.size w w':=by
 obtain ⟨i0,hi0,hz0,hz1,hz2⟩:=tkd_inf
 have HI0:=hide hi0
 have HZ0:=hide hz0
 have H1:=hide h
 obtain ⟨A,c,xs0,rfl,_⟩:=h
 clear hi0 hz0
 obtain ⟨n,hnn⟩:∃ n,ls.length = n:=⟨_,rfl⟩
 have HN:=hide hnn
 rw [hnn] at H1 hn ⊢
 have HLEN:=hide hlen
 clear hlen hnn
 go_enter Try.func72,Try.ntmps72
 go_wp2_with fail
 go_loopw [3,11] (fun vz vi wr=>∃ j z:Nat,vi = .int .i64 (j:Int) ∧ vz = .int .i64 (z:Int) ∧ j ≤ n ∧ Hid (z = (ls.take j).flatten.length) ∧ Hid (Below w.heap.size w wr)) (fun _ vi _=>n - (intOf vi).toNat)
 case atStart=>exact ⟨0,0,rfl,rfl,by omega,hide rfl,hide (Below.refl _ _)⟩
 case round=>
  obtain ⟨j,z,rfl,rfl,hj,HZ,HB⟩:=hrel
  by_cases hlt:j < n
  ·have hjl:j < ls.length:=by rw [HN.out]; exact hlt
   obtain ⟨b,o,A',c',rfl,hF,hb,hcell,hcc,_⟩:=SlR.at_ H1.out hjl
   have k0:=(HB.out.cell (p:=⟨b,o + j,none⟩) hb).trans hcell
   have zz:=Nat.lt_of_lt_of_le hb HB.out.size
   obtain ⟨y,hy⟩:∃ y,ls[j].length = y:=⟨_,rfl⟩
   rw [hy] at k0
   have hz2':z + y ≤ 100000000:=by
    have h1:=take_flat_le ls (j + 1)
    rw [take_flat ls hjl,List.length_append,hy,← HZ.out] at h1
    have:=HLEN.out
    omega
   have HZ2:=hide (show z + y = (ls.take (j + 1)).flatten.length from by rw [take_flat ls hjl,List.length_append,hy,← HZ.out])
   have d1:decide ((z:Int) + (y:Int) < 0) = false:=by simp; omega
   clear hy hcell
   go_wp2_with fail
   refine ⟨⟨j + 1,z + y,by push_cast; rfl,by push_cast; rfl,by omega,HZ2,HB⟩,?_⟩
   simp [intOf]
   omega
  ·obtain rfl:n = j:=by omega
   have HZ3:=hide (show z = ls.flatten.length from by rw [HZ.out,List.take_of_length_le (by rw [HN.out]; exact Nat.le_refl _)])
   have hz9:z ≤ 1000000000:=by have:=HZ3.out; have:=HLEN.out; omega
   clear HZ
   go_wp2_with (go_at_call 91; (refine (grow_kids z hz9).mono ?_); rintro e w2 ⟨v2,rfl,ho,hb⟩; (obtain ⟨A2,c2,rfl,_⟩:=own_slice ho); have HO2:=hide (own_base ho HB.out.size); have HB2:=hide (show Below w.heap.size w w2 from HB.out.trans (hb.mono HB.out.size)); clear ho hb HB)
   go_loopw [6,27] (fun v6 vi wr=>∃ (j:Nat) (A5:Option Addr) (n5 c5:Nat),vi = .int .i64 (j:Int) ∧ j ≤ n ∧ v6 = .slice A5 n5 c5 ∧ Hid (n5 = (ls.take j).flatten.length) ∧ Hid (Gro KdR TKd 2 w F wr (.slice A5 n5 c5) (ls.take j).flatten) ∧ Hid (Below w.heap.size w wr)) (fun _ vi _=>n - (intOf vi).toNat)
   case atStart=>exact ⟨0,A2,0,c2,rfl,by omega,rfl,hide rfl,hide ⟨[],HO2.out,rfl⟩,HB2⟩
   case round=>
    clear HO2 HB2
    obtain ⟨j,A5,n5,c5,rfl,hj,rfl,HN5,HG,HB⟩:=hrel
    by_cases hlt:j < n
    ·have hjl:j < ls.length:=by rw [HN.out]; exact hlt
     obtain ⟨b,o,A',c',rfl,hF,hb,hcell,hcc,ys,hrf,hlr⟩:=SlR.at_ H1.out hjl
     have k0:=(HB.out.cell (p:=⟨b,o + j,none⟩) hb).trans hcell
     have zz:=Nat.lt_of_lt_of_le hb HB.out.size
     have HON:=hide (LR.ones (fun a cs=>KdR.ones a cs) _ _ hlr)
     obtain ⟨xs,hxo,hxl⟩:=HG.out
     rw [← HN5.out] at hxo
     have HXO:=hide hxo
     have HG2:=hide (show LR (KdR w F) ((ls.take (j + 1)).flatten) (xs ++ ys) from by rw [take_flat ls hjl]; exact LR.app hlr _ _ hxl)
     have HL2:=hide (show n5 + ls[j].length = (ls.take (j + 1)).flatten.length from by rw [take_flat ls hjl,List.length_append,HN5.out])
     have hle:=take_flat_le ls (j + 1)
     rw [← HL2.out] at hle
     have hlen:=HLEN.out
     obtain ⟨y,hy⟩:∃ y,ls[j].length = y:=⟨_,rfl⟩
     rw [hy] at k0 hrf hle HL2
     have HRF:=hide (show Reads wr wr.heap.size 2 A' y ys from (((hrf.keep (F':=fun j=>j < w.heap.size) (fun _ _ _=>rfl) (fun j _ hj=>hj) (by omega)).reads (fun _ h=>h)).below HB.out).more HB.out.size)
     have hny:n5 + y ≤ 100000000:=by omega
     clear hy hcell hrf hlr hxo hxl hle hlen
     go_wp2_with (at_builtin; refine wpList_append_any _ rfl (.tmp 31) (.tmp 32) _ rfl w.heap.size TKd i0 _ 2 32 Try.underlying75 HI0.out HZ0.out hz1 hz2 rfl (by omega) (.slice A5 n5 c5) n5 xs rfl HXO.out _ A' y c' ys rfl HRF.out HON.out (by unfold maxLen; omega) (by omega) HB.out.size ?_; intro v' w7 ho hgb hoo; (obtain ⟨A6,c6,rfl,hc6⟩:=own_slice ho); have HO6:=hide ho; have HB6:=hide (show Below w.heap.size w w7 from HB.out.grown hgb HB.out.size (fun k hk=>(HXO.out.lt k hk).1)); clear ho hgb hoo)
     refine ⟨⟨j + 1,A6,n5 + y,c6,by push_cast; rfl,by omega,rfl,HL2,hide ⟨xs ++ ys,by rw [← HL2.out]; exact HO6.out,HG2.out⟩,HB6⟩,?_⟩
     simp [intOf]
     omega
    ·obtain rfl:n = j:=by omega
     go_wp2_with fail
     go_ret
     have h2:=HG.out
     rw [List.take_of_length_le (by rw [HN.out]; exact Nat.le_refl _)] at h2
     exact ⟨_,rfl,h2,HB.out⟩
end Go.Proofs.Ytkolacaceaamoaa
/- The maker's drop: pages that were taken, and are of no use any more. -/
namespace Go.Proofs.Ytkolacaceaamoaa
open Go.RowKit
theorem blk_setCells {b:Nat} {t:TypeId}:∀ (vs:List Value) (o:Nat) (w:World) (cur:Array Value),Blk w b t cur → o + vs.length ≤ cur.size → ∃ cur',Blk (w.setCells b o vs) b t cur' ∧ cur'.size = cur.size ∧ cur'.toList = cur.toList.take o ++ vs ++ cur.toList.drop (o + vs.length)
 | [],o,w,cur,h,_=>⟨cur,h,rfl,by simp⟩
 | v :: r,o,w,cur,h,hl=>by
  simp only [List.length_cons] at hl
  obtain ⟨cur',h1,h2,h3⟩:=blk_setCells r (o + 1) _ _ (h.set_ o v) (by simp; omega)
  refine ⟨cur',h1,by simpa using h2,?_⟩
  rw [h3,Array.toList_setIfInBounds,List.take_succ_eq_append_getElem (by simp; omega),List.getElem_set_self,List.drop_set_of_lt (by omega),List.take_set_of_le (Nat.le_refl _)]
  simp [Nat.add_assoc,Nat.add_comm 1]
theorem setCells_grown {b:Nat}:∀ (vs:List Value) (o:Nat) (w:World),w.grownBy (w.setCells b o vs) (some b)
 | [],_,w=>⟨rfl,rfl,rfl,Nat.le_refl _,fun _ _ _=>rfl⟩
 | v :: r,o,w=>by
  have h1:=gby_set w b o v
  have h2:=setCells_grown (b:=b) r (o + 1) (w.setCell ⟨b,o,none⟩ v)
  exact ⟨h2.os.trans h1.os,h2.tape.trans h1.tape,h2.output.trans h1.output,Nat.le_trans h1.size h2.size,fun j hj hn=>(h2.block j (Nat.lt_of_lt_of_le hj h1.size) hn).trans (h1.block j hj hn)⟩
theorem idx_in {tk:List Nat} {p:Nat} (hp:p ∈ tk):Lib.idxOf ((tk.map Int.ofNat).take tk.length) (p:Int) = (tk.idxOf p:Int):=by
 have hl:=List.idxOf_lt_length_of_mem hp
 refine Lib.idxOf_hit _ _ _ _ hl (by simp) ?_ (fun j hj=>?_)
 ·rw [List.getD_eq_getElem?_getD,List.getElem?_map,List.getElem?_eq_getElem hl]
  simp
 ·rw [List.getD_eq_getElem?_getD,List.getElem?_map,List.getElem?_eq_getElem (Nat.lt_trans hj hl)]
  simp only [Option.map_some,Option.getD_some]
  intro e
  have e2:tk[j] = p:=by
   have:(tk[j]:Int) = (p:Int):=e
   omega
  have:=List.not_of_lt_findIdx hj
  simp [e2] at this
theorem idx_out {tk:List Nat} {p:Nat} (hp:p ∉ tk):Lib.idxOf ((tk.map Int.ofNat).take tk.length) (p:Int) = -1:=by
 refine Lib.idxOf_miss _ _ _ (fun j hj=>?_)
 rw [List.getD_eq_getElem?_getD,List.getElem?_map,List.getElem?_eq_getElem hj]
 simp only [Option.map_some,Option.getD_some]
 intro e
 have e2:tk[j] = p:=by
  have:(tk[j]:Int) = (p:Int):=e
  omega
 exact hp (e2 ▸ List.getElem_mem hj)
section
variable {w:World} {B n c:Nat} {A:Option Addr} {tk:List Nat} {p:Nat}
theorem tk_len (h:w.ownsRow B TI64 1 (.slice A n c) n (tk.map pI)):tk.length = n:=by
 have:=h.1
 rw [List.length_map] at this
 omega
theorem index_took (h:w.ownsRow B TI64 1 (.slice A n c) n (tk.map pI)) (hn:n ≤ 1000000000) (r:Int) (hr:Lib.idxOf ((tk.map Int.ofNat).take tk.length) (p:Int) = r) :
  Calls Try.prog 93 #[.slice A n c,.int .i64 (p:Int)] w fun e w'=>e = .returned (.int .i64 r) ∧ w' = w:=by
 have hl:=tk_len h
 rcases h.2 with ⟨e,h0⟩ | ⟨g,cap,cur,e,hb,hh,hnc,hcm,hcs,htake⟩
 ·subst h0
  have:tk = []:=List.eq_nil_of_length_eq_zero hl
  subst this
  have:=Try.slices_Index_int_empty A c (p:Int) w
  subst hr
  exact this
 ·injection e with e1 _ e3
  subst e1 e3
  have hB:Blk w g TI64 cur:=hh
  have:=Try.slices_Index_int g 0 n c (tk.map Int.ofNat) (p:Int) w (by simp; omega) (by omega) (fun j hj=>by
   rw [List.length_map] at hj
   rw [Nat.zero_add,hB.cell j]
   have h1:cur[j]? = (tk.map pI)[j]?:=by
    rw [← htake,List.getElem?_take,if_pos (by omega)]
    simp
   rw [h1,List.getElem?_map,List.getElem?_eq_getElem hj,List.getD_eq_getElem?_getD,List.getElem?_map,List.getElem?_eq_getElem hj]
   rfl)
  rw [← hl,hr] at this
  rw [← hl]
  exact this
theorem erase_split (hp:p ∈ tk):(tk.erase p) = tk.take (tk.idxOf p) ++ tk.drop (tk.idxOf p + 1):=by
 rw [List.erase_eq_eraseIdx_of_idxOf (rfl:tk.idxOf p = tk.idxOf p),List.eraseIdx_eq_take_drop_succ]
theorem delete_took (h:w.ownsRow B TI64 1 (.slice A n c) n (tk.map pI)) (hp:p ∈ tk) :
  Calls Try.prog 94 #[.slice A n c,.int .i64 (tk.idxOf p:Int),.int .i64 ((tk.idxOf p:Int) + 1)] w fun e w'=>∃ A' n',e = .returned (.slice A' n' c) ∧ w'.ownsRow B TI64 1 (.slice A' n' c) (tk.erase p).length ((tk.erase p).map pI) ∧ (Value.slice A' n' c).ownBlock = (Value.slice A n c).ownBlock ∧ w.grownBy w' (Value.slice A n c).ownBlock:=by
 have hl:=tk_len h
 have hk:=List.idxOf_lt_length_of_mem hp
 rcases h.2 with ⟨e,h0⟩ | ⟨g,cap,cur,e,hb,hh,hnc,hcm,hcs,htake⟩
 ·omega
 ·injection e with e1 _ e3
  subst e1 e3
  have hB:Blk w g TI64 cur:=hh
  have hcur:∀ j,j < n → cur[j]? = (tk.map pI)[j]?:=fun j hj=>by
   rw [← htake,List.getElem?_take,if_pos (by omega)]
   simp
  have:=Try.slices_Delete_int_cells g 0 n c (tk.idxOf p) (tk.idxOf p + 1) (tk.map Int.ofNat) w (by simp; omega) hnc (by unfold maxLen at hcm; omega) (by omega) (by omega) (fun j hj=>by
   rw [List.length_map] at hj
   rw [Nat.zero_add,hB.cell j,hcur j (by omega),List.getElem?_map,List.getElem?_eq_getElem hj,List.getD_eq_getElem?_getD,List.getElem?_map,List.getElem?_eq_getElem hj]
   rfl) (fun j _=>hB.frozen _)
  rw [Int.natCast_add] at this
  refine this.mono ?_
  rintro e w' ⟨rfl,q,rfl⟩
  have hlen:(tk.erase p).length = n - 1:=by rw [List.length_erase_of_mem hp,hl]
  have hvl:((((tk.map Int.ofNat).take n).take (tk.idxOf p) ++ ((tk.map Int.ofNat).take n).drop (tk.idxOf p + 1) ++ List.replicate (tk.idxOf p + 1 - tk.idxOf p) 0).map (Value.int .i64)).length = n:=by
   simp only [List.length_map,List.length_append,List.length_take,List.length_drop,List.length_replicate,Nat.min_def]
   split <;> split <;> omega
  have hBq:Blk (w.drewN q) g TI64 cur:=hB.drewN q
  obtain ⟨cur',c1,c2,c3⟩:=blk_setCells _ 0 _ _ hBq (show 0 + ((((tk.map Int.ofNat).take n).take (tk.idxOf p) ++ ((tk.map Int.ofNat).take n).drop (tk.idxOf p + 1) ++ List.replicate (tk.idxOf p + 1 - tk.idxOf p) 0).map (Value.int .i64)).length ≤ cur.size by rw [hvl]; omega)
  refine ⟨_,_,rfl,⟨by rw [List.length_map,Nat.mul_one],.inr ⟨g,c,cur',by rw [hlen]; congr 1; omega,hb,c1,by omega,hcm,by omega,?_⟩⟩,rfl,?_⟩
  ·rw [c3,List.take_zero,List.nil_append,List.take_append_of_le_length (by rw [hvl,hlen]; omega),hlen,Nat.mul_one,List.take_of_length_le (l:=tk.map Int.ofNat) (by simp; omega)]
   have e1:((tk.map Int.ofNat).take (tk.idxOf p) ++ (tk.map Int.ofNat).drop (tk.idxOf p + 1)) = (tk.erase p).map Int.ofNat:=by
    rw [erase_split hp,List.map_append,List.map_take,List.map_drop]
   rw [e1,List.map_append,List.take_left' (by simp [hlen])]
   rw [List.map_map]
   rfl
  ·have h1:=below_drewN (Below.refl w.heap.size w) q
   have h2:=setCells_grown (b:=g) ((((tk.map Int.ofNat).take n).take (tk.idxOf p) ++ ((tk.map Int.ofNat).take n).drop (tk.idxOf p + 1) ++ List.replicate (tk.idxOf p + 1 - tk.idxOf p) 0).map (Value.int .i64)) 0 (w.drewN q)
   exact ⟨h2.os.trans h1.os,h2.tape.trans h1.tape,h2.output.trans h1.output,Nat.le_trans h1.size h2.size,fun j hj hn=>(h2.block j (Nat.lt_of_lt_of_le hj h1.size) hn).trans (h1.block j hj)⟩
end
section
variable {w w' w'':World} {c:Pct} {B mb tb:Nat} {took took':List Nat} {vt vt':Value} {m:Pst}
/-- It is struck out: took shrinks, and is stored. -/
theorem MkW.struck (h:MkW w c B mb tb took vt m) (ho:w'.ownsRow B TI64 1 vt' took'.length (took'.map pI)) (hg:w.grownBy w' vt.ownBlock) (hoo:vt'.ownBlock = vt.ownBlock) :
  MkW (w'.setCell ⟨mb,1,none⟩ vt') c B mb tb took' vt' m ∧ MkS w c mb vt m (w'.setCell ⟨mb,1,none⟩ vt') vt' m:=by
 have hne:=h.ne
 have hf1:Fr (fun j=>vt.ownBlock = some j ∨ j = mb) w (w'.setCell ⟨mb,1,none⟩ vt'):=
  ⟨hg.os,hg.tape,hg.output,by simpa using hg.size,fun j hj hn=>(Below.heap_setCell _ ⟨mb,1,none⟩ _ _ (fun e=>hn (.inr e))).trans (hg.block j hj (fun e=>hn (.inl e.symm)))⟩
 have hmk:Blk w' mb TMk #[.pointer (some ⟨tb,0,none⟩),vt]:=h.mkb.grown hg (fun e=>hne.2.1 e.symm)
 have hvm:vt'.ownBlock ≠ some mb:=own_blk_ne ho hmk (by decide)
 have hpn:∀ j,PF m.F c.pb c.sb j → ¬ (vt.ownBlock = some j ∨ j = mb):=fun j hj e=>by
  rcases e with e | rfl
  ·exact h.nv j e hj
  ·exact h.nm hj
 refine ⟨⟨Pg.keepF h.pg hf1 hpn,hf1.blk h.tr (fun e=>by rcases e with e | e; exact hne.2.2 e; exact hne.1 e),hmk.set_ 1 vt',row_keep ho (fun j hj=>Below.heap_setCell _ ⟨mb,1,none⟩ _ _ (fun e=>hvm (by rw [hj]; exact congrArg some e))),h.nm,h.nt,fun g hg'=>h.nv g (hoo ▸ hg')⟩,?_,fun j hj=>?_⟩
 ·exact hf1.up (fun j e=>by rcases e with e | e; exact .inr (.inr e); exact .inr (.inl e))
 ·rcases hj with hj | hj | hj
  ·exact .inl (.inl hj)
  ·exact .inl (.inr (.inl hj))
  ·exact .inl (.inr (.inr (hoo ▸ hj)))
/-- What is freed. -/
theorem MkW.freed (h:MkW w c B mb tb took vt m) {st':Cn} (hp:PgS w' c { m with st:=st' }) (hf:Fr (fun j=>j = c.sb) w w'):MkW w' c B mb tb took vt { m with st:=st' } ∧ MkS w c mb vt m w' vt { m with st:=st' }:=by
 have h1:∀ {j},¬ PF m.F c.pb c.sb j → ¬ j = c.sb:=fun hn e=>hn (.inr (.inr e))
 exact ⟨⟨hp,hf.blk h.tr (h1 h.nt),hf.blk h.mkb (h1 h.nm),row_keep h.tk (fun j hj=>hf.block j (h.tk.lt j hj).2 (h1 (h.nv j hj))),h.nm,h.nt,h.nv⟩,hf.up (fun j e=>.inl (.inr (.inr e))),fun j hj=>.inl hj⟩
end
/-- One page dropped. -/
def dropS (s:List Nat × Cn) (p:Nat):List Nat × Cn:=if p ∈ s.1 then (s.1.erase p,updN freeU s.2 (p:Int)) else s
def Pst.dropped (m:Pst) (st:Cn):Pst:={ m with st:=st }
end Go.Proofs.Ytkolacaceaamoaa
/- The maker's drop, walked. -/
namespace Go.Proofs.Ytkolacaceaamoaa
open Go.RowKit
set_option maxRecDepth 100000 in
set_option maxHeartbeats 4000000 in
theorem drop_any {w:World} {c:Pct} {B mb tb:Nat} {took:List Nat} {vt:Value} {m:Pst} {g:Nat} {ps:List Nat} (h:MkW w c B mb tb took vt m) (hgb:Blk w g TI64 (ps.map pI).toArray) (hsf:Sf w c mb vt m g) (hpg:∀ p ∈ ps,pgB c.n (p:Int) = true) (hn:ps.length ≤ 1000) (htk:took.length ≤ 100000000) :
  Calls Try.prog 74 #[.pointer (some ⟨mb,0,none⟩),.slice (some ⟨g,0,none⟩) ps.length ps.length] w fun e w'=>e = .returned (.tuple #[]) ∧ ∃ vt',MkW w' c B mb tb (ps.foldl dropS (took,m.st)).1 vt' (m.dropped (ps.foldl dropS (took,m.st)).2) ∧ MkS w c mb vt m w' vt' (m.dropped (ps.foldl dropS (took,m.st)).2):=by
 have HM:=hide h
 have HG:=hide hgb
 have HSf:=hide hsf
 have HPG:=hide hpg
 obtain ⟨n,hnn⟩:∃ n,ps.length = n:=⟨_,rfl⟩
 have HN:=hide hnn
 rw [hnn] at hn ⊢
 clear h hgb hsf hpg hnn
 go_enter Try.func74,Try.ntmps74
 go_wp2_with fail
 go_loopw [9] (fun vi wr=>∃ (j:Nat) (vt':Value) (tk:List Nat) (st':Cn),vi = .int .i64 (j:Int) ∧ j ≤ n ∧ Hid ((ps.take j).foldl dropS (took,m.st) = (tk,st')) ∧ Hid (MkW wr c B mb tb tk vt' (m.dropped st')) ∧ Hid (MkS w c mb vt m wr vt' (m.dropped st')) ∧ tk.length ≤ 100000000) (fun vi _=>n - (intOf vi).toNat)
 case atStart=>exact ⟨0,vt,took,m.st,rfl,by omega,hide rfl,HM,hide (MkS.refl _ _ _ _ _),htk⟩
 case round=>
  obtain ⟨j,vt',tk,st',rfl,hj,HF,HMW,HMS,htl⟩:=hrel
  by_cases hlt:j < n
  ·have hjl:j < ps.length:=by rw [HN.out]; exact hlt
   obtain ⟨p,hp⟩:∃ p,ps[j] = p:=⟨_,rfl⟩
   have hpn:=HPG.out p (hp ▸ List.getElem_mem hjl)
   have hstep:(ps.take (j + 1)).foldl dropS (took,m.st) = dropS (tk,st') p:=by rw [foldl_take _ _ _ hjl,HF.out,hp]
   have HPN:=hide hpn
   have hgb':Blk wr g TI64 (ps.map pI).toArray:=(HMS.out.heap HSf.out).trans HG.out
   have k0:=hgb'.cell j
   rw [List.getElem?_toArray,List.getElem?_map,List.getElem?_eq_getElem hjl,hp] at k0
   simp only [Option.map_some,pI] at k0
   have z0:=hgb'.lt
   obtain ⟨A,cv,rfl,hcv⟩:=own_slice HMW.out.tk
   obtain ⟨tn,htn⟩:∃ tn,tk.length = tn:=⟨_,rfl⟩
   have HTK:=hide HMW.out.tk
   rw [htn] at HTK htl hcv HMW HMS
   have HTN:=hide htn
   have k1:=HMW.out.mkb.cell 1
   have z1:=HMW.out.mkb.lt
   simp at k1
   clear hpn hgb' htn hp
   by_cases hm:p ∈ tk
   ·have HSt:=hide (hstep.trans (show dropS (tk,st') p = (tk.erase p,updN freeU st' (p:Int)) from if_pos hm))
    have HIx:=hide (idx_in hm)
    have HDel:=hide (delete_took HTK.out hm)
    have hml:=List.length_erase_of_mem hm
    obtain ⟨tk2,htk2⟩:∃ tk2,tk.erase p = tk2:=⟨_,rfl⟩
    rw [htk2] at HSt HDel hml
    obtain ⟨k,hk⟩:∃ k,tk.idxOf p = k:=⟨_,rfl⟩
    have hkl:k < tn:=by rw [← hk,← HTN.out]; exact List.idxOf_lt_length_of_mem hm
    rw [hk] at HIx HDel
    have htl2:tk2.length ≤ 100000000:=by have:=HTN.out; omega
    clear hm hstep hk htk2 hml
    go_upto_region 4 with (go_at_call 93; (refine (index_took HTK.out (by omega) _ HIx.out).mono ?_); rintro e w2 ⟨rfl,e2⟩; rw [e2]; clear e2)
    go_upto_region 6 with (go_at_call 94; (refine HDel.out.mono ?_); rintro e w3 ⟨A3,n3,rfl,ho,hoo,hg⟩; have km:=(HMW.out.mkb.grown hg (fun e=>HMW.out.ne.2.1 e.symm)).cell 1; have fm:=(HMW.out.mkb.grown hg (fun e=>HMW.out.ne.2.1 e.symm)).frozen 1; have zm:=(HMW.out.mkb.grown hg (fun e=>HMW.out.ne.2.1 e.symm)).lt; have HSK:=hide (MkW.struck HMW.out ho hg hoo); clear ho hoo hg k1 k0 z0 z1)
    clear km fm zm HDel HIx
    obtain ⟨w4,hw4⟩:∃ w4,w3.setCell ⟨mb,1,none⟩ (.slice A3 n3 cv) = w4:=⟨_,rfl⟩
    rw [hw4] at HSK
    (try rw [hw4])
    clear hw4
    have k1:=HSK.out.1.mkb.cell 0
    have z1:=HSK.out.1.mkb.lt
    have k2:=HSK.out.1.tr.cell 0
    have z2:=HSK.out.1.tr.lt
    simp at k1 k2
    go_upto_region 7 with (go_at_call 35; have hb5:=al_below w4 (.cells #[.int .i64 (p:Int)] TI64); (refine (pfree_ok (Pg.below HSK.out.1.pg hb5) (some ⟨w4.heap.size,0,none⟩) 1 1 [(p:Int)] (reads_blk (Blk.new w4 TI64 _) rfl rfl) (by omega) (fun ad e=>?_) ?_).mono ?_))
    ·injection e with e
     subst e
     have:=HSK.out.1.pg.sblk.lt
     show w4.heap.size ≠ _
     omega
    ·simp [allPg,HPN.out]
    ·rintro e w6 ⟨rfl,hp6,hf6⟩
     have HFr:=hide (MkW.freed (HSK.out.1.below hb5) (st':=updN freeU st' (p:Int)) hp6 hf6)
     have HS6:=hide ((HMS.out.trans HSK.out.2).trans ((MkS.low hb5).trans HFr.out.2))
     clear hb5 hp6 hf6 k1 k2 z1 z2
     go_wp2_with fail
     refine ⟨⟨j + 1,_,tk2,_,by push_cast; rfl,by omega,HSt,hide HFr.out.1,HS6,htl2⟩,?_⟩
     simp [intOf]
     omega
   ·have HSt:=hide (hstep.trans (show dropS (tk,st') p = (tk,st') from if_neg hm))
    have HIx:=hide (idx_out hm)
    have d1:decide ((0:Int) ≤ -1) = false:=by decide
    clear hm hstep
    go_wp2_with (go_at_call 93; (refine (index_took HTK.out (by omega) _ HIx.out).mono ?_); rintro e w2 ⟨rfl,e2⟩; rw [e2]; clear e2)
    refine ⟨⟨j + 1,_,tk,st',by push_cast; rfl,by omega,HSt,HMW,HMS,by have:=HTN.out; omega⟩,?_⟩
    simp [intOf]
    omega
  ·obtain rfl:n = j:=by omega
   have hF:=HF.out
   rw [List.take_of_length_le (by rw [HN.out]; exact Nat.le_refl _)] at hF
   have HF2:=hide hF
   clear hF HF
   go_wp2_with fail
   refine bodyPost_end (v:=.tuple #[]) (by simp [results,Try.results74,go_sem]; done) rfl ⟨rfl,vt',by rw [HF2.out]; exact HMW.out,by rw [HF2.out]; exact HMS.out⟩
end Go.Proofs.Ytkolacaceaamoaa
