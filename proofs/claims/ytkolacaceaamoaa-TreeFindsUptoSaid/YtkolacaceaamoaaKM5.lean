/- The sectors' disk: Read. -/
import Derived.Test.YtkolacaceaamoaaKM4
import Derived.Maps.OwnIn
/- The sectors' disk: Read. -/
set_option linter.unusedSimpArgs false
set_option linter.unusedVariables false
namespace Go.Proofs.Ytkolacaceaamoaa
open Go.RowKit Go.Shelf
attribute [local go_sem] Oper.semAt_some
/-- A sector as it was written last. -/
def nowC (S:Int → Cn) (L:List (Int × Cn)) (at_:Int):Cn:=match L.reverse.find? (fun p=>p.1 == at_) with | some p=>p.2 | none=>S at_
theorem now_map {β:Type} (f:β → Int × Cn) (zs:List β) (S:Int → Cn) (L:List (Int × Cn)) (hz:zs.map f = L.reverse) (at_:Int) :
  (∀ ini last rest,zs = ini ++ last :: rest → (∀ x ∈ ini,(f x).1 ≠ at_) → (f last).1 = at_ → nowC S L at_ = (f last).2) ∧ ((∀ x ∈ zs,(f x).1 ≠ at_) → nowC S L at_ = S at_):=by
 constructor
 ·intro ini last rest e h1 h2
  unfold nowC
  rw [← hz,e,List.map_append,List.map_cons,List.find?_append]
  have hn:(ini.map f).find? (fun p=>p.1 == at_) = none:=by
   rw [List.find?_eq_none]
   intro p hp
   obtain ⟨x,hx,rfl⟩:=List.mem_map.1 hp
   simpa using h1 x hx
  rw [hn]
  simp [h2]
 ·intro h
  unfold nowC
  have hn:L.reverse.find? (fun p=>p.1 == at_) = none:=by
   rw [← hz,List.find?_eq_none]
   intro p hp
   obtain ⟨x,hx,rfl⟩:=List.mem_map.1 hp
   simpa using h x hx
  rw [hn]
abbrev UZ (us:List UW):Type:={ x // x ∈ us } × Nat
def usZ (us:List UW):List (UZ us):=us.attach.zipIdx.reverse
abbrev encsZ {us:List UW} (x:UZ us):Array Value:=#[.int .i64 (x.2:Int),.agg #[.int .i64 x.1.1.at_,x.1.1.v]]
def prZ {us:List UW} (x:UZ us):Int × Cn:=(x.1.1.at_,x.1.1.c)
theorem usZ_len (us:List UW):(usZ us).length = us.length:=by simp [usZ]
theorem usZ_map (us:List UW):(usZ us).map prZ = (us.map (fun x=>(x.at_,x.c))).reverse:=by
 unfold usZ
 rw [List.map_reverse]
 congr 1
 apply List.ext_getElem
 ·simp
 ·intro i h1 h2
  simp [prZ]
theorem usZ_get (us:List UW) (k:Nat) (h:k < (usZ us).length) (hk:(usZ us).length - 1 - k < us.length):((usZ us)[k]).1.1 = us[(usZ us).length - 1 - k] ∧ ((usZ us)[k]).2 = (usZ us).length - 1 - k:=by
 have hl:=usZ_len us
 have e:(usZ us)[k] = us.attach.zipIdx[us.length - 1 - k]'(by simp; omega):=by
  have e0:(usZ us)[k] = us.attach.zipIdx.reverse[k]'(by simpa [usZ] using h):=rfl
  rw [e0,List.getElem_reverse]
  congr 1
  simp
 rw [e]
 constructor
 ·simp [hl]
 ·simp [hl]
theorem usZ_comes {w:World} {us:List UW} {g cap:Nat} (h:w.ownsRow 0 TW 2 (.slice (some ⟨g,0,none⟩) us.length cap) us.length (us.flatMap UW.enc)) (hv:∀ x ∈ us,∃ gd cd,x.v = .slice (some ⟨gd,0,none⟩) 512 cd):Comes1 w g encsZ (usZ us):=by
 intro k hk
 have hk2:(usZ us).length - 1 - k < us.length:=by rw [usZ_len] at hk ⊢; omega
 obtain ⟨e1,e2⟩:=usZ_get us k hk hk2
 obtain ⟨c0,c1⟩:=us_cells h hk2
 obtain ⟨gd,cd,ev⟩:=hv _ (List.getElem_mem hk2)
 refine ⟨us[(usZ us).length - 1 - k].at_,gd,cd,?_,c0,by rw [c1,ev]⟩
 show #[Value.int .i64 (((usZ us)[k]).2:Int),.agg #[.int .i64 ((usZ us)[k]).1.1.at_,((usZ us)[k]).1.1.v]] = _
 rw [e1,e2,ev]
theorem blk_own {β:Type} (B:Nat) (t:TypeId) (cs:Array Value):Own (fun (_:β) W=>Blk W B t cs):=fun s X Y row hs hg hrow=>
 hs.grown hg (fun e'=>by obtain ⟨o,ho,hc⟩:=hrow B e'.symm; unfold Blk at hs; rw [hs] at ho; cases ho; cases hc)
theorem fil_own {β:Type} (F:Nat → Prop) (v:Value) (c:Cn):Own (fun (_:β) W=>Fil W F v c):=fun s X Y row hs hg hrow=>by
 obtain ⟨hc,g,cap,cs,e,hf,hb,hcs⟩:=hs
 exact ⟨hc,g,cap,cs,e,hf,blk_own (β:=Unit) g T8 cs () X Y row hb hg hrow,hcs⟩
theorem wp_lookup_own_ok {P:Program} (w:World) {o:Oper} {a:Act} {K:Act → World → Prop} {Q:Exit → Act → World → Prop} (m x:Operand) (t:TypeId) (hop:o.op = Op.lookup t m x true)
  (k e:TypeId) (Kd:Maps.Keyed P k) (ht:P.underlying t = some (.map k e)) (R:Value → Option (DataW Value × List MemPlace)) {z:Value} (hz:(zeroValue e).run P w = .ok z w) (zd:DataW Value) (zp:List MemPlace) (hzd:R z = some (zd,zp)) (b n:Nat) (D:DataW Value)
  (hm:a.eval m = .map (some b)) (hown:w.ownsMap P k R b n D) (key:Value) (kl:Lit) (hx:a.eval x = key) (hkey:keyOf P k key = some kl)
  (hK:∀ v ps,R v = some (D.atKey kl zd,ps) → K (a.put o.dst (.tuple #[v,.bool (Maps.has D kl)])) w):o.wp P a w K Q:=by
 obtain ⟨v,ps,hrun,hv⟩:=hown.look_ok Kd ht hz hzd hkey
 unfold Oper.wp
 simp [execOp,hop,hm,hx,hrun,Result.andThen]
 exact hK v ps hv
set_option maxRecDepth 100000 in
set_option maxHeartbeats 1000000 in
theorem sec_read_ok {w:World} {F:Nat → Prop} {b:Nat} {out:Bool} {left size:Int} {S:Int → Cn} {L:List (Int × Cn)} {N m:Nat} {u:Value} {n:Nat} {D:DataW Value} {us:List UW} (h:SecG w F b out left size S L N m u n D us)
  (at_:Int) (ha:faultE out size at_ = 0) :
  Calls Try.prog 39 #[.pointer (some ⟨b,0,none⟩),.int .i64 at_] w fun e w'=>(∃ v,e = .returned (.tuple #[v,.int .i64 0]) ∧ Fil w' (fun j=>w.heap.size ≤ j) v (nowC S L at_)) ∧ Below w.heap.size w w':=by
 have H:=hide h
 obtain ⟨A,cap,hu,hA⟩:∃ A cap,u = .slice A us.length cap ∧ (0 < us.length → ∃ g,A = some ⟨g,0,none⟩):=by
  rcases h.row.2 with ⟨e,h0⟩ | ⟨g,cap,cur,e,_⟩
  ·exact ⟨none,0,by rw [e,h0],fun h1=>absurd h1 (by omega)⟩
  ·exact ⟨_,cap,e,fun _=>⟨g,rfl⟩⟩
 subst hu
 have HAA:=hide hA
 clear h hA
 have HE:=hide ha
 clear ha
 obtain ⟨WA,hWA⟩:∃ WA,((w.alloc (.cells #[.int .i64 at_] 3)).alloc (.cells #[.slice none 0 0] 38)).alloc (.cells #[.int .i64 0] 33) = WA:=⟨_,rfl⟩
 have hB:Below w.heap.size w WA:=by rw [← hWA]; (repeat (first | exact Below.refl _ _ | refine Below.drew ?_ | refine Below.setCell ?_ (by simp; try omega) _ | refine bal ?_ _))
 have HA:=hide (H.out.below hB)
 have HB:=hide hB
 have b0:Blk WA w.heap.size 3 #[.int .i64 at_]:=by rw [← hWA]; exact ((Blk.new w _ _).alloc _).alloc _
 have b1:Blk WA (w.heap.size + 1) 38 #[.slice none 0 0]:=by rw [← hWA]; have:=(Blk.new (w.alloc (.cells #[.int .i64 at_] 3)) 38 #[.slice none 0 0]).alloc (.cells #[.int .i64 0] 33); simpa using this
 have b2:Blk WA (w.heap.size + 2) 33 #[.int .i64 0]:=by rw [← hWA]; have:=(Blk.new ((w.alloc (.cells #[.int .i64 at_] 3)).alloc (.cells #[.slice none 0 0] 38)) 33 #[.int .i64 0]); simpa using this
 have B0:=hide b0
 have B1:=hide b1
 have B2:=hide b2
 have cA:=b0.cell 0
 simp at cA
 clear b0 b1 b2 hB
 refine (callsIn_wide (n:=6)).1 (callsIn_of_wp_marks Try.func39 rfl trivial (wpIn_wide.2 ?_) rfl)
 simp only [Try.ntmps39,List.size_toArray,List.length_cons,List.length_nil,Nat.reduceAdd,Nat.reduceSub,Array.replicate_succ,Array.replicate_zero,List.push_toArray,List.append_toArray,List.nil_append,List.cons_append]
 go_wp2_with (first | (go_at_call 62; (refine (sec_fault at_ HA.out).mono ?_); rintro e w1 ⟨rfl,h1,hb1⟩; rw [HE.out]; have k0:=B0.out.below hb1 B0.out.lt; have k1:=B1.out.below hb1 B1.out.lt; have k2:=B2.out.below hb1 B2.out.lt; have kb:=h1.blk.cell; have qb:=h1.blk.frozen; have zb:=h1.blk.lt; unfold dk at kb; have H1:=hide h1; have HB1:=hide (HB.out.trans (hb1.mono HB.out.size)); have hsz:=hb1.size; clear h1 hb1) | (go_at_call 63; (refine (back_any A us.length cap w1).mono ?_); rintro e w2 ⟨rfl,rfl⟩))
 obtain ⟨W0,hW0⟩:∃ W0,w1.alloc (Obj.cells #[Value.slice A us.length cap] 98) = W0:=⟨_,rfl⟩
 have j0:=hide (show Blk W0 w.heap.size 3 #[.int .i64 at_] by rw [← hW0]; exact k0.alloc _)
 have j1:=hide (show Blk W0 (w.heap.size + 1) 38 #[.slice none 0 0] by rw [← hW0]; exact k1.alloc _)
 have j2:=hide (show Blk W0 (w.heap.size + 2) 33 #[.int .i64 0] by rw [← hW0]; exact k2.alloc _)
 have jU:=hide (show Blk W0 w1.heap.size 98 #[Value.slice A us.length cap] by rw [← hW0]; exact Blk.new _ _ _)
 have hb10:Below w1.heap.size w1 W0:=by rw [← hW0]; exact (Below.refl _ _).alloc (Nat.le_refl _) _
 have H0:=hide (H1.out.below hb10)
 have HB0:=hide (HB1.out.trans (hb10.mono HB1.out.size))
 clear k0 k1 k2 kb qb zb hb10 cA hWA HA
 rw [hW0]
 clear hW0
 have hul:us.length ≤ 2000000000:=by have:=H0.out.hn; have:=H0.out.hN; omega
 have jz:=H0.out.row
 have jv:∀ x ∈ us,∃ gd cd,x.v = .slice (some ⟨gd,0,none⟩) 512 cd:=fun x hx=>by
  obtain ⟨gd,cd,e,_⟩:=(H0.out.fil x hx).1.reads
  exact ⟨gd,cd,e⟩
 have jI:0 < (usZ us).length → ∃ g,A = some ⟨g,0,none⟩ ∧ g < W0.heap.size ∧ Comes1 W0 g encsZ (usZ us):=fun h0=>by
  obtain ⟨g,rfl⟩:=HAA.out (by rw [usZ_len] at h0; exact h0)
  exact ⟨g,rfl,(jz.lt g rfl).2,usZ_comes jz jv⟩
 have JV:=hide jv
 clear jv
 refine (wpIn_wide (n:=6)).1 ?_
 refine wpIn_rangeFunc_ownH rfl (by decide:1 ≤ 6) (gf:=76) (lb:=#[.pointer (some ⟨w1.heap.size,0,none⟩)]) rfl trivial (enters_of Try.func76 (by kernel_rfl) rfl)
  (back_stops encsZ (usZ us) 5 (by omega) w1.heap.size W0.heap.size A cap (by rw [usZ_len]; exact hul) W0 jU.out.lt (Nat.le_refl _) (by rw [usZ_len]; have:=jU.out.cell 0; simpa using this) jI) belowK_t (belowK_b (Nat.le_refl _)) (Below.refl _ _) (fun _=>rfl)
  (fun pre W=>(∀ x ∈ pre,(prZ x).1 ≠ at_) ∧ Below W0.heap.size W0 W)
  (fun c pre W=>(c = .ret ∧ ∃ ini last v,pre = ini ++ [last] ∧ (∀ x ∈ ini,(prZ x).1 ≠ at_) ∧ (prZ last).1 = at_ ∧ Blk W (w.heap.size + 1) 38 #[v] ∧ Blk W (w.heap.size + 2) 33 #[.int .i64 0] ∧ Fil W (fun j=>w.heap.size ≤ j) v (prZ last).2) ∧ Below w.heap.size w W)
  (fun s X Y row hs hg hr=>⟨hs.1,ownFrom_below (Nat.le_refl _) (Nat.le_refl _) s X Y row hs.2 hg hr⟩)
  (fun c=>OwnFrom.and (Own.from (fun s X Y row hs hg hr=>by
   obtain ⟨hc,ini,last,v,e1,e2,e3,b1,b2,hf⟩:=hs
   exact ⟨hc,ini,last,v,e1,e2,e3,blk_own (β:=Unit) _ _ _ () X Y row b1 hg hr,blk_own (β:=Unit) _ _ _ () X Y row b2 hg hr,fil_own (β:=Unit) _ _ _ () X Y row hf hg hr⟩) _) (ownFrom_below (Nat.le_refl _) HB0.out.size))
  ⟨fun x hx=>by simp at hx,Below.refl _ _⟩
  (fun x a' W=>∃ Bx,W0.heap.size ≤ Bx ∧ Blk W Bx TW #[.int .i64 x.1.1.at_,x.1.1.v] ∧ a' = { tmps:=#[Value.pointer (some { block:=b,off:=0 }),Value.int IntKind.i64 at_,undef,Value.pointer (some { block:=w.heap.size,off:=0 }),Value.pointer (some { block:=w.heap.size + 1,off:=0 }),Value.pointer (some { block:=w.heap.size + 1 + 1,off:=0 }),Value.int IntKind.i64 0,undef,Value.pointer (some ⟨Bx,0,none⟩),undef,undef,Value.pointer (some { block:=b,off:=0 }),Value.int IntKind.i64 at_,Value.int IntKind.i64 0,Value.int IntKind.i64 0,Value.bool false,undef,Value.pointer (some { block:=b,off:=0 }),Value.pointer (some { block:=b,off:=0 }),Value.pointer (some { block:=b,off:=4 }),Value.slice A us.length cap,Value.func (Fn.func 76) #[] #[Value.pointer (some { block:=w1.heap.size,off:=0 })],.int .i64 (x.2:Int),.agg #[.int .i64 x.1.1.at_,x.1.1.v],undef,undef,undef,undef,undef,undef,undef,undef,undef,undef,undef,undef,undef,undef,undef,undef,undef,undef,undef,undef],defers:=[] })
  (fun x a' _ X Y row hs hg hr=>by obtain ⟨Bx,h1,h2,h3⟩:=hs; exact ⟨Bx,h1,blk_own (β:=Unit) _ _ _ () X Y row h2 hg (fun r e=>(hr r e).2),h3⟩)
  ?assign ?body ?done ?stop
 case assign=>
  rintro l pre x W K ⟨hp,hB⟩ hK
  obtain ⟨gd,cd,ev⟩:=JV.out x.1.1 x.1.2
  rw [show encsZ x = #[.int .i64 (x.2:Int),.agg #[.int .i64 x.1.1.at_,.slice (some ⟨gd,0,none⟩) 512 cd]] by unfold encsZ; rw [ev]]
  rw [ev] at hK
  gi_wp2
  exact hK _ _ ((KeepsOthers.alloc _ _).from _) ((Below.refl _ W).alloc hB.size _) ⟨hp,hB.alloc hB.size _⟩ ⟨W.heap.size,hB.size,Blk.new W TW _,rfl⟩
 case body=>
  rintro l pre x a' W hl _ ⟨hp,hB⟩ ⟨Bx,hBx,bX,rfl⟩ hlt
  have hF:=(H0.out.fil x.1.1 x.1.2).1.below hB (fun _ h=>h)
  obtain ⟨gd,cd,ev,_,hrd⟩:=hF.reads
  have c0:=(j0.out.below hB j0.out.lt).cell 0
  have k1:=j1.out.below hB j1.out.lt
  have k2:=j2.out.below hB j2.out.lt
  have cx0:=bX.cell 0
  have cx1:=bX.cell 1
  simp at c0 cx0 cx1
  rw [ev] at cx1
  have HFL:=hide hF
  have HRD:=hide hrd
  have HBB:=hide hB
  have K1:=hide k1
  have K2:=hide k2
  have HP:=hide hp
  rw [ev]
  clear hF hrd hB hp k1 k2
  obtain ⟨xa,hxa⟩:∃ xa,x.1.1.at_ = xa:=⟨_,rfl⟩
  have HXA:=hide hxa
  rw [hxa] at cx0 ⊢
  clear hxa
  by_cases hx:xa = at_
  ·subst hx
   gi_wp2_with ((refine ⟨trivial,?_⟩; gi_at_call 48; (refine (CallsIn.inRound l (callsIn_wide.2 (clone_any ⟨gd,0,none⟩ 512 cd (cs8 x.1.1.c) W HRD.out (cs8_one _) (by omega)))).mono ?_); rintro e w5 ⟨v5,rfl,ho,hb5⟩; obtain ⟨gv,cv,ev5,_,_⟩:=ho.form (by omega); subst ev5; have k15:=K1.out.below hb5 K1.out.lt; have k25:=K2.out.below hb5 K2.out.lt; have c15:=k15.cell 0; have q15:=k15.frozen 0; have z15:=k15.lt; have c25:=k25.cell 0; have q25:=k25.frozen 0; have z25:=k25.lt; simp at c15 c25; have HO:=hide ho; have HB5:=hide hb5; have K15:=hide k15; have K25:=hide k25; clear ho hb5 k15 k25))
   have ga:=gby_set w5 (w.heap.size + 1) 0 (.slice (some ⟨gv,0,none⟩) 512 cv)
   have gb:=gby_set (w5.setCell ⟨w.heap.size + 1,0,none⟩ (.slice (some ⟨gv,0,none⟩) 512 cv)) (w.heap.size + 2) 0 (.int .i64 0)
   have ka:Blk (w5.setCell ⟨w.heap.size + 1,0,none⟩ (.slice (some ⟨gv,0,none⟩) 512 cv)) (w.heap.size + 2) 33 #[.int .i64 0]:=K25.out.far (by simp) _
   refine ⟨(KeepsOthers.trans ⟨HB5.out.size,fun k o hk _=>(HB5.out.block k (Array.getElem?_eq_some_iff.1 hk).1).trans hk⟩ ((KeepsOthers.setCell _ _ _).trans (KeepsOthers.setCell _ _ _))).from _,
    ⟨rfl,pre,x,.slice (some ⟨gv,0,none⟩) 512 cv,rfl,HP.out,HXA.out,(K15.out.set_ 0 _).far (by simp) _,ka.set_ 0 _,?_⟩,?_⟩
   ·exact (((Fil.of_row HO.out HFL.out.1.1 (fun g h1 _=>Nat.le_trans (Nat.le_trans HB0.out.size HBB.out.size) h1)).turn K15.out (by decide) ga (fun _ h=>h)).turn ka (by decide) gb (fun _ h=>h))
   ·exact (((HB0.out.trans (HBB.out.mono HB0.out.size)).trans (HB5.out.mono (Nat.le_trans HB0.out.size HBB.out.size))).setCell (by simp) _).setCell (by simp; omega) _
  ·have d:(xa == at_) = false:=by simpa using hx
   gi_wp2
   refine ⟨KeepsFrom.refl _ _,Below.refl _ _,fun y hy=>?_,HBB.out⟩
   rcases List.mem_append.1 hy with hy | hy
   ·exact HP.out y hy
   ·have:y = x:=by simpa using hy
    subst this
    unfold prZ
    rw [HXA.out]; exact hx
 case done=>
  rintro Dd ys W hD rfl ⟨hp,hB⟩ hK
  have HNW:=hide ((now_map prZ (usZ us) S L (by rw [usZ_map,H0.out.hL]) at_).2 hp)
  have hx:=H0.out.below hB
  have kb:=hx.blk.cell
  have qb:=hx.blk.frozen
  have zb:=hx.blk.lt
  unfold dk at kb
  have c0:=(j0.out.below hB j0.out.lt).cell 0
  have k1:=j1.out.below hB j1.out.lt
  have k2:=j2.out.below hB j2.out.lt
  simp at c0
  have HX:=hide hx
  have K1:=hide k1
  have K2:=hide k2
  have HBB:=hide hB
  have HKD:=hide hK
  have HDD:=hide hD
  have HAT:=hide (show 0 ≤ at_ ∧ at_ < size by have ha:=HE.out; unfold faultE at ha; split at ha <;> (try split at ha) <;> (try split at ha) <;> omega)
  clear hp hx hB hK k1 k2 hD
  go_wp2
  refine wp_region_stage (by kernel_rfl) (by kernel_rfl) 44 0
   [⟨some 32,false,0,0,fun _ v _=>v = .pointer (some ⟨b,0,none⟩)⟩,
    ⟨some 33,false,0,0,fun _ v _=>v = .pointer (some ⟨b,0,none⟩)⟩,
    ⟨some 34,false,0,0,fun _ v _=>v = .pointer (some ⟨b,3,none⟩)⟩,
    ⟨some 35,false,0,0,fun _ v _=>v = .map (some m)⟩,
    ⟨some 36,false,0,0,fun _ v _=>v = .int .i64 at_⟩,
    ⟨some 37,false,0,0,fun _ v _=>∃ x ps,v = .tuple #[x,.bool (Maps.has D (kl at_))] ∧ heldR x = some (D.atKey (kl at_) Z0,ps)⟩,
    ⟨some 31,false,0,0,fun _ v _=>∃ x ps,v = .tuple #[x,.bool (Maps.has D (kl at_))] ∧ heldR x = some (D.atKey (kl at_) Z0,ps)⟩,
    ⟨some 38,false,0,0,fun _ v _=>∃ ps,heldR v = some (D.atKey (kl at_) Z0,ps)⟩,
    ⟨some 39,false,0,0,fun _ v _=>v = .bool (Maps.has D (kl at_))⟩,
    ⟨some 9,false,0,0,fun _ v _=>∃ ps,heldR v = some (D.atKey (kl at_) Z0,ps)⟩,
    ⟨some 10,false,0,0,fun _ v _=>v = .bool (Maps.has D (kl at_))⟩] (fun _ w'=>w' = W.drew) (fun _ _ _=>True) [32,33,34,35,36,37,31,38,39,9,10] rfl (by kernel_rfl) rfl ?g0 ?keep ?steps ?fin
  case keep=>
   intro e he s v w w' hm hsM ht hv
   simp only [List.mem_cons,List.not_mem_nil,or_false] at he
   rcases he with rfl | rfl | rfl | rfl | rfl | rfl | rfl | rfl | rfl | rfl | rfl
   all_goals first | exact hv
  case steps=>
   refine ⟨?_,?_,?_,?_,?_,?_,?_,?_,?_,?_,?_,trivial⟩
   ·intro st hlo hhi ac w3 hg hG hd K hK
    dsimp only at hlo hhi hG hK
    exact op_move _ rfl (hK _ (hg.kp 0 (by simp)))
   ·intro st hlo hhi ac w3 hg hG hd K hK
    dsimp only at hlo hhi hG hK
    obtain rfl:=hG
    have f0:=hd ⟨0,.data⟩ (by simp) rfl _ rfl _ rfl
    (try simp [Act.eval] at f0)
    go_simp
    exact hK _ rfl
   ·intro st hlo hhi ac w3 hg hG hd K hK
    dsimp only at hlo hhi hG hK
    obtain rfl:=hG
    have f1:=hd ⟨1,.data⟩ (by simp) rfl _ rfl _ rfl
    (try simp [Act.eval] at f1)
    go_simp
    exact hK _ rfl
   ·intro st hlo hhi ac w3 hg hG hd K hK
    dsimp only at hlo hhi hG hK
    obtain rfl:=hG
    have kb3:=kb 3
    simp at kb3
    have f2:=hd ⟨2,.data⟩ (by simp) rfl _ rfl _ rfl
    (try simp [Act.eval] at f2)
    go_simp
    exact hK _ rfl
   ·intro st hlo hhi ac w3 hg hG hd K hK
    dsimp only at hlo hhi hG hK
    obtain rfl:=hG
    have k3:=hg.kp 3 (by simp)
    (try simp [Act.eval] at k3)
    go_simp
    exact hK _ rfl
   ·intro st hlo hhi ac w3 hg hG hd K hK
    dsimp only at hlo hhi hG hK
    obtain rfl:=hG
    have f3:=hd ⟨3,.data⟩ (by simp) rfl _ rfl _ rfl
    have f4:=hd ⟨4,.data⟩ (by simp) rfl _ rfl _ rfl
    have hs5:=HX.out.hs
    refine wp_lookup_own_ok _ _ _ 95 rfl 3 38 keyed Try.underlying95 heldR (Try.zeroValue38 _) Z0 [] rfl m n D f3 HX.out.map.drew _ (kl at_) f4 (Maps.keyOf_int_mk Try.underlying3 (wf_key (by have:=HAT.out; omega))) ?_
    intro x ps hxx
    exact hK _ ⟨x,ps,rfl,hxx⟩
   ·intro st hlo hhi ac w3 hg hG hd K hK
    dsimp only at hlo hhi hG hK
    exact op_move _ rfl (hK _ (hd ⟨5,.data⟩ (by simp) rfl _ rfl _ rfl))
   ·intro st hlo hhi ac w3 hg hG hd K hK
    dsimp only at hlo hhi hG hK
    obtain rfl:=hG
    obtain ⟨x,ps,f6,hxx⟩:=hd ⟨6,.data⟩ (by simp) rfl _ rfl _ rfl
    simp [Act.eval] at f6
    go_simp
    exact hK x ⟨ps,hxx⟩
   ·intro st hlo hhi ac w3 hg hG hd K hK
    dsimp only at hlo hhi hG hK
    obtain rfl:=hG
    obtain ⟨x,ps,f6,hxx⟩:=hd ⟨6,.data⟩ (by simp) rfl _ rfl _ rfl
    simp [Act.eval] at f6
    go_simp
    exact hK _ rfl
   ·intro st hlo hhi ac w3 hg hG hd K hK
    dsimp only at hlo hhi hG hK
    exact op_assign _ rfl (hK _ (hd ⟨7,.data⟩ (by simp) rfl _ rfl _ rfl))
   ·intro st hlo hhi ac w3 hg hG hd K hK
    dsimp only at hlo hhi hG hK
    exact op_assign _ rfl (hK _ (hd ⟨8,.data⟩ (by simp) rfl _ rfl _ rfl))
  case g0=>rfl
  case fin=>
   intro f w6 hG hall
   have h9:=hall _ (List.mem_of_getElem? (i:=9) rfl) 9 rfl
   have h10:=hall _ (List.mem_of_getElem? (i:=10) rfl) 10 rfl
   obtain rfl:=hG
   clear hall
   simp only [fillF,List.map_cons,List.map_nil,List.foldl_cons,List.foldl_nil,Act.put,List.setIfInBounds_toArray,List.set_cons_zero,List.set_cons_succ]
   obtain ⟨ps,h9⟩:=h9
   obtain ⟨x,hx⟩:∃ x,f 9 = x:=⟨_,rfl⟩
   rw [hx] at h9 ⊢
   rw [show f 10 = .bool (Maps.has D (kl at_)) from h10]
   have hat:D.atKey (kl at_) Z0 = .held x:=by
    unfold heldR at h9
    injection h9 with h9
    injection h9 with h9 _
    exact h9.symm
   have KB0:=hide (HB0.out.trans (HBB.out.mono HB0.out.size))
   have hsr:=HX.out.sure at_ HAT.out.1 HAT.out.2
   clear hx h9 h10 kb qb zb c0 jI jz
   cases hh:Maps.has D (kl at_)
   ·have hS:=hide (hsr.2 hh)
    clear hsr hh hat
    have hmk:=run_make_row' (P:=Try.prog) 38 5 (.int .u8 0) 1 Try.underlying38 u8_info rfl .i64 .i64 512 (by omega) (by omega)
    have hM0:∀ j,j < 512 → (madeCells #[Value.int .u8 0] 512)[j]? = (cs8 zC)[j]?:=fun j hj=>by rw [fillA_0 0 512,fillA_at 0 hj,cs8_get]; simp only [zC,List.getElem?_replicate,if_pos hj]; rfl
    obtain ⟨M,hM⟩:∃ M,madeCells #[Value.int .u8 0] 512 = M:=⟨_,rfl⟩
    rw [hM] at hmk hM0
    clear hM
    simp only [Int.cast_ofNat_Int] at hmk
    have c15:=K1.out.cell 0
    have q15:=K1.out.frozen 0
    have z15:=K1.out.lt
    have c25:=K2.out.cell 0
    have q25:=K2.out.frozen 0
    have z25:=K2.out.lt
    simp at c15 c25
    obtain ⟨V,hV⟩:∃ V:Value,.slice (some ⟨W.heap.size,0,none⟩) 512 512 = V:=⟨_,rfl⟩
    have hK':((((W.setCell ⟨w.heap.size + 1,0,none⟩ V).setCell ⟨w.heap.size + 1 + 1,0,none⟩ (.int .i64 0)).alloc (Obj.cells M T8)).drew).heap[Dd]? = some (Obj.deferred (some [])):=
     (KeepsOthers.alloc _ _).same Dd _ ((KeepsOthers.setCell (W.setCell ⟨w.heap.size + 1,0,none⟩ V) ⟨w.heap.size + 1 + 1,0,none⟩ (.int .i64 0)).same Dd _ ((KeepsOthers.setCell W ⟨w.heap.size + 1,0,none⟩ V).same Dd _ HKD.out rfl) rfl) rfl
    have b1:=(((K1.out.set_ 0 V).far (p:=⟨w.heap.size + 1 + 1,0,none⟩) (by simp) (.int .i64 0)).alloc (Obj.cells M T8)).drew
    have b2:=(((K2.out.far (p:=⟨w.heap.size + 1,0,none⟩) (by simp) V).set_ 0 (.int .i64 0)).alloc (Obj.cells M T8)).drew
    have hf:Fil ((((W.setCell ⟨w.heap.size + 1,0,none⟩ V).setCell ⟨w.heap.size + 1 + 1,0,none⟩ (.int .i64 0)).alloc (Obj.cells M T8)).drew) (fun j=>w.heap.size ≤ j) V (S at_):=by
     refine ⟨⟨by rw [hS.out]; exact okC_z,_,_,hV.symm,Nat.le_refl _⟩,W.heap.size,512,M,hV.symm,KB0.out.size,?_,by rw [hS.out]; exact hM0⟩
     have:=Blk.new ((W.setCell ⟨w.heap.size + 1,0,none⟩ V).setCell ⟨w.heap.size + 1 + 1,0,none⟩ (.int .i64 0)) T8 M
     simpa using this.drew
    have hBw:Below w.heap.size w ((((W.setCell ⟨w.heap.size + 1,0,none⟩ V).setCell ⟨w.heap.size + 1 + 1,0,none⟩ (.int .i64 0)).alloc (Obj.cells M T8)).drew):=by
     have h1:=((KB0.out.setCell (p:=⟨w.heap.size + 1,0,none⟩) (by simp) V).setCell (p:=⟨w.heap.size + 1 + 1,0,none⟩) (by simp; omega) (.int .i64 0))
     exact (h1.alloc h1.size _).drew
    clear hM0
    subst hV
    go_wp2
    refine ⟨by simp,.inl ⟨_,_,rfl,run_takeDeferred hK',?_⟩⟩
    obtain ⟨WF,hWF⟩:∃ WF,(((W.setCell ⟨w.heap.size + 1,0,none⟩ (.slice (some ⟨W.heap.size,0,none⟩) 512 512)).setCell ⟨w.heap.size + 1 + 1,0,none⟩ (.int .i64 0)).alloc (Obj.cells M T8)).drew = WF:=⟨_,rfl⟩
    rw [hWF] at hK' b1 b2 hf hBw ⊢
    clear hWF
    have hr:∀ r,some Dd = some r → ∃ o:Obj,WF.heap[r]? = some o ∧ o.isCells = false:=fun r e=>by cases e; exact ⟨_,hK',rfl⟩
    have hg:=grownBy_putObj' WF Dd (.deferred none)
    have c1:=(blk_own (β:=Unit) _ _ _ () WF _ (some Dd) b1 hg hr).cell 0
    have c2:=(blk_own (β:=Unit) _ _ _ () WF _ (some Dd) b2 hg hr).cell 0
    simp at c1 c2
    refine ⟨.tuple #[.slice (some ⟨W.heap.size,0,none⟩) 512 512,.int .i64 0],by simp [results,Try.f39,go_sem,c1,c2],⟨_,rfl,?_⟩,hBw.trans (belowK_b (w:=w) (Nat.le_refl _) WF Dd _ _ (Nat.le_trans HB0.out.size HDD.out) hK' rfl rfl)⟩
    rw [HNW.out]
    exact fil_own (β:=Unit) _ _ _ () WF _ (some Dd) hf hg hr
   ·obtain ⟨v,hv,hF⟩:=hsr.1 hh
    have hxv:v = x:=by rw [hv] at hat; injection hat
    subst hxv
    obtain ⟨gd,cd,ev,_,hrd⟩:=hF.reads
    have HF:=hide hF
    have HRD:=hide hrd
    subst ev
    clear hsr hh hat hv hF hrd
    go_wp2_with ((go_at_call 48; (refine (clone_any ⟨gd,0,none⟩ 512 cd (cs8 (S at_)) W.drew HRD.out (cs8_one _) (by omega)).mono ?_); rintro e w5 ⟨v5,rfl,ho,hb5⟩; obtain ⟨gv,cv,ev5,_,_⟩:=ho.form (by omega); subst ev5; have k15:=K1.out.drew.below hb5 K1.out.lt; have k25:=K2.out.drew.below hb5 K2.out.lt; have c15:=k15.cell 0; have q15:=k15.frozen 0; have z15:=k15.lt; have c25:=k25.cell 0; have q25:=k25.frozen 0; have z25:=k25.lt; simp at c15 c25; have HO:=hide ho; have HB5:=hide hb5; have K15:=hide k15; have K25:=hide k25; clear ho hb5 k15 k25))
    have KD:=hide (show w5.heap[Dd]? = some (Obj.deferred (some [])) from (HB5.out.block Dd (Array.getElem?_eq_some_iff.1 HKD.out).1).trans HKD.out)
    have KF:=hide (Fil.of_row HO.out HF.out.1.1 (F:=fun j=>w.heap.size ≤ j) (fun g h1 _=>Nat.le_trans KB0.out.size h1))
    have KB:=hide (KB0.out.drew.trans (HB5.out.mono KB0.out.size))
    have hK':=(KeepsOthers.setCell (w5.setCell ⟨w.heap.size + 1,0,none⟩ (.slice (some ⟨gv,0,none⟩) 512 cv)) ⟨w.heap.size + 1 + 1,0,none⟩ (.int .i64 0)).same Dd _ ((KeepsOthers.setCell w5 ⟨w.heap.size + 1,0,none⟩ (.slice (some ⟨gv,0,none⟩) 512 cv)).same Dd _ KD.out rfl) rfl
    have ga:=gby_set w5 (w.heap.size + 1) 0 (.slice (some ⟨gv,0,none⟩) 512 cv)
    have gb:=gby_set (w5.setCell ⟨w.heap.size + 1,0,none⟩ (.slice (some ⟨gv,0,none⟩) 512 cv)) (w.heap.size + 1 + 1) 0 (.int .i64 0)
    have ka:Blk (w5.setCell ⟨w.heap.size + 1,0,none⟩ (.slice (some ⟨gv,0,none⟩) 512 cv)) (w.heap.size + 1 + 1) 33 #[.int .i64 0]:=K25.out.far (by simp) _
    have b1:=(K15.out.set_ 0 (.slice (some ⟨gv,0,none⟩) 512 cv)).far (p:=⟨w.heap.size + 1 + 1,0,none⟩) (by simp) (.int .i64 0)
    have b2:=ka.set_ 0 (.int .i64 0)
    have hf:=((KF.out).turn K15.out (by decide) ga (fun _ h=>h)).turn ka (by decide) gb (fun _ h=>h)
    have hBw:=(KB.out.setCell (p:=⟨w.heap.size + 1,0,none⟩) (by simp) (.slice (some ⟨gv,0,none⟩) 512 cv)).setCell (p:=⟨w.heap.size + 1 + 1,0,none⟩) (by simp; omega) (.int .i64 0)
    clear ga gb ka
    refine ⟨by simp,.inl ⟨_,_,rfl,run_takeDeferred hK',?_⟩⟩
    obtain ⟨WF,hWF⟩:∃ WF,(w5.setCell ⟨w.heap.size + 1,0,none⟩ (.slice (some ⟨gv,0,none⟩) 512 cv)).setCell ⟨w.heap.size + 1 + 1,0,none⟩ (.int .i64 0) = WF:=⟨_,rfl⟩
    rw [hWF] at hK' b1 b2 hf hBw ⊢
    clear hWF
    have hr:∀ r,some Dd = some r → ∃ o:Obj,WF.heap[r]? = some o ∧ o.isCells = false:=fun r e=>by cases e; exact ⟨_,hK',rfl⟩
    have hg:=grownBy_putObj' WF Dd (.deferred none)
    have c1:=(blk_own (β:=Unit) _ _ _ () WF _ (some Dd) b1 hg hr).cell 0
    have c2:=(blk_own (β:=Unit) _ _ _ () WF _ (some Dd) b2 hg hr).cell 0
    simp at c1 c2
    refine ⟨.tuple #[.slice (some ⟨gv,0,none⟩) 512 cv,.int .i64 0],by simp [results,Try.f39,go_sem,c1,c2],⟨_,rfl,?_⟩,hBw.trans (belowK_b (w:=w) (Nat.le_refl _) WF Dd _ _ (Nat.le_trans HB0.out.size HDD.out) hK' rfl rfl)⟩
    rw [HNW.out]
    exact fil_own (β:=Unit) _ _ _ () WF _ (some Dd) hf hg hr
 case stop=>
  rintro Dd c pre W hD ⟨k,hk,rfl⟩ ⟨⟨rfl,ini,last,v,e1,e2,e3,b1,b2,hf⟩,hBw⟩ hK
  refine wpIn_wide.2 ?_
  go_wp2
  refine ⟨by simp,.inl ⟨_,_,rfl,run_takeDeferred hK,?_⟩⟩
  have hr:∀ r,some Dd = some r → ∃ o:Obj,W.heap[r]? = some o ∧ o.isCells = false:=fun r e=>by cases e; exact ⟨_,hK,rfl⟩
  have hg:=grownBy_putObj' W Dd (.deferred none)
  have c1:=(blk_own (β:=Unit) _ _ _ () W _ (some Dd) b1 hg hr).cell 0
  have c2:=(blk_own (β:=Unit) _ _ _ () W _ (some Dd) b2 hg hr).cell 0
  simp at c1 c2
  refine ⟨.tuple #[v,.int .i64 0],by simp [results,Try.f39,go_sem,c1,c2],⟨v,rfl,?_⟩,hBw.trans (belowK_b (w:=w) (Nat.le_refl _) W Dd _ _ (Nat.le_trans HB0.out.size hD) hK rfl rfl)⟩
  have hnow:=(now_map prZ (usZ us) S L (by rw [usZ_map,H0.out.hL]) at_).1 ini last ((usZ us).drop k) (by have:=(List.take_append_drop k (usZ us)).symm; rw [e1] at this; simpa using this) e2 e3
  rw [hnow]
  exact fil_own (β:=Unit) _ _ _ () W _ (some Dd) hf hg hr
end Go.Proofs.Ytkolacaceaamoaa
/- The sectors: Read, whatever it answers. -/
namespace Go.Proofs.Ytkolacaceaamoaa
open Go.RowKit
end Go.Proofs.Ytkolacaceaamoaa
