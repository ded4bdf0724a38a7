/- PagerActs: again. -/
import Derived.Test.YtddcmockdomonaaPgActB
import Derived.BigRegion
namespace Go.Proofs.Ytddcmockdomonaa
set_option linter.unusedSimpArgs false
set_option linter.unusedVariables false
open Go.RowKit
abbrev TS : TypeId := 49
def stE (q r : Nat) (A : Option Addr) (m c : Nat) : Array Value := #[.int .i64 (q : Int), .int .i64 (r : Int), .slice A m c]
/-- The state of the pages when those of a list, and no others, are in use. -/
def usedSt (n : Nat) (l : PgL) : Cn := (l.map (fun p => (p.1 : Int))).foldl (updN useU) (zeroSt n)
theorem used_room {n : Nat} {l : PgL} (hn : (l.map Prod.fst).Nodup) (h : ∀ p ∈ l, pgB n (p.1 : Int) = true) (h4 : 4 ≤ n) : roomN (usedSt n l) + l.length = n - 2 := by
  have := cnt_fold (fun x => x.toNat == 0) useU 0 (l.map Prod.fst) (zeroSt n) hn (fun x hx => by
    obtain ⟨p, hp, rfl⟩ := List.mem_map.1 hx
    have := h p hp
    unfold pgB at this
    simp at this
    exact ⟨by omega, by unfold zeroSt; rw [List.length_replicate]; omega, zero_at (by omega)⟩)
  rw [← cnt_room, ← cnt_room, zero_room, List.map_map, if_pos (by decide), if_neg (by decide), List.length_map] at this
  unfold usedSt
  exact this
theorem used_take {n : Nat} {l : PgL} {k : Nat} (hk : k < l.length) : usedSt n (l.take (k + 1)) = updN useU (usedSt n (l.take k)) (l[k].1 : Int) := by
  unfold usedSt
  rw [List.take_succ_eq_append_getElem hk, List.map_append, List.foldl_append]
  rfl
theorem Bs.fr {W W' : World} {L : List (Nat × TypeId × Array Value)} {G : Nat → Prop} (h : Bs W L) (hf : Fr G W W') (hG : ∀ p ∈ L, ¬ G p.1) : Bs W' L := fun p hp => hf.blk (h p hp) (hG p hp)
theorem Bs.set3 {W : World} {g : Nat} {t : TypeId} {cs cs' : Array Value} {L : List (Nat × TypeId × Array Value)} (h : Bs W ((g, t, cs) :: L)) (W' : World) (hb : Blk W' g t cs') (hg : W.grownBy W' (some g)) (hn : ∀ p ∈ L, p.1 ≠ g) : Bs W' ((g, t, cs') :: L) := fun p hp => by
  rcases List.mem_cons.1 hp with rfl | hp
  · exact hb
  · exact (h p (List.mem_cons_of_mem _ hp)).grown hg (fun e => hn p hp (by injection e))
theorem pf_new {F : Nat → Prop} {pb sb k : Nat} (h1 : k + 3 ≤ pb) (h2 : k + 3 ≤ sb) : ∀ j, j < k → PF F pb sb j → F j := fun j hj h => by
  rcases h with h | rfl | rfl
  · exact h
  · omega
  · omega
theorem pf_far {F : Nat → Prop} {pb sb k : Nat} {A : Option Addr} (hA : ∀ ad, A = some ad → ad.block < k ∧ ¬ F ad.block) (h1 : k + 3 ≤ pb) (h2 : k + 3 ≤ sb) : ∀ ad, A = some ad → ¬ PF F pb sb ad.block := fun ad e h => by
  obtain ⟨g1, g2⟩ := hA ad e
  rcases h with h | h | h
  · exact g2 h
  · omega
  · omega
theorem sub_two (a b : Nat × TypeId × Array Value) (L : List (Nat × TypeId × Array Value)) (c : Nat × TypeId × Array Value) : ∀ p ∈ [a, b], p ∈ a :: b :: c :: L := fun p hp => by
  simp at hp
  rcases hp with rfl | rfl <;> simp
theorem bs_two {F : Nat → Prop} {pb sb k g : Nat} {t t' : TypeId} {cs cs' : Array Value} (hF : ∀ j, F j → j < k) (h1 : k + 3 ≤ pb) (h2 : k + 3 ≤ sb) (h3 : pb < g) (h4 : sb < g) : ∀ p ∈ [(g, t, cs), (k + 1 + 1, t', cs')], ¬ PF F pb sb p.1 := fun p hp h => by
  simp at hp
  rcases hp with rfl | rfl <;> rcases h with h | h | h <;> simp at h <;> first | omega | (have := hF _ h; omega)
def AgI (w wr : World) (F : Nat → Prop) (pb sb db n : Nat) (S : Int → Cn) (N q r : Nat) (st : Cn) (g : Nat) (A : Option Addr) (m c : Nat) (g' : Nat) : Prop :=
  Pg wr F pb sb db n 0 S [] N (q : Int) (r : Int) 0 st ∧ Fr F w wr ∧ Bs wr [(g, TS, stE q r A m c), (g', TS, #[.int .i64 0, .int .i64 0, .slice none 0 0])]
theorem AgI.use {w wr w' : World} {F : Nat → Prop} {pb sb db n : Nat} {S : Int → Cn} {N q r : Nat} {st st' : Cn} {g : Nat} {A : Option Addr} {m c g' : Nat} {x : Nat} {o : Obj} (h : AgI w wr F pb sb db n S N q r st g A m c g') (hst : st' = updN useU st (x : Int))
    (hp : Pg w' F pb sb db n 0 S [] N (q : Int) (r : Int) 0 ([(x : Int)].foldl (updN useU) st)) (hf : Fr (fun j => j = sb) (wr.alloc o) w') (hsb : w.heap.size + 3 ≤ sb) (hd : ∀ p ∈ [(g, TS, stE q r A m c), (g', TS, #[.int .i64 0, .int .i64 0, .slice none 0 0])], ¬ PF F pb sb p.1) : AgI w w' F pb sb db n S N q r st' g A m c g' := by
  subst hst
  refine ⟨hp, (h.2.1.trans (Fr.of_below (al_below wr o)) (fun _ _ h => h)).trans hf (fun j hj e => by omega), (h.2.2.keep o).fr hf (fun p hp e => hd p hp (.inr (.inr e)))⟩
def AgJ (w wr : World) (F : Nat → Prop) (pb sb db n : Nat) (S : Int → Cn) (N q r : Nat) (st : Cn) (g : Nat) (A : Option Addr) (m c : Nat) (g' : Nat) (cs : Array Value) : Prop :=
  Pg wr F pb sb db n 0 S [] N (q : Int) (r : Int) 0 st ∧ Fr F w wr ∧ Bs wr [(g, TS, stE q r A m c), (g', TS, cs)]
theorem AgJ.below {w wr w' : World} {F : Nat → Prop} {pb sb db n : Nat} {S : Int → Cn} {N q r : Nat} {st : Cn} {g : Nat} {A : Option Addr} {m c g' : Nat} {cs : Array Value} (h : AgJ w wr F pb sb db n S N q r st g A m c g' cs) (hb : Below wr.heap.size wr w') : AgJ w w' F pb sb db n S N q r st g A m c g' cs :=
  ⟨h.1.below hb, h.2.1.trans (Fr.of_below hb) (fun _ _ h => h), h.2.2.later hb⟩
theorem AgJ.store {w wr : World} {F : Nat → Prop} {pb sb db n : Nat} {S : Int → Cn} {N q r : Nat} {st : Cn} {g : Nat} {A : Option Addr} {m c g' : Nat} (h : AgJ w wr F pb sb db n S N q r st g A m c g' #[.int .i64 0, .int .i64 0, .slice none 0 0]) (hg : g ≠ g') (hF : ¬ PF F pb sb g') (hw : w.heap.size ≤ g') :
    AgJ w (((wr.setCell ⟨g', 0, none⟩ (.int .i64 (q : Int))).setCell ⟨g', 1, none⟩ (.int .i64 (r : Int))).setCell ⟨g', 2, none⟩ (.slice A m c)) F pb sb db n S N q r st g A m c g' (stE q r A m c) := by
  have hgr := ((gby_set wr g' 0 (.int .i64 (q : Int))).trans (gby_set _ g' 1 (.int .i64 (r : Int)))).trans (gby_set _ g' 2 (.slice A m c))
  have hb := ((h.2.2 _ (List.mem_of_getElem? (i := 1) rfl)).set_ 0 (.int .i64 (q : Int)) |>.set_ 1 (.int .i64 (r : Int))).set_ 2 (.slice A m c)
  refine ⟨h.1.grown hgr (fun e => hF (.inr (.inl (by injection e)))) (fun e => hF (.inr (.inr (by injection e)))) (fun x e => by injection e with e; subst e; exact fun h => hF (.inl h)), h.2.1.trans (Fr.of_grown (F := fun j => j = g') hgr (fun k e => by injection e with e; exact e.symm)) (fun j hj e => by omega), fun p hp => ?_⟩
  simp only [List.mem_cons, List.not_mem_nil, or_false] at hp
  rcases hp with rfl | rfl
  · exact (h.2.2 _ (List.mem_of_getElem? (i := 0) rfl)).grown hgr (fun e => hg (by injection e))
  · exact hb
theorem wrap_small {x : Int} (h1 : -9223372036854775808 ≤ x) (h2 : x < 9223372036854775808) : IntKind.i64.wrap x = x := by
  simp only [IntKind.wrap, IntKind.bits, IntKind.signed]
  simp
  omega
set_option maxRecDepth 100000 in
set_option maxHeartbeats 2000000 in
theorem again_next {F : Nat → Prop} {db n : Nat} {out : Bool} {left : Int} {S S' : Int → Cn} {L : List (Int × Cn)} {N : Nat} (w : World) (h : Sec w F db out left (n : Int) S L N) (hN : N ≤ 100000) (h4 : 4 ≤ n) (mask : Int) (hm : 0 ≤ mask ∧ mask < 18446744073709551616)
    (hS : lastS (maskT mask) S L = S') (q1 r1 q r : Nat) (A1 : Option Addr) (m1 c1 : Nat) (A : Option Addr) (m c : Nat) (Z : PgL) (hr : RI n S' q r) (hq : q < 4000000000) (hz : PL w w.heap.size A m Z) (hm7 : m ≤ 200) (hA : ∀ ad, A = some ad → ad.block < w.heap.size ∧ ¬ F ad.block)
    (hZ : ∀ p ∈ Z, pgB n (p.1 : Int) = true ∧ p.2.length ≤ 505 ∧ S' (p.1 : Int) = sealC 2 p.2) (hnd : (Z.map Prod.fst).Nodup) :
    Calls Try.prog 21 #[.pointer (some ⟨db, 0, none⟩), .int .u64 mask, .agg (stE q1 r1 A1 m1 c1), .agg (stE q r A m c)] w fun e w' => (∃ pb sb, e = .returned (.tuple #[.pointer (some ⟨pb, 0, none⟩), .agg (stE q r A m c), .bool true]) ∧ w.heap.size ≤ pb ∧ w.heap.size ≤ sb ∧ Pg w' F pb sb db n 0 S' [] N q r 0 (usedSt n Z)) ∧ Fr F w w' := by
  have H := hide h
  have HM := hide hm
  have HS := hide hS
  have HR := hide hr
  have HZ := hide hz
  have HA := hide hA
  have HC := hide hZ
  have HND := hide hnd
  clear h hm hS hr hz hA hZ hnd
  unfold stE
  go_enter Try.func21, Try.ntmps21
  have HB0 := hide (Bs.al (Bs.al (Bs.al (Bs.nil w) (stE q1 r1 A1 m1 c1) TS) (stE q r A m c) TS) #[.int .i64 0, .int .i64 0, .slice none 0 0] TS)
  have HF0 := hide (bal (bal (bal (Below.refl w.heap.size w) (Obj.cells (stE q1 r1 A1 m1 c1) TS)) (Obj.cells (stE q r A m c) TS)) (Obj.cells #[.int .i64 0, .int .i64 0, .slice none 0 0] TS))
  have HFL := hide H.out.lt
  have HOP := hide (RI.opn (S := S') (L := []) HR.out)
  unfold stE at HB0 HF0
  simp only [heap_al] at HB0
  have HZI := hide (fun (p : Nat × Cn) (hp : p ∈ Z) => And.intro (HC.out p hp).1 (And.intro (HC.out p hp).2.1 ((now_nil S' (p.1 : Int)).trans (HC.out p hp).2.2)))
  have HAF := hide (fun (ad : Addr) (e : A = some ad) => (HA.out ad e).2)
  have hnn : ((n - 2 : Nat) : Int) = (n : Int) - 2 := by omega
  have hn64 : n ≤ 65536 := by obtain ⟨_, _, _, _, _, k⟩ := H.out; have := k.hs; omega
  go_wp2_with (first
    | (go_at_call 23; (refine (sec_len HP5.out.sec).mono ?_); rintro e w6 ⟨rfl, hb⟩; have HP6 := hide (HP5.out.below hb); have HF6 := hide (HF5.out.trans (Fr.of_below hb) (fun _ _ h => h)); have HB6 := hide (HB5.out.later hb); (obtain ⟨j15, g15, y15⟩ := (HB6.out.get _ _ _ (List.mem_of_getElem? (i := 0) rfl))); (obtain ⟨j9, g9, y9⟩ := (HB6.out.get _ _ _ (List.mem_of_getElem? (i := 1) rfl))); clear hb k15 f15 z15)
    | (go_at_call 14; (refine (proom HP4.out).mono ?_); rw [zero_room, hnn]; rintro e w5 ⟨rfl, hb⟩; have HP5 := hide (HP4.out.below hb); have HF5 := hide (HF4.out.trans (Fr.of_below hb) (fun _ _ h => h)); have HB5 := hide (HB4.out.later hb); (obtain ⟨k15, f15, z15⟩ := (HB5.out.get _ _ _ (List.mem_of_getElem? (i := 0) rfl))); clear hb)
    | (go_at_call 22; (refine (intact_any _ (HP3.out.below (al_below w3 _)) A m c Z ((Sl.far HZ.out (Nat.le_refl _) (HF3.out.trans (Fr.of_below (al_below w3 _)) (fun _ _ h => h)) HAF.out).more (Nat.le_trans HF3.out.size (al_below w3 _).size)) (by omega) (pf_far HA.out HPB.out HSB.out) HZI.out).mono ?_); rintro e w4 ⟨rfl, hp, hf⟩; have HP4 := hide hp; have HF4 := hide ((HF3.out.trans (Fr.of_below (al_below w3 _)) (fun _ _ h => h)).trans hf (pf_new HPB.out HSB.out)); have HB4 := hide ((Bs.fr (Bs.sub (Bs.al HB3.out (stE q r A m c) TS) (M := [(w3.heap.size, TS, stE q r A m c), (w.heap.size + 1 + 1, TS, #[.int .i64 0, .int .i64 0, .slice none 0 0])]) (sub_two _ _ _ _)) hf (bs_two HFL.out HPB.out HSB.out HP3.out.blk.lt HP3.out.sblk.lt))); clear hp hf)
    | (go_at_call 12; (refine (proot HP2.out).mono ?_); rintro e w3 ⟨rfl, hb⟩; have HP3 := hide (HP2.out.below hb); have HF3 := hide (HF2.out.trans (Fr.of_below hb) (fun _ _ h => h)); have HB3 := hide (HB2.out.later hb); (obtain ⟨k6, f6, z6⟩ := (HB3.out.get _ _ _ (List.mem_of_getElem? (i := 2) rfl))); (obtain ⟨k7, f7, z7⟩ := (HB3.out.get _ _ _ (List.mem_of_getElem? (i := 1) rfl))); clear hb)
    | (go_at_call 8; (refine (popen_pg HS1.out h4 (by rw [HOP.out]; simp; omega)).mono ?_); rw [HOP.out]; rintro e w2 ⟨⟨pb, sb, rfl, hpb, hsb, hp⟩, hb⟩; have HP2 := hide hp; have HPB := hide (Nat.le_trans HSZ1.out hpb); have HSB := hide (Nat.le_trans HSZ1.out hsb); have HF2 := hide (HF1.out.trans (Fr.of_below hb) (fun _ _ h => h)); have HB2 := hide (HB1.out.later hb); clear hp hb hpb hsb)
    | (go_at_call 13; (refine (sec_crash (H.out.below HF0.out) mask HM.out hN).mono ?_); rw [HS.out]; rintro e w1 ⟨rfl, hs, hf⟩; have HS1 := hide hs; have HSZ1 := hide (show w.heap.size + 3 ≤ w1.heap.size by have := hf.size; simp at this; omega); have HF1 := hide ((Fr.of_below HF0.out).trans hf (fun _ _ h => h)); have HB1 := hide (HB0.out.fr hf (fun p hp hF => by have := HFL.out _ hF; simp at hp; rcases hp with rfl | rfl | rfl <;> simp at this <;> omega)); clear hs hf))
  have HI0 := hide (show AgI w w6 F pb sb db n S' N q r (usedSt n (Z.take 0)) w3.heap.size A m c (w.heap.size + 1 + 1) from ⟨HP6.out, HF6.out, HB6.out⟩)
  have HML := hide HZ.out.len
  have HGG := hide (show w3.heap.size ≠ w.heap.size + 1 + 1 by have := HP3.out.blk.lt; have := HPB.out; omega)
  have HBT := hide (bs_two (t := TS) (t' := TS) (cs := stE q r A m c) (cs' := #[.int .i64 0, .int .i64 0, .slice none 0 0]) HFL.out HPB.out HSB.out HP3.out.blk.lt HP3.out.sblk.lt)
  clear HP2 HP3 HP4 HP5 HP6 HF0 HF1 HF2 HF3 HF4 HF5 HF6 HB0 HB1 HB2 HB3 HB4 HB5 HB6 j15 g15 y15 j9 g9 y9 k6 k7 f6 f7 z6 z7
  go_loopw [16] (fun iv wr => ∃ k : Nat, k ≤ m ∧ iv = .int .i64 k ∧ Hid (AgI w wr F pb sb db n S' N q r (usedSt n (Z.take k)) w3.heap.size A m c (w.heap.size + 1 + 1))) (fun iv _ => m - (intOf iv).toNat)
  case atStart => exact ⟨0, by omega, rfl, HI0⟩
  case round =>
    obtain ⟨k, hk, rfl, HI⟩ := hrel
    obtain ⟨k15, f15, z15⟩ := HI.out.2.2.get _ _ _ (List.mem_of_getElem? (i := 0) rfl)
    obtain ⟨k9, f9, z9⟩ := HI.out.2.2.get _ _ _ (List.mem_of_getElem? (i := 1) rfl)
    unfold stE at k15
    by_cases hlt : k < m
    · have HS := hide (Sl.far HZ.out (Nat.le_refl _) HI.out.2.1 HAF.out)
      obtain ⟨b, o, hAe, hb, hjl, c0, -⟩ := PL.at_ HS.out hlt
      have hbw : b < wr.heap.size := Nat.lt_of_lt_of_le hb HI.out.2.1.size
      have HPX := hide (HC.out _ (List.getElem_mem hjl)).1
      have HTK := hide (used_take (n := n) hjl)
      obtain ⟨x, hx⟩ : ∃ x, (Z[k]).1 = x := ⟨_, rfl⟩
      rw [hx] at c0 HPX HTK
      subst hAe
      clear hx hjl hb
      go_wp2_with (go_at_call 16; (refine (puse_ok (HI.out.1.below (al_below wr _)) (some ⟨wr.heap.size, 0, none⟩) 1 1 [(x : Int)] (NB.one wr (x : Int)) (by decide) (far_new HI.out.1.sblk.lt) (by unfold allPg; rw [List.all_cons, HPX.out]; rfl)).mono ?_); rintro e w7 ⟨rfl, hp, hf⟩; have HI7 := hide (HI.out.use HTK.out hp hf HSB.out HBT.out); clear hp hf)
      go_roundw
      case rel => exact ⟨k + 1, by omega, by go_num, HI7⟩
      case measure => simp [intOf]; omega
    · have e : k = m := by omega
      subst e
      go_wp2
      have HRM := hide (show (roomN (usedSt n Z) : Int) = (n : Int) - 2 - (k : Int) by
        have := used_room (n := n) HND.out (fun p hp => (HC.out p hp).1) h4
        have := HML.out
        omega)
      have HKN := hide (show (k : Int) + 2 ≤ (n : Int) by
        have := used_room (n := n) HND.out (fun p hp => (HC.out p hp).1) h4
        have := HML.out
        omega)
      have HTA : Z.take k = Z := List.take_of_length_le (by rw [HML.out]; exact Nat.le_refl _)
      rw [HTA] at HI
      clear k15 f15 z15 k9 f9 z9 HTA
      refine wp_region_stage (by kernel_rfl) (by kernel_rfl) 109 3
        [⟨some 97, false, 0, 3, fun _ v _ => v = .pointer (some ⟨pb, 0, none⟩)⟩,
         ⟨some 98, false, 0, 2, fun _ v _ => v = .agg #[.int .i64 (q : Int), .int .i64 (r : Int), .slice A k c]⟩,
         ⟨some 99, false, 0, 0, fun _ v _ => v = .pointer (some ⟨pb, 0, none⟩)⟩,
         ⟨some 100, true, 0, 0, fun _ v _ => v = .int .i64 ((n : Int) - 2 - (k : Int))⟩,
         ⟨some 101, false, 0, 1, fun _ v _ => v = .pointer (some ⟨db, 0, none⟩)⟩,
         ⟨some 102, true, 1, 1, fun _ v _ => v = .int .i64 (n : Int)⟩,
         ⟨some 103, false, 2, 3, fun _ v _ => v = .int .i64 ((n : Int) - 2)⟩,
         ⟨some 104, false, 0, 3, fun _ v _ => v = .pointer (some ⟨w3.heap.size, 2, none⟩)⟩,
         ⟨some 105, false, 0, 3, fun _ v _ => v = .slice A k c⟩,
         ⟨some 106, false, 0, 3, fun _ v _ => v = .int .i64 (k : Int)⟩,
         ⟨some 107, false, 2, 3, fun _ v _ => v = .int .i64 ((n : Int) - 2 - (k : Int))⟩,
         ⟨some 108, false, 2, 3, fun _ v _ => v = .bool true⟩,
         ⟨some 8, false, 2, 3, fun _ v _ => v = .pointer (some ⟨pb, 0, none⟩)⟩,
         ⟨none, true, 2, 2, fun _ _ _ => True⟩,
         ⟨some 10, false, 2, 3, fun _ v _ => v = .bool true⟩] (fun st w' => AgJ w w' F pb sb db n S' N q r (usedSt n Z) w3.heap.size A k c (w.heap.size + 1 + 1) (if st = 3 then stE q r A k c else #[.int .i64 0, .int .i64 0, .slice none 0 0])) (fun _ _ _ => True) [97, 98, 99, 100, 101, 102, 103, 104, 105, 106, 107, 108, 8, 10] rfl (by kernel_rfl) rfl ?g0 ?keep ?steps ?fin
      case keep =>
        intro e he s v w w' hm hsM ht hv
        simp only [List.mem_cons, List.not_mem_nil, or_false] at he
        rcases he with rfl | rfl | rfl | rfl | rfl | rfl | rfl | rfl | rfl | rfl | rfl | rfl | rfl | rfl | rfl
        all_goals first | exact hv
      case steps =>
        refine ⟨?_, ?_, ?_, ?_, ?_, ?_, ?_, ?_, ?_, ?_, ?_, ?_, ?_, ?_, ?_, trivial⟩
        · intro st hlo hhi ac w3 hg hG hd K hK
          dsimp only at hlo hhi hG hK
          exact op_move _ rfl (hK _ (hg.kp 11 (by simp)))
        · intro st hlo hhi ac w3 hg hG hd K hK
          dsimp only at hlo hhi hG hK
          (obtain ⟨kk, ff, zz⟩ := hG.2.2.get _ _ _ (List.mem_of_getElem? (i := 0) rfl))
          unfold stE at kk
          have k15 := hg.kp 15 (by simp)
          (try simp [Act.eval] at k15)
          go_simp
          exact hK _ rfl
        · intro st hlo hhi ac w3 hg hG hd K hK
          dsimp only at hlo hhi hG hK
          exact op_move _ rfl (hK _ (hg.kp 11 (by simp)))
        · intro ac w3 hg hG hd K hK
          dsimp only [Nat.zero_add, Nat.reduceAdd] at hG hK
          have f2 := hd ⟨2, .data⟩ (by simp) rfl _ rfl _ rfl
          have HG := hide hG
          clear hG
          simp [Act.eval] at f2
          go_simp
          (refine (proom HG.out.1).mono ?_)
          rw [HRM.out]
          rintro e w4 ⟨rfl, hb4⟩
          exact hK _ w4 trivial (HG.out.below hb4) rfl
        · intro st hlo hhi ac w3 hg hG hd K hK
          dsimp only at hlo hhi hG hK
          exact op_move _ rfl (hK _ (hg.kp 0 (by simp)))
        · intro ac w3 hg hG hd K hK
          dsimp only [Nat.zero_add, Nat.reduceAdd] at hG hK
          have f4 := hd ⟨4, .data⟩ (by simp) rfl _ rfl _ rfl
          have HG := hide hG
          clear hG
          simp [Act.eval] at f4
          go_simp
          (refine (sec_len HG.out.1.sec).mono ?_)
          rintro e w4 ⟨rfl, hb4⟩
          exact hK _ w4 trivial (HG.out.below hb4) rfl
        · intro st hlo hhi ac w3 hg hG hd K hK
          dsimp only at hlo hhi hG hK
          have f5 := hd ⟨5, .data⟩ (by simp) rfl _ rfl _ rfl
          simp [Act.eval] at f5
          go_simp
          exact hK _ (by rw [wrap_small (by omega) (by omega)])
        · intro st hlo hhi ac w3 hg hG hd K hK
          dsimp only at hlo hhi hG hK
          have k15 := hg.kp 15 (by simp)
          (try simp [Act.eval] at k15)
          go_simp
          exact hK _ rfl
        · intro st hlo hhi ac w3 hg hG hd K hK
          dsimp only at hlo hhi hG hK
          (obtain ⟨kk, ff, zz⟩ := hG.2.2.get _ _ _ (List.mem_of_getElem? (i := 0) rfl))
          unfold stE at kk
          have f7 := hd ⟨7, .data⟩ (by simp) rfl _ rfl _ rfl
          (try simp [Act.eval] at f7)
          go_simp
          exact hK _ rfl
        · intro st hlo hhi ac w3 hg hG hd K hK
          dsimp only at hlo hhi hG hK
          have f8 := hd ⟨8, .data⟩ (by simp) rfl _ rfl _ rfl
          (try simp [Act.eval] at f8)
          go_simp
          exact hK _ rfl
        · intro st hlo hhi ac w3 hg hG hd K hK
          dsimp only at hlo hhi hG hK
          have f6 := hd ⟨6, .data⟩ (by simp) rfl _ rfl _ rfl
          have f9 := hd ⟨9, .data⟩ (by simp) rfl _ rfl _ rfl
          simp [Act.eval] at f6 f9
          have hkn := HKN.out
          go_simp
          exact hK _ (by rw [wrap_small (by omega) (by omega)])
        · intro st hlo hhi ac w3 hg hG hd K hK
          dsimp only at hlo hhi hG hK
          have f3 := hd ⟨3, .data⟩ (by simp) rfl _ rfl _ rfl
          have f10 := hd ⟨10, .data⟩ (by simp) rfl _ rfl _ rfl
          (try simp [Act.eval] at f3)
          (try simp [Act.eval] at f10)
          go_simp
          exact hK _ rfl
        · intro st hlo hhi ac w3 hg hG hd K hK
          dsimp only at hlo hhi hG hK
          exact op_assign _ rfl (hK _ (hd ⟨0, .data⟩ (by simp) rfl _ rfl _ rfl))
        · intro ac w3 hg hG hd K hK
          dsimp only [Nat.zero_add, Nat.reduceAdd] at hG hK
          have f1 := hd ⟨1, .data⟩ (by simp) rfl _ rfl _ rfl
          have k9 := hg.kp 9 (by simp)
          (obtain ⟨kk, ff, zz⟩ := hG.2.2.get _ _ _ (List.mem_of_getElem? (i := 1) rfl))
          have HG := hide hG
          clear hG
          simp [Act.eval] at f1 k9
          simp only [if_neg (show ¬ (2 : Nat) = 3 by decide)] at kk
          go_simp
          exact hK undef _ trivial (AgJ.store HG.out HGG.out (HBT.out _ (List.mem_of_getElem? (i := 1) rfl)) (by omega)) trivial
        · intro st hlo hhi ac w3 hg hG hd K hK
          dsimp only at hlo hhi hG hK
          exact op_assign _ rfl (hK _ (hd ⟨11, .data⟩ (by simp) rfl _ rfl _ rfl))
      case g0 => exact AgJ.below HI.out ((Below.refl _ _).drew)
      case fin =>
        intro f w5 hG hall
        have h8 : f 8 = .pointer (some ⟨pb, 0, none⟩) := hall _ (List.mem_of_getElem? (i := 12) rfl) 8 rfl
        have h10 : f 10 = .bool true := hall _ (List.mem_of_getElem? (i := 14) rfl) 10 rfl
        clear hall
        simp only [fillF, List.map_cons, List.map_nil, List.foldl_cons, List.foldl_nil, Act.put, List.setIfInBounds_toArray, List.set_cons_zero, List.set_cons_succ]
        rw [h8, h10]
        clear h8 h10
        have HG := hide (show AgJ w w5 F pb sb db n S' N q r (usedSt n Z) w3.heap.size A k c (w.heap.size + 1 + 1) (stE q r A k c) from hG)
        obtain ⟨k9, f9, z9⟩ := HG.out.2.2.get _ _ _ (List.mem_of_getElem? (i := 1) rfl)
        unfold stE at k9
        clear hG
        go_wp2
        refine bodyPost_ret (v := .tuple #[.pointer (some ⟨pb, 0, none⟩), .agg #[.int .i64 (q : Int), .int .i64 (r : Int), .slice A k c], .bool true]) (by simp (maxDischargeDepth := 9) [results, Try.results21, go_sem, k9, f9, z9]) rfl ?_
        exact ⟨⟨pb, sb, rfl, by have := HPB.out; omega, by have := HSB.out; omega, HG.out.1⟩, HG.out.2.1⟩
set_option maxRecDepth 100000 in
set_option maxHeartbeats 2000000 in
theorem again_sure {F : Nat → Prop} {db n : Nat} {out : Bool} {left : Int} {S S' : Int → Cn} {L : List (Int × Cn)} {N : Nat} (w : World) (h : Sec w F db out left (n : Int) S L N) (hN : N ≤ 100000) (h4 : 4 ≤ n) (mask : Int) (hm : 0 ≤ mask ∧ mask < 18446744073709551616)
    (hS : lastS (maskT mask) S L = S') (q1 r1 q r : Nat) (A1 : Option Addr) (m1 c1 : Nat) (A : Option Addr) (m c : Nat) (Z : PgL) (hr : RI n S' q r) (hqq : q ≠ q1) (hq : q < 4000000000) (hz : PL w w.heap.size A m Z) (hm7 : m ≤ 200) (hA : ∀ ad, A = some ad → ad.block < w.heap.size ∧ ¬ F ad.block)
    (hZ : ∀ p ∈ Z, pgB n (p.1 : Int) = true ∧ p.2.length ≤ 505 ∧ S' (p.1 : Int) = sealC 2 p.2) (hnd : (Z.map Prod.fst).Nodup) :
    Calls Try.prog 21 #[.pointer (some ⟨db, 0, none⟩), .int .u64 mask, .agg (stE q r A m c), .agg (stE q1 r1 A1 m1 c1)] w fun e w' => (∃ pb sb, e = .returned (.tuple #[.pointer (some ⟨pb, 0, none⟩), .agg (stE q r A m c), .bool true]) ∧ w.heap.size ≤ pb ∧ w.heap.size ≤ sb ∧ Pg w' F pb sb db n 0 S' [] N q r 0 (usedSt n Z)) ∧ Fr F w w' := by
  have dq : ((q : Int) == (q1 : Int)) = false := by simp; omega
  have H := hide h
  have HM := hide hm
  have HS := hide hS
  have HR := hide hr
  have HZ := hide hz
  have HA := hide hA
  have HC := hide hZ
  have HND := hide hnd
  clear h hm hS hr hz hA hZ hnd
  unfold stE
  go_enter Try.func21, Try.ntmps21
  have HB0 := hide (Bs.al (Bs.al (Bs.al (Bs.nil w) (stE q r A m c) TS) (stE q1 r1 A1 m1 c1) TS) #[.int .i64 0, .int .i64 0, .slice none 0 0] TS)
  have HF0 := hide (bal (bal (bal (Below.refl w.heap.size w) (Obj.cells (stE q r A m c) TS)) (Obj.cells (stE q1 r1 A1 m1 c1) TS)) (Obj.cells #[.int .i64 0, .int .i64 0, .slice none 0 0] TS))
  have HFL := hide H.out.lt
  have HOP := hide (RI.opn (S := S') (L := []) HR.out)
  unfold stE at HB0 HF0
  simp only [heap_al] at HB0
  have HZI := hide (fun (p : Nat × Cn) (hp : p ∈ Z) => And.intro (HC.out p hp).1 (And.intro (HC.out p hp).2.1 ((now_nil S' (p.1 : Int)).trans (HC.out p hp).2.2)))
  have HAF := hide (fun (ad : Addr) (e : A = some ad) => (HA.out ad e).2)
  have hnn : ((n - 2 : Nat) : Int) = (n : Int) - 2 := by omega
  have hn64 : n ≤ 65536 := by obtain ⟨_, _, _, _, _, k⟩ := H.out; have := k.hs; omega
  go_wp2_with (first
    | (go_at_call 23; (refine (sec_len HP5.out.sec).mono ?_); rintro e w6 ⟨rfl, hb⟩; have HP6 := hide (HP5.out.below hb); have HF6 := hide (HF5.out.trans (Fr.of_below hb) (fun _ _ h => h)); have HB6 := hide (HB5.out.later hb); (obtain ⟨j15, g15, y15⟩ := (HB6.out.get _ _ _ (List.mem_of_getElem? (i := 0) rfl))); (obtain ⟨j9, g9, y9⟩ := (HB6.out.get _ _ _ (List.mem_of_getElem? (i := 1) rfl))); clear hb k15 f15 z15)
    | (go_at_call 14; (refine (proom HP4.out).mono ?_); rw [zero_room, hnn]; rintro e w5 ⟨rfl, hb⟩; have HP5 := hide (HP4.out.below hb); have HF5 := hide (HF4.out.trans (Fr.of_below hb) (fun _ _ h => h)); have HB5 := hide (HB4.out.later hb); (obtain ⟨k15, f15, z15⟩ := (HB5.out.get _ _ _ (List.mem_of_getElem? (i := 0) rfl))); clear hb)
    | (go_at_call 22; (refine (intact_any _ (HP3.out.below (al_below w3 _)) A m c Z ((Sl.far HZ.out (Nat.le_refl _) (HF3.out.trans (Fr.of_below (al_below w3 _)) (fun _ _ h => h)) HAF.out).more (Nat.le_trans HF3.out.size (al_below w3 _).size)) (by omega) (pf_far HA.out HPB.out HSB.out) HZI.out).mono ?_); rintro e w4 ⟨rfl, hp, hf⟩; have HP4 := hide hp; have HF4 := hide ((HF3.out.trans (Fr.of_below (al_below w3 _)) (fun _ _ h => h)).trans hf (pf_new HPB.out HSB.out)); have HB4 := hide ((Bs.fr (Bs.sub (Bs.al HB3.out (stE q r A m c) TS) (M := [(w3.heap.size, TS, stE q r A m c), (w.heap.size + 1 + 1, TS, #[.int .i64 0, .int .i64 0, .slice none 0 0])]) (sub_two _ _ _ _)) hf (bs_two HFL.out HPB.out HSB.out HP3.out.blk.lt HP3.out.sblk.lt))); clear hp hf)
    | (go_at_call 12; (refine (proot HP2.out).mono ?_); rintro e w3 ⟨rfl, hb⟩; have HP3 := hide (HP2.out.below hb); have HF3 := hide (HF2.out.trans (Fr.of_below hb) (fun _ _ h => h)); have HB3 := hide (HB2.out.later hb); (obtain ⟨k6, f6, z6⟩ := (HB3.out.get _ _ _ (List.mem_of_getElem? (i := 2) rfl))); (obtain ⟨k7, f7, z7⟩ := (HB3.out.get _ _ _ (List.mem_of_getElem? (i := 1) rfl))); clear hb)
    | (go_at_call 8; (refine (popen_pg HS1.out h4 (by rw [HOP.out]; simp; omega)).mono ?_); rw [HOP.out]; rintro e w2 ⟨⟨pb, sb, rfl, hpb, hsb, hp⟩, hb⟩; have HP2 := hide hp; have HPB := hide (Nat.le_trans HSZ1.out hpb); have HSB := hide (Nat.le_trans HSZ1.out hsb); have HF2 := hide (HF1.out.trans (Fr.of_below hb) (fun _ _ h => h)); have HB2 := hide (HB1.out.later hb); clear hp hb hpb hsb)
    | (go_at_call 13; (refine (sec_crash (H.out.below HF0.out) mask HM.out hN).mono ?_); rw [HS.out]; rintro e w1 ⟨rfl, hs, hf⟩; have HS1 := hide hs; have HSZ1 := hide (show w.heap.size + 3 ≤ w1.heap.size by have := hf.size; simp at this; omega); have HF1 := hide ((Fr.of_below HF0.out).trans hf (fun _ _ h => h)); have HB1 := hide (HB0.out.fr hf (fun p hp hF => by have := HFL.out _ hF; simp at hp; rcases hp with rfl | rfl | rfl <;> simp at this <;> omega)); clear hs hf))
  have HI0 := hide (show AgI w w6 F pb sb db n S' N q r (usedSt n (Z.take 0)) w3.heap.size A m c (w.heap.size + 1 + 1) from ⟨HP6.out, HF6.out, HB6.out⟩)
  have HML := hide HZ.out.len
  have HGG := hide (show w3.heap.size ≠ w.heap.size + 1 + 1 by have := HP3.out.blk.lt; have := HPB.out; omega)
  have HBT := hide (bs_two (t := TS) (t' := TS) (cs := stE q r A m c) (cs' := #[.int .i64 0, .int .i64 0, .slice none 0 0]) HFL.out HPB.out HSB.out HP3.out.blk.lt HP3.out.sblk.lt)
  clear HP2 HP3 HP4 HP5 HP6 HF0 HF1 HF2 HF3 HF4 HF5 HF6 HB0 HB1 HB2 HB3 HB4 HB5 HB6 j15 g15 y15 j9 g9 y9 k6 k7 f6 f7 z6 z7
  go_loopw [16] (fun iv wr => ∃ k : Nat, k ≤ m ∧ iv = .int .i64 k ∧ Hid (AgI w wr F pb sb db n S' N q r (usedSt n (Z.take k)) w3.heap.size A m c (w.heap.size + 1 + 1))) (fun iv _ => m - (intOf iv).toNat)
  case atStart => exact ⟨0, by omega, rfl, HI0⟩
  case round =>
    obtain ⟨k, hk, rfl, HI⟩ := hrel
    obtain ⟨k15, f15, z15⟩ := HI.out.2.2.get _ _ _ (List.mem_of_getElem? (i := 0) rfl)
    obtain ⟨k9, f9, z9⟩ := HI.out.2.2.get _ _ _ (List.mem_of_getElem? (i := 1) rfl)
    unfold stE at k15
    by_cases hlt : k < m
    · have HS := hide (Sl.far HZ.out (Nat.le_refl _) HI.out.2.1 HAF.out)
      obtain ⟨b, o, hAe, hb, hjl, c0, -⟩ := PL.at_ HS.out hlt
      have hbw : b < wr.heap.size := Nat.lt_of_lt_of_le hb HI.out.2.1.size
      have HPX := hide (HC.out _ (List.getElem_mem hjl)).1
      have HTK := hide (used_take (n := n) hjl)
      obtain ⟨x, hx⟩ : ∃ x, (Z[k]).1 = x := ⟨_, rfl⟩
      rw [hx] at c0 HPX HTK
      subst hAe
      clear hx hjl hb
      go_wp2_with (go_at_call 16; (refine (puse_ok (HI.out.1.below (al_below wr _)) (some ⟨wr.heap.size, 0, none⟩) 1 1 [(x : Int)] (NB.one wr (x : Int)) (by decide) (far_new HI.out.1.sblk.lt) (by unfold allPg; rw [List.all_cons, HPX.out]; rfl)).mono ?_); rintro e w7 ⟨rfl, hp, hf⟩; have HI7 := hide (HI.out.use HTK.out hp hf HSB.out HBT.out); clear hp hf)
      go_roundw
      case rel => exact ⟨k + 1, by omega, by go_num, HI7⟩
      case measure => simp [intOf]; omega
    · have e : k = m := by omega
      subst e
      go_wp2
      have HRM := hide (show (roomN (usedSt n Z) : Int) = (n : Int) - 2 - (k : Int) by
        have := used_room (n := n) HND.out (fun p hp => (HC.out p hp).1) h4
        have := HML.out
        omega)
      have HKN := hide (show (k : Int) + 2 ≤ (n : Int) by
        have := used_room (n := n) HND.out (fun p hp => (HC.out p hp).1) h4
        have := HML.out
        omega)
      have HTA : Z.take k = Z := List.take_of_length_le (by rw [HML.out]; exact Nat.le_refl _)
      rw [HTA] at HI
      clear k15 f15 z15 k9 f9 z9 HTA
      refine wp_region_stage (by kernel_rfl) (by kernel_rfl) 109 3
        [⟨some 97, false, 0, 3, fun _ v _ => v = .pointer (some ⟨pb, 0, none⟩)⟩,
         ⟨some 98, false, 0, 2, fun _ v _ => v = .agg #[.int .i64 (q : Int), .int .i64 (r : Int), .slice A k c]⟩,
         ⟨some 99, false, 0, 0, fun _ v _ => v = .pointer (some ⟨pb, 0, none⟩)⟩,
         ⟨some 100, true, 0, 0, fun _ v _ => v = .int .i64 ((n : Int) - 2 - (k : Int))⟩,
         ⟨some 101, false, 0, 1, fun _ v _ => v = .pointer (some ⟨db, 0, none⟩)⟩,
         ⟨some 102, true, 1, 1, fun _ v _ => v = .int .i64 (n : Int)⟩,
         ⟨some 103, false, 2, 3, fun _ v _ => v = .int .i64 ((n : Int) - 2)⟩,
         ⟨some 104, false, 0, 3, fun _ v _ => v = .pointer (some ⟨w3.heap.size, 2, none⟩)⟩,
         ⟨some 105, false, 0, 3, fun _ v _ => v = .slice A k c⟩,
         ⟨some 106, false, 0, 3, fun _ v _ => v = .int .i64 (k : Int)⟩,
         ⟨some 107, false, 2, 3, fun _ v _ => v = .int .i64 ((n : Int) - 2 - (k : Int))⟩,
         ⟨some 108, false, 2, 3, fun _ v _ => v = .bool true⟩,
         ⟨some 8, false, 2, 3, fun _ v _ => v = .pointer (some ⟨pb, 0, none⟩)⟩,
         ⟨none, true, 2, 2, fun _ _ _ => True⟩,
         ⟨some 10, false, 2, 3, fun _ v _ => v = .bool true⟩] (fun st w' => AgJ w w' F pb sb db n S' N q r (usedSt n Z) w3.heap.size A k c (w.heap.size + 1 + 1) (if st = 3 then stE q r A k c else #[.int .i64 0, .int .i64 0, .slice none 0 0])) (fun _ _ _ => True) [97, 98, 99, 100, 101, 102, 103, 104, 105, 106, 107, 108, 8, 10] rfl (by kernel_rfl) rfl ?g0 ?keep ?steps ?fin
      case keep =>
        intro e he s v w w' hm hsM ht hv
        simp only [List.mem_cons, List.not_mem_nil, or_false] at he
        rcases he with rfl | rfl | rfl | rfl | rfl | rfl | rfl | rfl | rfl | rfl | rfl | rfl | rfl | rfl | rfl
        all_goals first | exact hv
      case steps =>
        refine ⟨?_, ?_, ?_, ?_, ?_, ?_, ?_, ?_, ?_, ?_, ?_, ?_, ?_, ?_, ?_, trivial⟩
        · intro st hlo hhi ac w3 hg hG hd K hK
          dsimp only at hlo hhi hG hK
          exact op_move _ rfl (hK _ (hg.kp 11 (by simp)))
        · intro st hlo hhi ac w3 hg hG hd K hK
          dsimp only at hlo hhi hG hK
          (obtain ⟨kk, ff, zz⟩ := hG.2.2.get _ _ _ (List.mem_of_getElem? (i := 0) rfl))
          unfold stE at kk
          have k15 := hg.kp 15 (by simp)
          (try simp [Act.eval] at k15)
          go_simp
          exact hK _ rfl
        · intro st hlo hhi ac w3 hg hG hd K hK
          dsimp only at hlo hhi hG hK
          exact op_move _ rfl (hK _ (hg.kp 11 (by simp)))
        · intro ac w3 hg hG hd K hK
          dsimp only [Nat.zero_add, Nat.reduceAdd] at hG hK
          have f2 := hd ⟨2, .data⟩ (by simp) rfl _ rfl _ rfl
          have HG := hide hG
          clear hG
          simp [Act.eval] at f2
          go_simp
          (refine (proom HG.out.1).mono ?_)
          rw [HRM.out]
          rintro e w4 ⟨rfl, hb4⟩
          exact hK _ w4 trivial (HG.out.below hb4) rfl
        · intro st hlo hhi ac w3 hg hG hd K hK
          dsimp only at hlo hhi hG hK
          exact op_move _ rfl (hK _ (hg.kp 0 (by simp)))
        · intro ac w3 hg hG hd K hK
          dsimp only [Nat.zero_add, Nat.reduceAdd] at hG hK
          have f4 := hd ⟨4, .data⟩ (by simp) rfl _ rfl _ rfl
          have HG := hide hG
          clear hG
          simp [Act.eval] at f4
          go_simp
          (refine (sec_len HG.out.1.sec).mono ?_)
          rintro e w4 ⟨rfl, hb4⟩
          exact hK _ w4 trivial (HG.out.below hb4) rfl
        · intro st hlo hhi ac w3 hg hG hd K hK
          dsimp only at hlo hhi hG hK
          have f5 := hd ⟨5, .data⟩ (by simp) rfl _ rfl _ rfl
          simp [Act.eval] at f5
          go_simp
          exact hK _ (by rw [wrap_small (by omega) (by omega)])
        · intro st hlo hhi ac w3 hg hG hd K hK
          dsimp only at hlo hhi hG hK
          have k15 := hg.kp 15 (by simp)
          (try simp [Act.eval] at k15)
          go_simp
          exact hK _ rfl
        · intro st hlo hhi ac w3 hg hG hd K hK
          dsimp only at hlo hhi hG hK
          (obtain ⟨kk, ff, zz⟩ := hG.2.2.get _ _ _ (List.mem_of_getElem? (i := 0) rfl))
          unfold stE at kk
          have f7 := hd ⟨7, .data⟩ (by simp) rfl _ rfl _ rfl
          (try simp [Act.eval] at f7)
          go_simp
          exact hK _ rfl
        · intro st hlo hhi ac w3 hg hG hd K hK
          dsimp only at hlo hhi hG hK
          have f8 := hd ⟨8, .data⟩ (by simp) rfl _ rfl _ rfl
          (try simp [Act.eval] at f8)
          go_simp
          exact hK _ rfl
        · intro st hlo hhi ac w3 hg hG hd K hK
          dsimp only at hlo hhi hG hK
          have f6 := hd ⟨6, .data⟩ (by simp) rfl _ rfl _ rfl
          have f9 := hd ⟨9, .data⟩ (by simp) rfl _ rfl _ rfl
          simp [Act.eval] at f6 f9
          have hkn := HKN.out
          go_simp
          exact hK _ (by rw [wrap_small (by omega) (by omega)])
        · intro st hlo hhi ac w3 hg hG hd K hK
          dsimp only at hlo hhi hG hK
          have f3 := hd ⟨3, .data⟩ (by simp) rfl _ rfl _ rfl
          have f10 := hd ⟨10, .data⟩ (by simp) rfl _ rfl _ rfl
          (try simp [Act.eval] at f3)
          (try simp [Act.eval] at f10)
          go_simp
          exact hK _ rfl
        · intro st hlo hhi ac w3 hg hG hd K hK
          dsimp only at hlo hhi hG hK
          exact op_assign _ rfl (hK _ (hd ⟨0, .data⟩ (by simp) rfl _ rfl _ rfl))
        · intro ac w3 hg hG hd K hK
          dsimp only [Nat.zero_add, Nat.reduceAdd] at hG hK
          have f1 := hd ⟨1, .data⟩ (by simp) rfl _ rfl _ rfl
          have k9 := hg.kp 9 (by simp)
          (obtain ⟨kk, ff, zz⟩ := hG.2.2.get _ _ _ (List.mem_of_getElem? (i := 1) rfl))
          have HG := hide hG
          clear hG
          simp [Act.eval] at f1 k9
          simp only [if_neg (show ¬ (2 : Nat) = 3 by decide)] at kk
          go_simp
          exact hK undef _ trivial (AgJ.store HG.out HGG.out (HBT.out _ (List.mem_of_getElem? (i := 1) rfl)) (by omega)) trivial
        · intro st hlo hhi ac w3 hg hG hd K hK
          dsimp only at hlo hhi hG hK
          exact op_assign _ rfl (hK _ (hd ⟨11, .data⟩ (by simp) rfl _ rfl _ rfl))
      case g0 => exact AgJ.below HI.out ((Below.refl _ _).drew)
      case fin =>
        intro f w5 hG hall
        have h8 : f 8 = .pointer (some ⟨pb, 0, none⟩) := hall _ (List.mem_of_getElem? (i := 12) rfl) 8 rfl
        have h10 : f 10 = .bool true := hall _ (List.mem_of_getElem? (i := 14) rfl) 10 rfl
        clear hall
        simp only [fillF, List.map_cons, List.map_nil, List.foldl_cons, List.foldl_nil, Act.put, List.setIfInBounds_toArray, List.set_cons_zero, List.set_cons_succ]
        rw [h8, h10]
        clear h8 h10
        have HG := hide (show AgJ w w5 F pb sb db n S' N q r (usedSt n Z) w3.heap.size A k c (w.heap.size + 1 + 1) (stE q r A k c) from hG)
        obtain ⟨k9, f9, z9⟩ := HG.out.2.2.get _ _ _ (List.mem_of_getElem? (i := 1) rfl)
        unfold stE at k9
        clear hG
        go_wp2
        refine bodyPost_ret (v := .tuple #[.pointer (some ⟨pb, 0, none⟩), .agg #[.int .i64 (q : Int), .int .i64 (r : Int), .slice A k c], .bool true]) (by simp (maxDischargeDepth := 9) [results, Try.results21, go_sem, k9, f9, z9]) rfl ?_
        exact ⟨⟨pb, sb, rfl, by have := HPB.out; omega, by have := HSB.out; omega, HG.out.1⟩, HG.out.2.1⟩
end Go.Proofs.Ytddcmockdomonaa
