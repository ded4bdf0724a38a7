/- The law SectorApart returns true. -/
import Derived.Test.YthlgkhnkcjihiaaSecZ
import Derived.Test.YthlgkhnkcjihiaaSecActs
namespace Go.Proofs.Ythlgkhnkcjihiaa
set_option linter.unusedSimpArgs false
set_option linter.unusedVariables false
open Go.RowKit
/-- A pair of disks, and a copy of the first that goes its own way. -/
def ApI (w : World) (b bw bx : Nat) (F G : Nat → Prop) (r : RS) (N : Nat) (wr : World) : Prop :=
  Two wr b bw F G 6 r.ss r 200 ∧ (∃ Fx sx, Sec' wr Fx bx 6 sx N ∧ (∀ j, Fx j → w.heap.size ≤ j ∧ ¬ F j ∧ ¬ G j)) ∧ Below w.heap.size w wr
theorem Ref.more' {w : World} {F : Nat → Prop} {b : Nat} {size : Int} {LG : List (Int × Int)} {sure : Nat} {left : Int} {out : Bool} {N N' : Nat} (h : Ref w F b size LG sure left out N) (h1 : N ≤ N') (h2 : N' ≤ 200000) : Ref w F b size LG sure left out N' := h.more h1 h2
theorem ApI.start {w w2 w3 : World} {b bw bx : Nat} {F G : Nat → Prop} {r : RS} (h : Two w2 b bw F G 6 r.ss r 200) (hb : Below w.heap.size w w2)
    (hs : Sec w3 (fun j => w2.heap.size ≤ j ∧ j < w3.heap.size) bx r.ss.out r.ss.left 6 r.ss.S r.ss.L 200) (hb3 : Below w2.heap.size w2 w3) : ApI w b bw bx F G r 200 w3 :=
  ⟨h.below hb3, ⟨_, r.ss, hs, fun j hj => ⟨Nat.le_trans hb.size hj.1, fun hf => by have := h.sec.lt j hf; omega, fun hg => by have := h.ref.lt j hg; omega⟩⟩, hb.trans (hb3.mono hb.size)⟩
theorem ApI.two {w wr : World} {b bw bx N : Nat} {F G : Nat → Prop} {r : RS} (h : ApI w b bw bx F G r N wr) (hN : N ≤ 99000) :
    ∃ Fx sx, Two (wr.alloc (Obj.cells (rk 6 (.slice none 0 0) 0 0 false) TR)) bx wr.heap.size Fx (fun j => j = wr.heap.size) 6 sx ⟨[], 0, 0, false⟩ N ∧ (∀ j, Fx j → w.heap.size ≤ j ∧ ¬ F j ∧ ¬ G j) := by
  obtain ⟨h1, ⟨Fx, sx, h2, h3⟩, h4⟩ := h
  exact ⟨Fx, sx, ⟨h2.below ((Below.refl _ _).alloc (Nat.le_refl _) _), (ref_empty wr 6).more (Nat.zero_le _) (by omega), fun j hj h' => by have := h2.lt j hj; omega⟩, h3⟩
theorem ApI.step {w wr w2 : World} {b bw bx N : Nat} {F G Fx F2 G2 : Nat → Prop} {r r2 : RS} {s2 : SS} (h : ApI w b bw bx F G r N wr) (hx : ∀ j, Fx j → w.heap.size ≤ j ∧ ¬ F j ∧ ¬ G j)
    (ht : Two w2 bx wr.heap.size F2 G2 6 s2 r2 (N + 2)) (hF2 : ∀ j, F2 j → Fx j ∨ (wr.alloc (Obj.cells (rk 6 (.slice none 0 0) 0 0 false) TR)).heap.size ≤ j)
    (hf : Fr (FG Fx (fun j => j = wr.heap.size)) (wr.alloc (Obj.cells (rk 6 (.slice none 0 0) 0 0 false) TR)) w2) : ApI w b bw bx F G r (N + 2) w2 := by
  obtain ⟨h1, _, h4⟩ := h
  have hal : Below wr.heap.size wr (wr.alloc (Obj.cells (rk 6 (.slice none 0 0) 0 0 false) TR)) := (Below.refl _ _).alloc (Nat.le_refl _) _
  have h1a := h1.below hal
  have hsz := h4.size
  refine ⟨⟨h1a.sec.apart hf (fun j hj hg => ?_), h1a.ref.apart hf (fun j hj hg => ?_), h1.ap⟩, ⟨F2, s2, ht.sec, fun j hj => ?_⟩, ?_⟩
  · rcases hg with hg | hg
    · exact (hx j hg).2.1 hj
    · have := h1.sec.lt j hj; omega
  · rcases hg with hg | hg
    · exact (hx j hg).2.2 hj
    · have := h1.ref.lt j hj; omega
  · rcases hF2 j hj with h | h
    · exact hx j h
    · simp at h
      exact ⟨by omega, fun hf => by have := h1.sec.lt j hf; omega, fun hg => by have := h1.ref.lt j hg; omega⟩
  · refine (h4.trans (hal.mono hsz)).trans (hf.below (by simp; omega) (fun j hj => ?_))
    rcases hj with hj | hj
    · exact (hx j hj).1
    · omega
theorem wr_ok {out : Bool} {left size at_ : Int} (h : wrE out left size at_ 512 = 0) (c : Int) (L : List (Int × Int)) : wrOut out left size at_ 512 = false ∧ wrL out left size at_ c 512 L = L ++ [(at_, c)] := by
  unfold wrE at h
  unfold wrOut wrL wrDo
  by_cases hf : faultE out size at_ = 0
  · rw [if_pos hf, if_pos rfl] at h
    cases hb : burnO out left
    · simp [hf]
    · rw [hb] at h; simp at h
  · rw [if_neg hf] at h
    exact absurd h hf
theorem sec_poke {w : World} {F : Nat → Prop} {b : Nat} {out : Bool} {left size : Int} {S : Int → Int} {L : List (Int × Int)} {N : Nat} (h : Sec w F b out left size S L N) {g : Nat} (hg : ¬ F g) (i : Nat) (v : Value) : Sec (w.setCell ⟨g, i, none⟩ v) F b out left size S L N :=
  h.apart (Fr.of_grown (F := fun j => j = g) (gby_set w g i v) (fun k hk => by injection hk with hk; exact hk.symm)) (fun j hj e => hg (e ▸ hj))
/-- A slice of bytes is written over. -/
def ByI (w : World) (g : Nat) (wr : World) : Prop := ∃ cs, Blk wr g T8 cs ∧ (∀ k, k < 512 → ∃ x : Int, cs[k]? = some (.int .u8 x)) ∧ Fr (fun j => j = g) w wr
theorem ByI.fr {w wr : World} {g : Nat} (h : ByI w g wr) : Fr (fun j => j = g) w wr := by
  obtain ⟨cs, _, _, h⟩ := h
  exact h
theorem ByI.set_ {w wr : World} {g : Nat} (h : ByI w g wr) (q : Nat) (x : Int) : ByI w g (wr.setCell ⟨g, q, none⟩ (.int .u8 x)) := by
  obtain ⟨cs, hk, hcs, hfr⟩ := h
  refine ⟨_, hk.set_ q _, fun k hk => ?_, hfr.trans (Fr.of_grown (F := fun j => j = g) (gby_set wr g q _) (fun k hk => by injection hk with hk; exact hk.symm)) (fun _ _ h => h)⟩
  obtain ⟨y, hy⟩ := hcs k hk
  rw [Array.getElem?_setIfInBounds]
  split
  · split
    · exact ⟨x, rfl⟩
    · rename_i h1 h2; subst h1; rw [Array.getElem?_eq_none (by omega)] at hy; cases hy
  · exact ⟨y, hy⟩
theorem now_last (S : Int → Int) (L : List (Int × Int)) (a c : Int) : nowC S (L ++ [(a, c)]) a = c := by
  rw [now_append, now_one]; unfold upd; simp
set_option maxRecDepth 100000 in
set_option maxHeartbeats 2000000 in
theorem apart_any (acts : List ActV) (A : Option Addr) (n c : Nat) (more : List ActV) (A2 : Option Addr) (n2 c2 : Nat) (ch : Int) (w : World) (hr : AR w w.heap.size A n acts) (ho : okActs acts) (hn : n ≤ 140737488351232)
    (hr2 : AR w w.heap.size A2 n2 more) (ho2 : okActs more) (hn2 : n2 ≤ 140737488351232) (hch : 0 ≤ ch ∧ ch < 256) :
    Calls Try.prog 7 #[.slice A n c, .slice A2 n2 c2, .int .u8 ch] w fun e w' => e = .returned (.bool true) ∧ Below w.heap.size w w' := by
  have HR := hide hr
  have HO := hide ho
  have HR2 := hide hr2
  have HO2 := hide ho2
  have HCH := hide hch
  clear hr ho hr2 ho2
  go_enter Try.func7, Try.ntmps7
  go_wp2_with (first | (go_at_call 8; (refine (grown_any acts A n c w HR.out HO.out hn).mono ?_); rintro e w1 ⟨b, bw, rfl, F, G, r, h1, hF, hG, hb1⟩; have H1 := hide h1; have HF := hide hF; have HG := hide hG; have HB1 := hide hb1; clear h1 hF hG hb1) | (go_at_call 9; (refine (answers_any w1).mono ?_); rintro e w2 ⟨rfl, hb2⟩; have H2 := hide (H1.out.below hb2); have HB2 := hide (HB1.out.trans (hb2.mono HB1.out.size)); clear hb2) | (go_at_call 22; (refine (sec_copy H2.out.sec).mono ?_); rintro e w3 ⟨bx, rfl, h3, hb3⟩; have HA3 := hide (ApI.start H2.out HB2.out h3 hb3); clear h3 hb3))
  go_loopw [10] (fun i wr => ∃ j : Nat, j ≤ n2 ∧ j ≤ 50 ∧ i = .int .i64 j ∧ Hid (ApI w b bw bx F G r (200 + 2 * j) wr)) (fun i _ => n2 - (intOf i).toNat)
  case atStart => exact ⟨0, by omega, by omega, rfl, HA3⟩
  case round =>
    obtain ⟨j, hj, hj6, rfl, HI⟩ := hrel
    by_cases hlt : j < n2 ∧ j < 50
    · obtain ⟨hlt, hlt6⟩ := hlt
      have hb := HI.out.2.2
      obtain ⟨bg, o, rfl, hbg, hc⟩ := Sl.at (HR2.out.below hb) (fun _ => rfl) (by omega) (by omega : 0 < n2)
      have hll := HR2.out.len
      obtain ⟨a, ha⟩ : ∃ a, more[j] = a := ⟨_, rfl⟩
      have hok := HO2.out j (by omega)
      have c0 := hc j (by omega) 0 _ rfl
      have c1 := hc j (by omega) 1 _ rfl
      have c2 := hc j (by omega) 2 _ rfl
      have c3 := hc j (by omega) 3 _ rfl
      have c4 := hc j (by omega) 4 _ rfl
      rw [ha] at c0 c1 c2 c3 c4 hok
      simp only [Nat.add_zero] at c0
      have z0 : bg < wr.heap.size := Nat.lt_of_lt_of_le hbg hb.size
      have HOK := hide hok
      have i60 : (j : Int) < 50 := by omega
      obtain ⟨Fx, sx, ht, hx⟩ := HI.out.two (by omega)
      have HT := hide ht
      have HX := hide hx
      clear hb hc hok ha hll ht hx
      go_wp2_with (go_at_call 20; (refine (act_any HT.out (by omega) a HOK.out).mono ?_); rintro e w6 ⟨⟨β, rfl, -⟩, ⟨F6, G6, h6, hF6, hG6⟩, hf6⟩; have HA6 := hide (ApI.step HI.out HX.out h6 hF6 hf6); clear h6 hF6 hG6 hf6)
      go_roundw
      case rel => exact ⟨j + 1, by omega, by omega, by go_num, HA6⟩
      case measure => simp [intOf]; omega
    · have HT := hide HI.out.1
      have HB := hide HI.out.2.2
      obtain ⟨E, hE⟩ : ∃ E, wrE r.out r.left 6 3 512 = E := ⟨_, rfl⟩
      have HE := hide hE
      clear HI hE
      by_cases hlt2 : j < n2
      · have i60 : ¬ (j : Int) < 50 := by omega
        cases dE : (E == 0)
        · go_upto_region 24 with (first | (go_at_call 23; (refine (alike_any HT.out).mono ?_); rintro e w7 ⟨rfl, hb7⟩; have H7 := hide (HT.out.below hb7); have HB7 := hide (HB.out.trans (hb7.mono HB.out.size)); clear hb7) | (go_at_call 17; (refine (data_any ch false w7 HCH.out).mono ?_); rintro e w8 ⟨rfl, h8, hb8⟩; rw [show dataN ch false = 512 from rfl] at h8 ⊢; have HK8 := hide h8; have HF8 := hide (fil_data h8 HCH.out); have H8 := hide (H7.out.below hb8); have HB8 := hide (HB7.out.trans (hb8.mono HB7.out.size)); clear h8 hb8) | (go_at_call 16; (refine (sec_write H8.out.sec 3 ch w7.heap.size 512 512 _ (fun _ => HF8.out) (by omega)).mono ?_); rintro e w9 ⟨rfl, -, hf9⟩; rw [show wrE r.ss.out r.ss.left 6 3 512 = E from HE.out]; have HB9 := hide (HB8.out.trans (hf9.below HB8.out.size HF.out)); clear hf9))
          go_wp2_with (first | (go_at_call 12; (refine (nil_read 0 _).mono ?_); rintro e v1 ⟨rfl, hv⟩; have HV1 := hide (HB9.out.trans (hv.mono HB9.out.size)); clear hv) | (go_at_call 16; (refine (nil_write 0 _).mono ?_); rintro e v2 ⟨rfl, hv⟩; have HV2 := hide (HV1.out.trans (hv.mono HV1.out.size)); clear hv) | (go_at_call 18; (refine (nil_barrier _).mono ?_); rintro e v3 ⟨rfl, hv⟩; have HV3 := hide (HV2.out.trans (hv.mono HV2.out.size)); clear hv) | (go_at_call 15; (refine (nil_limit 1 _).mono ?_); rintro e v4 ⟨rfl, hv⟩; have HV4 := hide (HV3.out.trans (hv.mono HV3.out.size)); clear hv) | (go_at_call 10; (refine (nil_crash 0 _).mono ?_); rintro e v5 ⟨rfl, hv⟩; have HV5 := hide (HV4.out.trans (hv.mono HV4.out.size)); clear hv) | (go_at_call 24; (refine (nil_len _).mono ?_); rintro e v6 ⟨rfl, hv⟩; have HV6 := hide (HV5.out.trans (hv.mono HV5.out.size)); clear hv) | (go_at_call 11; (refine (nil_down _).mono ?_); rintro e v7 ⟨rfl, hv⟩; have HV7 := hide (HV6.out.trans (hv.mono HV6.out.size)); clear hv) | (go_at_call 21; (refine (nil_unsure _).mono ?_); rintro e v8 ⟨rfl, hv⟩; have HV8 := hide (HV7.out.trans (hv.mono HV7.out.size)); clear hv) | (go_at_call 22; (refine (nil_copy _).mono ?_); rintro e v9 ⟨rfl, hv⟩; have HV9 := hide (HV8.out.trans (hv.mono HV8.out.size)); clear hv))
          go_ret
          exact ⟨rfl, HV9.out⟩
        · have hE0 : E = 0 := by simpa using dE
          subst hE0
          clear dE
          go_wp2_with (first | (go_at_call 23; (refine (alike_any HT.out).mono ?_); rintro e w7 ⟨rfl, hb7⟩; have H7 := hide (HT.out.below hb7); have HB7 := hide (HB.out.trans (hb7.mono HB.out.size)); clear hb7) | (go_at_call 17; (refine (data_any ch false w7 HCH.out).mono ?_); rintro e w8 ⟨rfl, h8, hb8⟩; rw [show dataN ch false = 512 from rfl] at h8 ⊢; have HK8 := hide h8; have HF8 := hide (fil_data h8 HCH.out); have H8 := hide (H7.out.below hb8); have HB8 := hide (HB7.out.trans (hb8.mono HB7.out.size)); clear h8 hb8) | (go_at_call 16; (refine (sec_write H8.out.sec 3 ch w7.heap.size 512 512 _ (fun _ => HF8.out) (by omega)).mono ?_); rintro e w9 ⟨rfl, ⟨F9, h9, hF9⟩, hf9⟩; rw [(wr_ok (show wrE r.ss.out r.ss.left 6 3 512 = 0 from HE.out) ch r.ss.L).1, (wr_ok (show wrE r.ss.out r.ss.left 6 3 512 = 0 from HE.out) ch r.ss.L).2] at h9; rw [show wrE r.ss.out r.ss.left 6 3 512 = 0 from HE.out]; have HB9 := hide (HB8.out.trans (hf9.below HB8.out.size HF.out)); have hki := fr_blk hf9 HK8.out (fun hf => absurd (H7.out.sec.lt _ hf) (by omega)); have kc : w9.cell? ⟨w7.heap.size, 5, none⟩ = some (.int .u8 ch) := by { rw [hki.cell, fillA_at ch (by decide)]; rfl }; have qc := hki.frozen 5; have zc := hki.lt; have HNF := hide (show ¬ F9 w7.heap.size from fun hf => (hF9 _ hf).elim (fun h => absurd (H7.out.sec.lt _ h) (by omega)) (fun h => absurd HK8.out.lt (by omega))); have H9 := hide h9; clear h9 hF9 hf9 hki) | (go_at_call 12; go_loud ((refine (sec_read (sec_poke H9.out HNF.out 5 _) 3).mono ?_); rintro e w11 ⟨v11, rfl, h0, -, hb11⟩; rw [show faultE false 6 3 = 0 by decide] at h0 ⊢; rw [now_last] at h0; obtain ⟨_, g11, cap11, cs11, rfl, hg11, hk11, hcs11⟩ := h0 rfl; have HG11 := hide hg11; have HK11 := hide hk11; have HCS11 := hide hcs11; have kd : w11.cell? ⟨g11, 5, none⟩ = some (.int .u8 ch) := by { rw [hk11.cell]; exact hcs11 5 (by omega) }; have zd := hk11.lt; have H11 := hide ((sec_poke H9.out HNF.out 5 _).below hb11); have hb10 : ∀ v, Below w.heap.size w (w9.setCell ⟨w7.heap.size, 5, none⟩ v) := fun v => HB9.out.setCell HB7.out.size v; have HB11 := hide ((hb10 _).trans (hb11.mono (by simp; exact HB9.out.size))); clear h0 hg11 hk11 hcs11 hb11 hb10)))
          go_loopw [16] (fun i wr => ∃ q : Nat, q ≤ 512 ∧ i = .int .i64 q ∧ Hid (ByI w11 g11 wr)) (fun i _ => 512 - (intOf i).toNat)
          case atStart => exact ⟨0, by omega, rfl, hide ⟨cs11, HK11.out, fun k hk => ⟨_, HCS11.out k hk⟩, Fr.refl _ _⟩⟩
          case round =>
            obtain ⟨q, hq, rfl, HI⟩ := hrel
            clear kd zd kc qc zc
            by_cases hlt5 : q < 512
            · obtain ⟨cs, hk, hcs, hfr⟩ := HI.out
              obtain ⟨x, hx⟩ := hcs q hlt5
              have kd : wr.cell? ⟨g11, q, none⟩ = some (.int .u8 x) := by rw [hk.cell]; exact hx
              have qd := hk.frozen q
              have zd := hk.lt
              have i512 : (q : Int) < 512 := by omega
              clear hk hcs hfr hx
              go_wp2
              go_roundw
              case rel => exact ⟨q + 1, by omega, by go_num, hide (HI.out.set_ q _)⟩
              case measure => simp [intOf]; omega
            · obtain rfl : q = 512 := by omega
              have HFR := hide HI.out.fr
              have HNG := hide (show ¬ F9 g11 from fun hf => by have h1 := H9.out.lt _ hf; have h2 := HG11.out; simp at h2; omega)
              have HS := hide (H11.out.apart HFR.out (fun j hj e => HNG.out (e ▸ hj)))
              have HBW := hide (HB11.out.trans (HFR.out.below HB11.out.size (fun j e => by have h1 := HG11.out; have h2 := HB9.out.size; simp at h1; omega)))
              go_upto_region 24 with (go_at_call 12; (refine (sec_read HS.out 3).mono ?_); rintro e w12 ⟨v12, rfl, h0, -, hb12⟩; rw [show faultE false 6 3 = 0 by decide] at h0 ⊢; rw [now_last] at h0; obtain ⟨_, g12, cap12, cs12, rfl, hg12, hk12, hcs12⟩ := h0 rfl; have ke : w12.cell? ⟨g12, 5, none⟩ = some (.int .u8 ch) := by { rw [hk12.cell]; exact hcs12 5 (by omega) }; have ze := hk12.lt; have HB12 := hide (HBW.out.trans (hb12.mono HBW.out.size)); clear h0 hg12 hk12 hcs12 hb12)
              go_wp2_with (first | (go_at_call 12; (refine (nil_read 0 _).mono ?_); rintro e v1 ⟨rfl, hv⟩; have HV1 := hide (HB12.out.trans (hv.mono HB12.out.size)); clear hv) | (go_at_call 16; (refine (nil_write 0 _).mono ?_); rintro e v2 ⟨rfl, hv⟩; have HV2 := hide (HV1.out.trans (hv.mono HV1.out.size)); clear hv) | (go_at_call 18; (refine (nil_barrier _).mono ?_); rintro e v3 ⟨rfl, hv⟩; have HV3 := hide (HV2.out.trans (hv.mono HV2.out.size)); clear hv) | (go_at_call 15; (refine (nil_limit 1 _).mono ?_); rintro e v4 ⟨rfl, hv⟩; have HV4 := hide (HV3.out.trans (hv.mono HV3.out.size)); clear hv) | (go_at_call 10; (refine (nil_crash 0 _).mono ?_); rintro e v5 ⟨rfl, hv⟩; have HV5 := hide (HV4.out.trans (hv.mono HV4.out.size)); clear hv) | (go_at_call 24; (refine (nil_len _).mono ?_); rintro e v6 ⟨rfl, hv⟩; have HV6 := hide (HV5.out.trans (hv.mono HV5.out.size)); clear hv) | (go_at_call 11; (refine (nil_down _).mono ?_); rintro e v7 ⟨rfl, hv⟩; have HV7 := hide (HV6.out.trans (hv.mono HV6.out.size)); clear hv) | (go_at_call 21; (refine (nil_unsure _).mono ?_); rintro e v8 ⟨rfl, hv⟩; have HV8 := hide (HV7.out.trans (hv.mono HV7.out.size)); clear hv) | (go_at_call 22; (refine (nil_copy _).mono ?_); rintro e v9 ⟨rfl, hv⟩; have HV9 := hide (HV8.out.trans (hv.mono HV8.out.size)); clear hv))
              go_ret
              exact ⟨rfl, HV9.out⟩
      · cases dE : (E == 0)
        · go_upto_region 24 with (first | (go_at_call 23; (refine (alike_any HT.out).mono ?_); rintro e w7 ⟨rfl, hb7⟩; have H7 := hide (HT.out.below hb7); have HB7 := hide (HB.out.trans (hb7.mono HB.out.size)); clear hb7) | (go_at_call 17; (refine (data_any ch false w7 HCH.out).mono ?_); rintro e w8 ⟨rfl, h8, hb8⟩; rw [show dataN ch false = 512 from rfl] at h8 ⊢; have HK8 := hide h8; have HF8 := hide (fil_data h8 HCH.out); have H8 := hide (H7.out.below hb8); have HB8 := hide (HB7.out.trans (hb8.mono HB7.out.size)); clear h8 hb8) | (go_at_call 16; (refine (sec_write H8.out.sec 3 ch w7.heap.size 512 512 _ (fun _ => HF8.out) (by omega)).mono ?_); rintro e w9 ⟨rfl, -, hf9⟩; rw [show wrE r.ss.out r.ss.left 6 3 512 = E from HE.out]; have HB9 := hide (HB8.out.trans (hf9.below HB8.out.size HF.out)); clear hf9))
          go_wp2_with (first | (go_at_call 12; (refine (nil_read 0 _).mono ?_); rintro e v1 ⟨rfl, hv⟩; have HV1 := hide (HB9.out.trans (hv.mono HB9.out.size)); clear hv) | (go_at_call 16; (refine (nil_write 0 _).mono ?_); rintro e v2 ⟨rfl, hv⟩; have HV2 := hide (HV1.out.trans (hv.mono HV1.out.size)); clear hv) | (go_at_call 18; (refine (nil_barrier _).mono ?_); rintro e v3 ⟨rfl, hv⟩; have HV3 := hide (HV2.out.trans (hv.mono HV2.out.size)); clear hv) | (go_at_call 15; (refine (nil_limit 1 _).mono ?_); rintro e v4 ⟨rfl, hv⟩; have HV4 := hide (HV3.out.trans (hv.mono HV3.out.size)); clear hv) | (go_at_call 10; (refine (nil_crash 0 _).mono ?_); rintro e v5 ⟨rfl, hv⟩; have HV5 := hide (HV4.out.trans (hv.mono HV4.out.size)); clear hv) | (go_at_call 24; (refine (nil_len _).mono ?_); rintro e v6 ⟨rfl, hv⟩; have HV6 := hide (HV5.out.trans (hv.mono HV5.out.size)); clear hv) | (go_at_call 11; (refine (nil_down _).mono ?_); rintro e v7 ⟨rfl, hv⟩; have HV7 := hide (HV6.out.trans (hv.mono HV6.out.size)); clear hv) | (go_at_call 21; (refine (nil_unsure _).mono ?_); rintro e v8 ⟨rfl, hv⟩; have HV8 := hide (HV7.out.trans (hv.mono HV7.out.size)); clear hv) | (go_at_call 22; (refine (nil_copy _).mono ?_); rintro e v9 ⟨rfl, hv⟩; have HV9 := hide (HV8.out.trans (hv.mono HV8.out.size)); clear hv))
          go_ret
          exact ⟨rfl, HV9.out⟩
        · have hE0 : E = 0 := by simpa using dE
          subst hE0
          clear dE
          go_wp2_with (first | (go_at_call 23; (refine (alike_any HT.out).mono ?_); rintro e w7 ⟨rfl, hb7⟩; have H7 := hide (HT.out.below hb7); have HB7 := hide (HB.out.trans (hb7.mono HB.out.size)); clear hb7) | (go_at_call 17; (refine (data_any ch false w7 HCH.out).mono ?_); rintro e w8 ⟨rfl, h8, hb8⟩; rw [show dataN ch false = 512 from rfl] at h8 ⊢; have HK8 := hide h8; have HF8 := hide (fil_data h8 HCH.out); have H8 := hide (H7.out.below hb8); have HB8 := hide (HB7.out.trans (hb8.mono HB7.out.size)); clear h8 hb8) | (go_at_call 16; (refine (sec_write H8.out.sec 3 ch w7.heap.size 512 512 _ (fun _ => HF8.out) (by omega)).mono ?_); rintro e w9 ⟨rfl, ⟨F9, h9, hF9⟩, hf9⟩; rw [(wr_ok (show wrE r.ss.out r.ss.left 6 3 512 = 0 from HE.out) ch r.ss.L).1, (wr_ok (show wrE r.ss.out r.ss.left 6 3 512 = 0 from HE.out) ch r.ss.L).2] at h9; rw [show wrE r.ss.out r.ss.left 6 3 512 = 0 from HE.out]; have HB9 := hide (HB8.out.trans (hf9.below HB8.out.size HF.out)); have hki := fr_blk hf9 HK8.out (fun hf => absurd (H7.out.sec.lt _ hf) (by omega)); have kc : w9.cell? ⟨w7.heap.size, 5, none⟩ = some (.int .u8 ch) := by { rw [hki.cell, fillA_at ch (by decide)]; rfl }; have qc := hki.frozen 5; have zc := hki.lt; have HNF := hide (show ¬ F9 w7.heap.size from fun hf => (hF9 _ hf).elim (fun h => absurd (H7.out.sec.lt _ h) (by omega)) (fun h => absurd HK8.out.lt (by omega))); have H9 := hide h9; clear h9 hF9 hf9 hki) | (go_at_call 12; go_loud ((refine (sec_read (sec_poke H9.out HNF.out 5 _) 3).mono ?_); rintro e w11 ⟨v11, rfl, h0, -, hb11⟩; rw [show faultE false 6 3 = 0 by decide] at h0 ⊢; rw [now_last] at h0; obtain ⟨_, g11, cap11, cs11, rfl, hg11, hk11, hcs11⟩ := h0 rfl; have HG11 := hide hg11; have HK11 := hide hk11; have HCS11 := hide hcs11; have kd : w11.cell? ⟨g11, 5, none⟩ = some (.int .u8 ch) := by { rw [hk11.cell]; exact hcs11 5 (by omega) }; have zd := hk11.lt; have H11 := hide ((sec_poke H9.out HNF.out 5 _).below hb11); have hb10 : ∀ v, Below w.heap.size w (w9.setCell ⟨w7.heap.size, 5, none⟩ v) := fun v => HB9.out.setCell HB7.out.size v; have HB11 := hide ((hb10 _).trans (hb11.mono (by simp; exact HB9.out.size))); clear h0 hg11 hk11 hcs11 hb11 hb10)))
          go_loopw [16] (fun i wr => ∃ q : Nat, q ≤ 512 ∧ i = .int .i64 q ∧ Hid (ByI w11 g11 wr)) (fun i _ => 512 - (intOf i).toNat)
          case atStart => exact ⟨0, by omega, rfl, hide ⟨cs11, HK11.out, fun k hk => ⟨_, HCS11.out k hk⟩, Fr.refl _ _⟩⟩
          case round =>
            obtain ⟨q, hq, rfl, HI⟩ := hrel
            clear kd zd kc qc zc
            by_cases hlt5 : q < 512
            · obtain ⟨cs, hk, hcs, hfr⟩ := HI.out
              obtain ⟨x, hx⟩ := hcs q hlt5
              have kd : wr.cell? ⟨g11, q, none⟩ = some (.int .u8 x) := by rw [hk.cell]; exact hx
              have qd := hk.frozen q
              have zd := hk.lt
              have i512 : (q : Int) < 512 := by omega
              clear hk hcs hfr hx
              go_wp2
              go_roundw
              case rel => exact ⟨q + 1, by omega, by go_num, hide (HI.out.set_ q _)⟩
              case measure => simp [intOf]; omega
            · obtain rfl : q = 512 := by omega
              have HFR := hide HI.out.fr
              have HNG := hide (show ¬ F9 g11 from fun hf => by have h1 := H9.out.lt _ hf; have h2 := HG11.out; simp at h2; omega)
              have HS := hide (H11.out.apart HFR.out (fun j hj e => HNG.out (e ▸ hj)))
              have HBW := hide (HB11.out.trans (HFR.out.below HB11.out.size (fun j e => by have h1 := HG11.out; have h2 := HB9.out.size; simp at h1; omega)))
              go_upto_region 24 with (go_at_call 12; (refine (sec_read HS.out 3).mono ?_); rintro e w12 ⟨v12, rfl, h0, -, hb12⟩; rw [show faultE false 6 3 = 0 by decide] at h0 ⊢; rw [now_last] at h0; obtain ⟨_, g12, cap12, cs12, rfl, hg12, hk12, hcs12⟩ := h0 rfl; have ke : w12.cell? ⟨g12, 5, none⟩ = some (.int .u8 ch) := by { rw [hk12.cell]; exact hcs12 5 (by omega) }; have ze := hk12.lt; have HB12 := hide (HBW.out.trans (hb12.mono HBW.out.size)); clear h0 hg12 hk12 hcs12 hb12)
              go_wp2_with (first | (go_at_call 12; (refine (nil_read 0 _).mono ?_); rintro e v1 ⟨rfl, hv⟩; have HV1 := hide (HB12.out.trans (hv.mono HB12.out.size)); clear hv) | (go_at_call 16; (refine (nil_write 0 _).mono ?_); rintro e v2 ⟨rfl, hv⟩; have HV2 := hide (HV1.out.trans (hv.mono HV1.out.size)); clear hv) | (go_at_call 18; (refine (nil_barrier _).mono ?_); rintro e v3 ⟨rfl, hv⟩; have HV3 := hide (HV2.out.trans (hv.mono HV2.out.size)); clear hv) | (go_at_call 15; (refine (nil_limit 1 _).mono ?_); rintro e v4 ⟨rfl, hv⟩; have HV4 := hide (HV3.out.trans (hv.mono HV3.out.size)); clear hv) | (go_at_call 10; (refine (nil_crash 0 _).mono ?_); rintro e v5 ⟨rfl, hv⟩; have HV5 := hide (HV4.out.trans (hv.mono HV4.out.size)); clear hv) | (go_at_call 24; (refine (nil_len _).mono ?_); rintro e v6 ⟨rfl, hv⟩; have HV6 := hide (HV5.out.trans (hv.mono HV5.out.size)); clear hv) | (go_at_call 11; (refine (nil_down _).mono ?_); rintro e v7 ⟨rfl, hv⟩; have HV7 := hide (HV6.out.trans (hv.mono HV6.out.size)); clear hv) | (go_at_call 21; (refine (nil_unsure _).mono ?_); rintro e v8 ⟨rfl, hv⟩; have HV8 := hide (HV7.out.trans (hv.mono HV7.out.size)); clear hv) | (go_at_call 22; (refine (nil_copy _).mono ?_); rintro e v9 ⟨rfl, hv⟩; have HV9 := hide (HV8.out.trans (hv.mono HV8.out.size)); clear hv))
              go_ret
              exact ⟨rfl, HV9.out⟩
end Go.Proofs.Ythlgkhnkcjihiaa
