/- The law SectorSure returns true. -/
import Derived.Test.YthlgkhnkcjihiaaSecActs
namespace Go.Proofs.Ythlgkhnkcjihiaa
set_option linter.unusedSimpArgs false
set_option linter.unusedVariables false
open Go.RowKit
abbrev TS : TypeId := 9
theorem str_info : (Try.prog.info? TS).map (fun i => (i.zero, i.size, i.bytes)) = some (some (.string ⟨#[]⟩), 1, 16) := by kernel_rfl
theorem mask_all (k : Nat) : maskT 18446744073709551615 k = true := by
  unfold maskT
  have h : ∀ m : Fin 64, (bits BinOp.and IntKind.u64 (18446744073709551615 / 2 ^ m.val) 1 == 1) = true := by decide +kernel
  exact h ⟨k % 64, Nat.mod_lt _ (by omega)⟩
theorem mask_none (k : Nat) : maskT 0 k = false := by
  unfold maskT
  rw [Int.zero_ediv]
  decide +kernel
theorem last_nil (τ : Nat → Bool) (S : Int → Int) : lastS τ S [] = S := rfl
theorem last_all (S : Int → Int) (L : List (Int × Int)) : lastS (maskT 18446744073709551615) S L = nowC S L := by
  rw [lastS_eq, crashG_all _ _ (fun i _ => mask_all i)]
theorem last_none (S : Int → Int) (L : List (Int × Int)) : lastS (maskT 0) S L = S := by
  rw [lastS_eq, crashG_none _ _ (fun i _ => mask_none i), now_nil]
/-- The strings that were taken down. -/
def Bef (V : Int → Int) (g q : Nat) (w : World) : Prop := ∃ cs, Blk w g TS cs ∧ (∀ k : Nat, k < 6 → ∃ s, cs[k]? = some (.string s)) ∧ (∀ k : Nat, k < q → k < 6 → cs[k]? = some (.string (strC (V k))))
theorem Bef.below {V : Int → Int} {g q : Nat} {w w' : World} (h : Bef V g q w) (hb : Below w.heap.size w w') : Bef V g q w' := by
  obtain ⟨cs, hk, h1, h2⟩ := h
  exact ⟨cs, hk.below hb hk.lt, h1, h2⟩
theorem Bef.apart {V : Int → Int} {g q : Nat} {w w' : World} {F : Nat → Prop} (h : Bef V g q w) (hf : Fr F w w') (hg : ¬ F g) : Bef V g q w' := by
  obtain ⟨cs, hk, h1, h2⟩ := h
  exact ⟨cs, fr_blk hf hk hg, h1, h2⟩
theorem Bef.lt {V : Int → Int} {g q : Nat} {w : World} (h : Bef V g q w) : g < w.heap.size := by
  obtain ⟨cs, hk, h1, h2⟩ := h
  exact hk.lt
theorem Bef.put {V : Int → Int} {g q : Nat} {w : World} (h : Bef V g q w) (hq : q < 6) : Bef V g (q + 1) (w.setCell ⟨g, q, none⟩ (.string (strC (V q)))) := by
  obtain ⟨cs, hk, h1, h2⟩ := h
  have hsz : ∀ k : Nat, k < 6 → k < cs.size := fun k hk6 => by
    obtain ⟨s, hs⟩ := h1 k hk6
    exact (Array.getElem?_eq_some_iff.1 hs).1
  refine ⟨_, hk.set_ q _, fun k hk6 => ?_, fun k hkq hk6 => ?_⟩
  · rw [Array.getElem?_setIfInBounds]
    split
    · rename_i e; subst e
      rw [if_pos (hsz q hk6)]
      exact ⟨_, rfl⟩
    · exact h1 k hk6
  · rw [Array.getElem?_setIfInBounds]
    split
    · rename_i e; subst e
      rw [if_pos (hsz q hk6)]
    · rename_i e
      exact h2 k (by omega) hk6
def L1 (w : World) (b bw gB : Nat) (F G : Nat → Prop) (s : SS) (r : RS) (q : Nat) (wr : World) : Prop := Below w.heap.size w wr ∧ Two wr b bw F G 6 s r 200 ∧ Bef (nowC s.S s.L) gB q wr
def L2 (w : World) (b bw gB : Nat) (s : SS) (j : Nat) (wr : World) : Prop :=
  Below w.heap.size w wr ∧ (∃ F G s3 r3, Two wr b bw F G 6 s3 r3 (200 + 2 * j) ∧ s3.S = s.S ∧ (∀ j, F j → w.heap.size ≤ j ∧ j ≠ gB) ∧ (∀ j, G j → w.heap.size ≤ j ∧ j ≠ gB)) ∧ Bef (nowC s.S s.L) gB 6 wr
def L3 (w : World) (b gB : Nat) (F : Nat → Prop) (S2 V : Int → Int) (N : Nat) (wr : World) : Prop := Below w.heap.size w wr ∧ Sec wr F b false 0 6 S2 [] N ∧ Bef V gB 6 wr
theorem L1.put {w wr w6 : World} {b bw gB q : Nat} {F G : Nat → Prop} {s : SS} {r : RS} (h : L1 w b bw gB F G s r q wr) (hb : Below wr.heap.size wr w6) (hq : q < 6) (hF : ¬ F gB) (hG : ¬ G gB) (hg : w.heap.size ≤ gB) :
    L1 w b bw gB F G s r (q + 1) (w6.setCell ⟨gB, q, none⟩ (.string (strC (nowC s.S s.L q)))) := by
  obtain ⟨h1, h2, h3⟩ := h
  have hfr : Fr (fun j => j = gB) w6 (w6.setCell ⟨gB, q, none⟩ (.string (strC (nowC s.S s.L q)))) := Fr.of_grown (gby_set w6 gB q _) (fun k hk => by injection hk with hk; exact hk.symm)
  have h2' := h2.below hb
  have hb6 := h1.trans (hb.mono h1.size)
  exact ⟨hb6.trans (hfr.below hb6.size (fun j e => by omega)), ⟨h2'.sec.apart hfr (fun j hj e => hF (e ▸ hj)), h2'.ref.apart hfr (fun j hj e => hG (e ▸ hj)), h2.ap⟩, (h3.below hb).put hq⟩
theorem L2.step {w wr w6 : World} {b bw gB j : Nat} {F G F6 G6 : Nat → Prop} {s s6 : SS} {r6 : RS} (hb : Below w.heap.size w wr) (hbf : Bef (nowC s.S s.L) gB 6 wr) (hF : ∀ j, F j → w.heap.size ≤ j ∧ j ≠ gB) (hG : ∀ j, G j → w.heap.size ≤ j ∧ j ≠ gB)
    (h6 : Two w6 b bw F6 G6 6 s6 r6 (200 + 2 * j + 2)) (hF6 : ∀ j, F6 j → F j ∨ wr.heap.size ≤ j) (hG6 : ∀ j, G6 j → G j ∨ wr.heap.size ≤ j) (hf : Fr (FG F G) wr w6) (hs : s6.S = s.S) : L2 w b bw gB s (j + 1) w6 := by
  have hlt := hbf.lt
  have hsz := hb.size
  refine ⟨hb.trans (hf.below hsz (fun x hx => hx.elim (fun h => (hF x h).1) (fun h => (hG x h).1))), ⟨F6, G6, s6, r6, by rw [show 200 + 2 * (j + 1) = 200 + 2 * j + 2 by omega]; exact h6, hs, fun x hx => ?_, fun x hx => ?_⟩, hbf.apart hf (fun hg => hg.elim (fun h => (hF _ h).2 rfl) (fun h => (hG _ h).2 rfl))⟩
  · rcases hF6 x hx with h | h
    · exact hF x h
    · exact ⟨by omega, by omega⟩
  · rcases hG6 x hx with h | h
    · exact hG x h
    · exact ⟨by omega, by omega⟩
theorem st_two (size : Int) (a : ActV) (s : SS) (h : a.kind = 2) : (stS size a s).S = s.S := by
  unfold stS; rw [if_pos h]
set_option maxRecDepth 100000 in
set_option maxHeartbeats 4000000 in
theorem sure_any (acts : List ActV) (A : Option Addr) (n c : Nat) (more : List ActV) (A2 : Option Addr) (n2 c2 : Nat) (mask a3 : Int) (w : World) (hr : AR w w.heap.size A n acts) (ho : okActs acts) (hn : n ≤ 140737488351232)
    (hr2 : AR w w.heap.size A2 n2 more) (ho2 : okActs more) (hn2 : n2 ≤ 140737488351232) (hm : 0 ≤ mask ∧ mask < 18446744073709551616) (h3 : 0 ≤ a3 ∧ a3 < 256) :
    Calls Try.prog 5 #[.slice A n c, .slice A2 n2 c2, .int .u64 mask, .int .u8 a3] w fun e w' => e = .returned (.bool true) ∧ Below w.heap.size w w' := by
  have HR := hide hr
  have HO := hide ho
  have HR2 := hide hr2
  have HO2 := hide ho2
  have HM := hide hm
  obtain ⟨h30, h31⟩ := h3
  clear hr ho hr2 ho2 hm
  go_enter Try.func5, Try.ntmps5
  go_upto_region 2 with (go_at_call 8; (refine (grown_any acts A n c w HR.out HO.out hn).mono ?_); rintro e w1 ⟨b, bw, rfl, F, G, r, h1, hF, hG, hb1⟩; have H1 := hide h1; have HF := hide hF; have HG := hide hG; have HB1 := hide hb1; clear h1 hF hG hb1)
  obtain ⟨LG, su, left, out⟩ := r
  have hleft : 0 ≤ left := by obtain ⟨u, us, h⟩ := H1.out.ref; exact h.hl.1
  cases out
  case true =>
    go_upto_region 3 with (go_at_call 9; (refine (answers_any w1).mono ?_); rintro e w2 ⟨rfl, hb2⟩; have H2 := hide (H1.out.below hb2); have HB2 := hide (HB1.out.trans (hb2.mono HB1.out.size)); obtain ⟨uR, usR, hR⟩ := H2.out.ref; have kx := hR.blk.cell; have qx := hR.blk.frozen; have zx := hR.blk.lt; unfold rk at kx; clear hR hb2)
    go_wp2_with (go_at_call 9; (refine (answers_any w2).mono ?_); rintro e w3 ⟨rfl, hb3⟩; have HB3 := hide (HB2.out.trans (hb3.mono HB2.out.size)); clear hb3)
    go_ret
    exact ⟨rfl, HB3.out⟩
  by_cases hlp : 0 < left
  · go_upto_region 3 with (go_at_call 9; (refine (answers_any w1).mono ?_); rintro e w2 ⟨rfl, hb2⟩; have H2 := hide (H1.out.below hb2); have HB2 := hide (HB1.out.trans (hb2.mono HB1.out.size)); obtain ⟨uR, usR, hR⟩ := H2.out.ref; have kx := hR.blk.cell; have qx := hR.blk.frozen; have zx := hR.blk.lt; unfold rk at kx; clear hR hb2)
    go_wp2_with (go_at_call 9; (refine (answers_any w2).mono ?_); rintro e w3 ⟨rfl, hb3⟩; have HB3 := hide (HB2.out.trans (hb3.mono HB2.out.size)); clear hb3)
    go_ret
    exact ⟨rfl, HB3.out⟩
  obtain rfl : left = 0 := by omega
  clear hlp hleft
  go_upto_region 4 with (go_at_call 9; (refine (answers_any w1).mono ?_); rintro e w2 ⟨rfl, hb2⟩; have H2 := hide (H1.out.below hb2); have HB2 := hide (HB1.out.trans (hb2.mono HB1.out.size)); obtain ⟨uR, usR, hR⟩ := H2.out.ref; have kx := hR.blk.cell; have qx := hR.blk.frozen; have zx := hR.blk.lt; unfold rk at kx; clear hR hb2)
  have hmk := run_make_row' (P := Try.prog) 49 TS (.string ⟨#[]⟩) 16 Try.underlying49 str_info rfl .i64 .i64 6 (by omega) (by omega)
  have hM0 : ∀ k : Nat, k < 6 → ∃ s, (madeCells #[Value.string ⟨#[]⟩] 6)[k]? = some (.string s) := fun k hk => by
    refine ⟨⟨#[]⟩, ?_⟩
    rw [← Array.getElem?_toList, toList_madeCells_one]
    match k, hk with
    | 0, _ => rfl
    | 1, _ => rfl
    | 2, _ => rfl
    | 3, _ => rfl
    | 4, _ => rfl
    | 5, _ => rfl
  obtain ⟨M, hM⟩ : ∃ M, madeCells #[Value.string ⟨#[]⟩] 6 = M := ⟨_, rfl⟩
  rw [hM] at hmk hM0
  simp only [Int.cast_ofNat_Int] at hmk
  have HM0 := hide hM0
  clear hM hM0
  go_upto_region 5 with fail
  obtain ⟨W4, hW4, hB4, hK4⟩ : ∃ W4, w2.alloc (Obj.cells M TS) = W4 ∧ Below w2.heap.size w2 W4 ∧ Blk W4 w2.heap.size TS M := ⟨_, rfl, (Below.refl _ _).alloc (Nat.le_refl _) _, Blk.new _ _ _⟩
  rw [hW4]
  have H4 := hide (H2.out.below hB4)
  have HB4 := hide (HB2.out.trans (hB4.mono HB2.out.size))
  have HBF := hide (show ∀ V, Bef V w2.heap.size 0 W4 from fun V => ⟨M, hK4, HM0.out, fun k hk => absurd hk (by omega)⟩)
  have HGB := hide (show w.heap.size ≤ w2.heap.size from HB2.out.size)
  have HNF := hide (show ¬ F w2.heap.size from fun h => by have := H2.out.sec.lt _ h; omega)
  have HNG := hide (show ¬ G w2.heap.size from fun h => by have := H2.out.ref.lt _ h; omega)
  clear hW4 hB4 hK4 hmk kx qx zx HM0
  obtain ⟨gB, hgB⟩ : ∃ gB, w2.heap.size = gB := ⟨_, rfl⟩
  rw [hgB] at HBF HGB HNF HNG ⊢
  clear hgB
  obtain ⟨S, hS⟩ : ∃ S, sS LG su = S := ⟨_, rfl⟩
  obtain ⟨L, hL⟩ : ∃ L, sL LG su = L := ⟨_, rfl⟩
  have HT4 := hide (show Two W4 b bw F G 6 ⟨false, 0, S, L⟩ ⟨LG, su, 0, false⟩ 200 by rw [← hS, ← hL]; exact H4.out)
  clear hS hL H4 H2 H1
  rcases (show a3 % 3 = 0 ∨ a3 % 3 = 1 ∨ a3 % 3 = 2 by omega) with hi | hi | hi
  · go_upto_region 12 with (go_at_call 18; (refine (sec_barrier HT4.out.sec (by omega)).mono ?_); rintro e w5 ⟨rfl, h5, hf5⟩; rw [show baE false 0 = 0 from rfl]; have HST := hide (show L1 w b bw gB F G ⟨false, 0, lastS allT S L, []⟩ ⟨LG, su, 0, false⟩ 0 w5 from ⟨HB4.out.trans (hf5.below HB4.out.size HF.out), HT4.out.left h5 hf5 (fun j hj => .inl hj) (Nat.le_refl _) (by omega), (HBF.out _).apart hf5 HNF.out⟩); clear h5 hf5)
    obtain ⟨s, hs⟩ : ∃ s : SS, (⟨false, 0, lastS allT S L, []⟩ : SS) = s := ⟨_, rfl⟩
    obtain ⟨r, hr⟩ : ∃ r : RS, (⟨LG, su, 0, false⟩ : RS) = r := ⟨_, rfl⟩
    rw [hs, hr] at HST
    have HSO := hide (show s.out = false by rw [← hs])
    have HSV := hide (show s.L = [] ∧ s.S = lastS allT S L by rw [← hs]; exact ⟨rfl, rfl⟩)
    clear hs hr
    (try simp only [hi])
    go_loopw [12] (fun i wr => ∃ q : Nat, q ≤ 6 ∧ i = .int .i64 q ∧ Hid (L1 w b bw gB F G s r q wr)) (fun i _ => 6 - (intOf i).toNat)
    case atStart => exact ⟨0, by omega, rfl, HST⟩
    case round =>
      obtain ⟨q, hq, rfl, HI⟩ := hrel
      by_cases hlt : q < 6
      · have i6 : (q : Int) < 6 := by omega
        have HRS := hide (sec_read HI.out.2.1.sec q)
        rw [HSO.out, show faultE false 6 (q : Int) = 0 by unfold faultE; rw [if_neg (by simp), if_neg (by omega), if_neg (by omega)]] at HRS
        go_wp2_with (go_at_call 12; (refine HRS.out.mono ?_); rintro e w6 ⟨v6, rfl, h60, -, hb6⟩; have hfil := h60 rfl; have v1 := fil_string hfil; obtain ⟨hc6, g6, cap6, cs6, rfl, -⟩ := hfil; obtain ⟨csB, hkB, h1B, -⟩ := HI.out.2.2.below hb6; obtain ⟨sB, hsB⟩ := h1B q hlt; have kB : w6.cell? ⟨gB, q, none⟩ = some (.string sB) := by { rw [hkB.cell]; exact hsB }; have qB := hkB.frozen q; have zB := hkB.lt; have HI6 := hide (HI.out.put hb6 hlt HNF.out HNG.out HGB.out); clear h60 hc6 hb6 hkB h1B hsB)
        go_roundw
        case rel => exact ⟨q + 1, by omega, by go_num, HI6⟩
        case measure => simp [intOf]; omega
      · have hq6 : q = 6 := by omega
        have HI := hide (show L1 w b bw gB F G s r 6 wr from hq6 ▸ HI.out)
        clear hq6
        obtain ⟨S2, hS2⟩ : ∃ S2, lastS (maskT mask) s.S s.L = S2 := ⟨_, rfl⟩
        obtain ⟨V, hV⟩ : ∃ V, nowC s.S s.L = V := ⟨_, rfl⟩
        have HS2 := hide hS2
        have HVV := hide hV
        go_upto_region 29 with (go_at_call 10; (refine (sec_crash HI.out.2.1.sec mask HM.out (by omega)).mono ?_); rintro e w6 ⟨rfl, h6, hf6⟩; rw [HS2.out] at h6; have H3 := hide (show L3 w b gB F S2 V 200 w6 from ⟨HI.out.1.trans (hf6.below HI.out.1.size HF.out), h6, HVV.out ▸ (HI.out.2.2.apart hf6 HNF.out)⟩); clear h6 hf6)
        have HV := hide (show ∀ q : Nat, q < 6 → S2 q = V q from fun q _ => by rw [← hS2, ← hV, HSV.out.1]; rfl)
        clear hS2 hV HS2 HVV
        go_loopw [16] (fun i wr => ∃ q : Nat, q ≤ 6 ∧ i = .int .i64 q ∧ Hid (L3 w b gB F S2 V 200 wr)) (fun i _ => 6 - (intOf i).toNat)
        case atStart => exact ⟨0, by omega, rfl, H3⟩
        case round =>
          obtain ⟨q, hq, rfl, HI⟩ := hrel
          by_cases hlt : q < 6
          · have i6 : (q : Int) < 6 := by omega
            have HRS := hide (sec_read HI.out.2.1 q)
            rw [show nowC S2 [] q = V q from HV.out q hlt, show faultE false 6 (q : Int) = 0 by unfold faultE; rw [if_neg (by simp), if_neg (by omega), if_neg (by omega)]] at HRS
            obtain ⟨cN, hcN⟩ : ∃ cN, V q = cN := ⟨_, rfl⟩
            have HCN := hide hcN
            rw [hcN] at HRS
            clear hcN
            go_wp2_with (go_at_call 12; (refine HRS.out.mono ?_); rintro e w6 ⟨v6, rfl, h60, -, hb6⟩; have hfil := h60 rfl; have v1 := fun M => fil_string (w := w6.drewN M) hfil; obtain ⟨hc6, g6, cap6, cs6, rfl, -⟩ := hfil; obtain ⟨csB, hkB, -, h2B⟩ := HI.out.2.2.below hb6; have kB : w6.cell? ⟨gB, q, none⟩ = some (.string (strC cN)) := by { rw [hkB.cell, ← HCN.out]; exact h2B q hlt hlt }; have zB := hkB.lt; have HI6 := hide (show L3 w b gB F S2 V 200 w6 from ⟨HI.out.1.trans (hb6.mono HI.out.1.size), HI.out.2.1.below hb6, HI.out.2.2.below hb6⟩); have HLB := hide (show (csB : Array Value) = csB from rfl); clear h60 hc6 hb6 hkB h2B HLB)
            go_quiet (fail)
            go_wp2
            go_roundw
            case rel => exact ⟨q + 1, by omega, by go_num, hide ⟨below_drewN HI6.out.1 _, HI6.out.2.1.below (below_drewN (Below.refl _ _) _), HI6.out.2.2.below (below_drewN (Below.refl _ _) _)⟩⟩
            case measure => simp [intOf]; omega
          · obtain rfl : q = 6 := by omega
            go_wp2_with (go_at_call 21; (refine (sec_unsure HI.out.2.1).mono ?_); rintro e w7 ⟨v, us, us', rfl, hc, hL, -, hb7⟩; obtain rfl : us' = [] := by { have h1 := congrArg List.length hc.same; have h2 := congrArg List.length hL; simp at h1 h2; rw [h2] at h1; simpa using h1 }; obtain ⟨A1, c1, rfl⟩ := row_form hc.row; have HB7 := hide (HI.out.1.trans (hb7.mono HI.out.1.size)); clear hc hL hb7)
            go_ret
            exact ⟨by simp, HB7.out⟩
  · have HST := hide (show L1 w b bw gB F G ⟨false, 0, S, L⟩ ⟨LG, su, 0, false⟩ 0 W4 from ⟨HB4.out, HT4.out, HBF.out _⟩)
    go_upto_region 12 with fail
    obtain ⟨s, hs⟩ : ∃ s : SS, (⟨false, 0, S, L⟩ : SS) = s := ⟨_, rfl⟩
    obtain ⟨r, hr⟩ : ∃ r : RS, (⟨LG, su, 0, false⟩ : RS) = r := ⟨_, rfl⟩
    rw [hs, hr] at HST
    have HSO := hide (show s.out = false by rw [← hs])
    clear hs hr
    (try simp only [hi])
    go_loopw [12] (fun i wr => ∃ q : Nat, q ≤ 6 ∧ i = .int .i64 q ∧ Hid (L1 w b bw gB F G s r q wr)) (fun i _ => 6 - (intOf i).toNat)
    case atStart => exact ⟨0, by omega, rfl, HST⟩
    case round =>
      obtain ⟨q, hq, rfl, HI⟩ := hrel
      by_cases hlt : q < 6
      · have i6 : (q : Int) < 6 := by omega
        have HRS := hide (sec_read HI.out.2.1.sec q)
        rw [HSO.out, show faultE false 6 (q : Int) = 0 by unfold faultE; rw [if_neg (by simp), if_neg (by omega), if_neg (by omega)]] at HRS
        go_wp2_with (go_at_call 12; (refine HRS.out.mono ?_); rintro e w6 ⟨v6, rfl, h60, -, hb6⟩; have hfil := h60 rfl; have v1 := fil_string hfil; obtain ⟨hc6, g6, cap6, cs6, rfl, -⟩ := hfil; obtain ⟨csB, hkB, h1B, -⟩ := HI.out.2.2.below hb6; obtain ⟨sB, hsB⟩ := h1B q hlt; have kB : w6.cell? ⟨gB, q, none⟩ = some (.string sB) := by { rw [hkB.cell]; exact hsB }; have qB := hkB.frozen q; have zB := hkB.lt; have HI6 := hide (HI.out.put hb6 hlt HNF.out HNG.out HGB.out); clear h60 hc6 hb6 hkB h1B hsB)
        go_roundw
        case rel => exact ⟨q + 1, by omega, by go_num, HI6⟩
        case measure => simp [intOf]; omega
      · have hq6 : q = 6 := by omega
        have HI := hide (show L1 w b bw gB F G s r 6 wr from hq6 ▸ HI.out)
        clear hq6
        obtain ⟨S2, hS2⟩ : ∃ S2, lastS (maskT 18446744073709551615) s.S s.L = S2 := ⟨_, rfl⟩
        obtain ⟨V, hV⟩ : ∃ V, nowC s.S s.L = V := ⟨_, rfl⟩
        have HS2 := hide hS2
        have HVV := hide hV
        go_upto_region 29 with (go_at_call 10; (refine (sec_crash HI.out.2.1.sec 18446744073709551615 (by omega) (by omega)).mono ?_); rintro e w6 ⟨rfl, h6, hf6⟩; rw [HS2.out] at h6; have H3 := hide (show L3 w b gB F S2 V 200 w6 from ⟨HI.out.1.trans (hf6.below HI.out.1.size HF.out), h6, HVV.out ▸ (HI.out.2.2.apart hf6 HNF.out)⟩); clear h6 hf6)
        have HV := hide (show ∀ q : Nat, q < 6 → S2 q = V q from fun q _ => by rw [← hS2, ← hV, last_all])
        clear hS2 hV HS2 HVV
        go_loopw [16] (fun i wr => ∃ q : Nat, q ≤ 6 ∧ i = .int .i64 q ∧ Hid (L3 w b gB F S2 V 200 wr)) (fun i _ => 6 - (intOf i).toNat)
        case atStart => exact ⟨0, by omega, rfl, H3⟩
        case round =>
          obtain ⟨q, hq, rfl, HI⟩ := hrel
          by_cases hlt : q < 6
          · have i6 : (q : Int) < 6 := by omega
            have HRS := hide (sec_read HI.out.2.1 q)
            rw [show nowC S2 [] q = V q from HV.out q hlt, show faultE false 6 (q : Int) = 0 by unfold faultE; rw [if_neg (by simp), if_neg (by omega), if_neg (by omega)]] at HRS
            obtain ⟨cN, hcN⟩ : ∃ cN, V q = cN := ⟨_, rfl⟩
            have HCN := hide hcN
            rw [hcN] at HRS
            clear hcN
            go_wp2_with (go_at_call 12; (refine HRS.out.mono ?_); rintro e w6 ⟨v6, rfl, h60, -, hb6⟩; have hfil := h60 rfl; have v1 := fun M => fil_string (w := w6.drewN M) hfil; obtain ⟨hc6, g6, cap6, cs6, rfl, -⟩ := hfil; obtain ⟨csB, hkB, -, h2B⟩ := HI.out.2.2.below hb6; have kB : w6.cell? ⟨gB, q, none⟩ = some (.string (strC cN)) := by { rw [hkB.cell, ← HCN.out]; exact h2B q hlt hlt }; have zB := hkB.lt; have HI6 := hide (show L3 w b gB F S2 V 200 w6 from ⟨HI.out.1.trans (hb6.mono HI.out.1.size), HI.out.2.1.below hb6, HI.out.2.2.below hb6⟩); have HLB := hide (show (csB : Array Value) = csB from rfl); clear h60 hc6 hb6 hkB h2B HLB)
            go_quiet (fail)
            go_wp2
            go_roundw
            case rel => exact ⟨q + 1, by omega, by go_num, hide ⟨below_drewN HI6.out.1 _, HI6.out.2.1.below (below_drewN (Below.refl _ _) _), HI6.out.2.2.below (below_drewN (Below.refl _ _) _)⟩⟩
            case measure => simp [intOf]; omega
          · obtain rfl : q = 6 := by omega
            go_wp2_with (go_at_call 21; (refine (sec_unsure HI.out.2.1).mono ?_); rintro e w7 ⟨v, us, us', rfl, hc, hL, -, hb7⟩; obtain rfl : us' = [] := by { have h1 := congrArg List.length hc.same; have h2 := congrArg List.length hL; simp at h1 h2; rw [h2] at h1; simpa using h1 }; obtain ⟨A1, c1, rfl⟩ := row_form hc.row; have HB7 := hide (HI.out.1.trans (hb7.mono HI.out.1.size)); clear hc hL hb7)
            go_ret
            exact ⟨by simp, HB7.out⟩
  · go_upto_region 12 with (first | (go_at_call 18; (refine (sec_barrier HT4.out.sec (by omega)).mono ?_); rintro e w5 ⟨rfl, h5, hf5⟩; rw [show baE false 0 = 0 from rfl]; have HT5 := hide (show Two w5 b bw F G 6 ⟨false, 0, lastS allT S L, []⟩ ⟨LG, su, 0, false⟩ 200 from HT4.out.left h5 hf5 (fun j hj => .inl hj) (Nat.le_refl _) (by omega)); have HB5 := hide (HB4.out.trans (hf5.below HB4.out.size HF.out)); have HBF5 := hide (fun V => (HBF.out V).apart hf5 HNF.out); clear h5 hf5) | (go_at_call 19; (refine (ref_barrier HT5.out.ref).mono ?_); rintro e w6 ⟨rfl, h6, hf6⟩; have HST := hide (show L1 w b bw gB F G ⟨false, 0, lastS allT S L, []⟩ ⟨LG, LG.length, 0, false⟩ 0 w6 from ⟨HB5.out.trans (hf6.below HB5.out.size HG.out), HT5.out.right h6 hf6 (fun j hj => .inl hj) (Nat.le_refl _) (by omega), (HBF5.out _).apart hf6 HNG.out⟩); clear h6 hf6))
    obtain ⟨s, hs⟩ : ∃ s : SS, (⟨false, 0, lastS allT S L, []⟩ : SS) = s := ⟨_, rfl⟩
    obtain ⟨r, hr⟩ : ∃ r : RS, (⟨LG, LG.length, 0, false⟩ : RS) = r := ⟨_, rfl⟩
    rw [hs, hr] at HST
    have HSO := hide (show s.out = false by rw [← hs])
    have HSV := hide (show s.L = [] ∧ s.S = lastS allT S L by rw [← hs]; exact ⟨rfl, rfl⟩)
    clear hs hr
    (try simp only [hi])
    go_loopw [12] (fun i wr => ∃ q : Nat, q ≤ 6 ∧ i = .int .i64 q ∧ Hid (L1 w b bw gB F G s r q wr)) (fun i _ => 6 - (intOf i).toNat)
    case atStart => exact ⟨0, by omega, rfl, HST⟩
    case round =>
      obtain ⟨q, hq, rfl, HI⟩ := hrel
      by_cases hlt : q < 6
      · have i6 : (q : Int) < 6 := by omega
        have HRS := hide (sec_read HI.out.2.1.sec q)
        rw [HSO.out, show faultE false 6 (q : Int) = 0 by unfold faultE; rw [if_neg (by simp), if_neg (by omega), if_neg (by omega)]] at HRS
        go_wp2_with (go_at_call 12; (refine HRS.out.mono ?_); rintro e w6 ⟨v6, rfl, h60, -, hb6⟩; have hfil := h60 rfl; have v1 := fil_string hfil; obtain ⟨hc6, g6, cap6, cs6, rfl, -⟩ := hfil; obtain ⟨csB, hkB, h1B, -⟩ := HI.out.2.2.below hb6; obtain ⟨sB, hsB⟩ := h1B q hlt; have kB : w6.cell? ⟨gB, q, none⟩ = some (.string sB) := by { rw [hkB.cell]; exact hsB }; have qB := hkB.frozen q; have zB := hkB.lt; have HI6 := hide (HI.out.put hb6 hlt HNF.out HNG.out HGB.out); clear h60 hc6 hb6 hkB h1B hsB)
        go_roundw
        case rel => exact ⟨q + 1, by omega, by go_num, HI6⟩
        case measure => simp [intOf]; omega
      · have hq6 : q = 6 := by omega
        have HI := hide (show L1 w b bw gB F G s r 6 wr from hq6 ▸ HI.out)
        clear hq6
        obtain ⟨V, hV⟩ : ∃ V, nowC s.S s.L = V := ⟨_, rfl⟩
        have HVV := hide hV
        have HST2 := hide (show L2 w b bw gB s 0 wr from ⟨HI.out.1, ⟨F, G, s, r, HI.out.2.1, rfl, fun j hj => ⟨HF.out j hj, fun e => HNF.out (e ▸ hj)⟩, fun j hj => ⟨HG.out j hj, fun e => HNG.out (e ▸ hj)⟩⟩, HI.out.2.2⟩)
        clear HI hV
        go_upto_region 23 with fail
        (try simp only [hi])
        go_loopw [15] (fun i wr => ∃ j : Nat, j ≤ n2 ∧ j ≤ 50 ∧ i = .int .i64 j ∧ Hid (L2 w b bw gB s j wr)) (fun i _ => n2 - (intOf i).toNat)
        case atStart => exact ⟨0, by omega, by omega, rfl, HST2⟩
        case round =>
          obtain ⟨j, hj, hj6, rfl, HI⟩ := hrel
          by_cases hlt3 : j < n2 ∧ j < 50
          · obtain ⟨hlt3, hlt6⟩ := hlt3
            obtain ⟨hb, ⟨F3, G3, s3, r3, ht, hs3, hF3, hG3⟩, hbf⟩ := HI.out
            obtain ⟨bg, o, rfl, hbg, hc⟩ := Sl.at (HR2.out.below hb) (fun _ => rfl) (by omega) (by omega : 0 < n2)
            have hll := HR2.out.len
            obtain ⟨a, ha⟩ : ∃ a, more[j] = a := ⟨_, rfl⟩
            have hok := HO2.out j (by omega)
            have c0 := hc j (by omega) 0 _ rfl
            have c1 := hc j (by omega) 1 _ rfl
            have c2 := hc j (by omega) 2 _ rfl
            have c3 := hc j (by omega) 3 _ rfl
            have c4 := hc j (by omega) 4 _ rfl
            rw [ha] at c0 c1 c2 c3 c4 hok
            simp only [Nat.add_zero] at c0
            have z0 : bg < wr.heap.size := Nat.lt_of_lt_of_le hbg hb.size
            have HOK := hide hok
            have HT := hide ht
            have HS3 := hide hs3
            have HF3 := hide hF3
            have HG3 := hide hG3
            have HB := hide hb
            have HBF3 := hide hbf
            have i60 : (j : Int) < 50 := by omega
            clear hb hc hok ha hll ht hs3 hF3 hG3 hbf
            cases d2 : (a.kind == 2)
            · go_wp2
              go_roundw
              case rel => exact ⟨j + 1, by omega, by omega, by go_num, hide ⟨HB.out, ⟨F3, G3, s3, r3, ⟨HT.out.sec.more (by omega) (by omega), HT.out.ref.more (by omega) (by omega), HT.out.ap⟩, HS3.out, HF3.out, HG3.out⟩, HBF3.out⟩⟩
              case measure => simp [intOf]; omega
            · have HK2 := hide (show a.kind = 2 by simpa using d2)
              go_wp2_with (go_at_call 20; (refine (act_any HT.out (by omega) a HOK.out).mono ?_); rintro e w6 ⟨⟨β, rfl, -⟩, ⟨F6, G6, h6, hF6, hG6⟩, hf6⟩; have HL6 := hide (L2.step HB.out HBF3.out HF3.out HG3.out h6 hF6 hG6 hf6 ((st_two 6 a s3 HK2.out).trans HS3.out)); clear h6 hF6 hG6 hf6)
              go_roundw
              case rel => exact ⟨j + 1, by omega, by omega, by go_num, HL6⟩
              case measure => simp [intOf]; omega
          · obtain ⟨hb, ⟨F3, G3, s3, r3, ht, hs3, hF3, hG3⟩, hbf⟩ := HI.out
            have HT := hide ht
            have HS3 := hide hs3
            have HF3 := hide hF3
            have HB := hide hb
            have HBF3 := hide hbf
            clear hb ht hs3 hF3 hG3 hbf HI
            by_cases hlt4 : j < n2
            · have i60 : ¬ (j : Int) < 50 := by omega
              obtain ⟨S2, hS2⟩ : ∃ S2, lastS (maskT 0) s3.S s3.L = S2 := ⟨_, rfl⟩
              have HS2 := hide hS2
              go_upto_region 29 with (go_at_call 10; (refine (sec_crash HT.out.sec 0 (by omega) (by omega)).mono ?_); rintro e w6 ⟨rfl, h6, hf6⟩; rw [HS2.out] at h6; have H3 := hide (show L3 w b gB F3 S2 V (200 + 2 * j) w6 from ⟨HB.out.trans (hf6.below HB.out.size (fun x hx => (HF3.out x hx).1)), h6, HVV.out ▸ (HBF3.out.apart hf6 (fun h => (HF3.out _ h).2 rfl))⟩); clear h6 hf6)
              have HV := hide (show ∀ q : Nat, q < 6 → S2 q = V q from fun q _ => by rw [← hS2, ← HVV.out, HSV.out.1, last_none, HS3.out]; rfl)
              clear hS2 HS2
              go_loopw [16] (fun i wr => ∃ q : Nat, q ≤ 6 ∧ i = .int .i64 q ∧ Hid (L3 w b gB F3 S2 V (200 + 2 * j) wr)) (fun i _ => 6 - (intOf i).toNat)
              case atStart => exact ⟨0, by omega, rfl, H3⟩
              case round =>
                obtain ⟨q, hq, rfl, HI⟩ := hrel
                by_cases hlt : q < 6
                · have i6 : (q : Int) < 6 := by omega
                  have HRS := hide (sec_read HI.out.2.1 q)
                  rw [show nowC S2 [] q = V q from HV.out q hlt, show faultE false 6 (q : Int) = 0 by unfold faultE; rw [if_neg (by simp), if_neg (by omega), if_neg (by omega)]] at HRS
                  obtain ⟨cN, hcN⟩ : ∃ cN, V q = cN := ⟨_, rfl⟩
                  have HCN := hide hcN
                  rw [hcN] at HRS
                  clear hcN
                  go_wp2_with (go_at_call 12; (refine HRS.out.mono ?_); rintro e w6 ⟨v6, rfl, h60, -, hb6⟩; have hfil := h60 rfl; have v1 := fun M => fil_string (w := w6.drewN M) hfil; obtain ⟨hc6, g6, cap6, cs6, rfl, -⟩ := hfil; obtain ⟨csB, hkB, -, h2B⟩ := HI.out.2.2.below hb6; have kB : w6.cell? ⟨gB, q, none⟩ = some (.string (strC cN)) := by { rw [hkB.cell, ← HCN.out]; exact h2B q hlt hlt }; have zB := hkB.lt; have HI6 := hide (show L3 w b gB F3 S2 V (200 + 2 * j) w6 from ⟨HI.out.1.trans (hb6.mono HI.out.1.size), HI.out.2.1.below hb6, HI.out.2.2.below hb6⟩); have HLB := hide (show (csB : Array Value) = csB from rfl); clear h60 hc6 hb6 hkB h2B HLB)
                  go_quiet (fail)
                  go_wp2
                  go_roundw
                  case rel => exact ⟨q + 1, by omega, by go_num, hide ⟨below_drewN HI6.out.1 _, HI6.out.2.1.below (below_drewN (Below.refl _ _) _), HI6.out.2.2.below (below_drewN (Below.refl _ _) _)⟩⟩
                  case measure => simp [intOf]; omega
                · obtain rfl : q = 6 := by omega
                  go_wp2_with (go_at_call 21; (refine (sec_unsure HI.out.2.1).mono ?_); rintro e w7 ⟨v, us, us', rfl, hc, hL, -, hb7⟩; obtain rfl : us' = [] := by { have h1 := congrArg List.length hc.same; have h2 := congrArg List.length hL; simp at h1 h2; rw [h2] at h1; simpa using h1 }; obtain ⟨A1, c1, rfl⟩ := row_form hc.row; have HB7 := hide (HI.out.1.trans (hb7.mono HI.out.1.size)); clear hc hL hb7)
                  go_ret
                  exact ⟨by simp, HB7.out⟩
            · obtain ⟨S2, hS2⟩ : ∃ S2, lastS (maskT 0) s3.S s3.L = S2 := ⟨_, rfl⟩
              have HS2 := hide hS2
              go_upto_region 29 with (go_at_call 10; (refine (sec_crash HT.out.sec 0 (by omega) (by omega)).mono ?_); rintro e w6 ⟨rfl, h6, hf6⟩; rw [HS2.out] at h6; have H3 := hide (show L3 w b gB F3 S2 V (200 + 2 * j) w6 from ⟨HB.out.trans (hf6.below HB.out.size (fun x hx => (HF3.out x hx).1)), h6, HVV.out ▸ (HBF3.out.apart hf6 (fun h => (HF3.out _ h).2 rfl))⟩); clear h6 hf6)
              have HV := hide (show ∀ q : Nat, q < 6 → S2 q = V q from fun q _ => by rw [← hS2, ← HVV.out, HSV.out.1, last_none, HS3.out]; rfl)
              clear hS2 HS2
              go_loopw [16] (fun i wr => ∃ q : Nat, q ≤ 6 ∧ i = .int .i64 q ∧ Hid (L3 w b gB F3 S2 V (200 + 2 * j) wr)) (fun i _ => 6 - (intOf i).toNat)
              case atStart => exact ⟨0, by omega, rfl, H3⟩
              case round =>
                obtain ⟨q, hq, rfl, HI⟩ := hrel
                by_cases hlt : q < 6
                · have i6 : (q : Int) < 6 := by omega
                  have HRS := hide (sec_read HI.out.2.1 q)
                  rw [show nowC S2 [] q = V q from HV.out q hlt, show faultE false 6 (q : Int) = 0 by unfold faultE; rw [if_neg (by simp), if_neg (by omega), if_neg (by omega)]] at HRS
                  obtain ⟨cN, hcN⟩ : ∃ cN, V q = cN := ⟨_, rfl⟩
                  have HCN := hide hcN
                  rw [hcN] at HRS
                  clear hcN
                  go_wp2_with (go_at_call 12; (refine HRS.out.mono ?_); rintro e w6 ⟨v6, rfl, h60, -, hb6⟩; have hfil := h60 rfl; have v1 := fun M => fil_string (w := w6.drewN M) hfil; obtain ⟨hc6, g6, cap6, cs6, rfl, -⟩ := hfil; obtain ⟨csB, hkB, -, h2B⟩ := HI.out.2.2.below hb6; have kB : w6.cell? ⟨gB, q, none⟩ = some (.string (strC cN)) := by { rw [hkB.cell, ← HCN.out]; exact h2B q hlt hlt }; have zB := hkB.lt; have HI6 := hide (show L3 w b gB F3 S2 V (200 + 2 * j) w6 from ⟨HI.out.1.trans (hb6.mono HI.out.1.size), HI.out.2.1.below hb6, HI.out.2.2.below hb6⟩); have HLB := hide (show (csB : Array Value) = csB from rfl); clear h60 hc6 hb6 hkB h2B HLB)
                  go_quiet (fail)
                  go_wp2
                  go_roundw
                  case rel => exact ⟨q + 1, by omega, by go_num, hide ⟨below_drewN HI6.out.1 _, HI6.out.2.1.below (below_drewN (Below.refl _ _) _), HI6.out.2.2.below (below_drewN (Below.refl _ _) _)⟩⟩
                  case measure => simp [intOf]; omega
                · obtain rfl : q = 6 := by omega
                  go_wp2_with (go_at_call 21; (refine (sec_unsure HI.out.2.1).mono ?_); rintro e w7 ⟨v, us, us', rfl, hc, hL, -, hb7⟩; obtain rfl : us' = [] := by { have h1 := congrArg List.length hc.same; have h2 := congrArg List.length hL; simp at h1 h2; rw [h2] at h1; simpa using h1 }; obtain ⟨A1, c1, rfl⟩ := row_form hc.row; have HB7 := hide (HI.out.1.trans (hb7.mono HI.out.1.size)); clear hc hL hb7)
                  go_ret
                  exact ⟨by simp, HB7.out⟩
end Go.Proofs.Ythlgkhnkcjihiaa
