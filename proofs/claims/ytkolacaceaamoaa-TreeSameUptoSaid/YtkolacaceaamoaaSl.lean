/- The law TreeSame: from its first Put on, walked. -/
import Derived.Test.YtkolacaceaamoaaSk
/- The law TreeSame: from its first Put on, walked. -/
namespace Go.Proofs.Ytkolacaceaamoaa
set_option linter.unusedSimpArgs false
set_option linter.unusedVariables false
open Go.RowKit
open Go.Lib (compareBytes)
theorem fitsP.pl {put : List It} (h : fitsP put []) : ∀ x ∈ put, x.k.length ≤ 1073741824 ∧ x.v.length ≤ 1073741824 := fun x hx => by
  have h1 := h.1 x hx
  have h2 := h.2.1 x.k (by unfold keysOf; rw [List.append_nil]; exact List.mem_map_of_mem (f := It.k) hx)
  omega
section
variable {w w3 w4 wr : World} {c : Pct} {tb : Nat} {A : Option Addr} {n cc : Nat} {pl put : List It} {m : Pst} {v : Value}
theorem same_put0 (hB : SmB w w3 w4 c tb A n cc pl m wr) (hN : m.N = 0) (hperm : pl.Perm put) (hfit : fitsP put []) (hlen : put.length = n) (hn : n ≤ 80) (h1 : SLk 2 ItR wr (fun j => j < wr.heap.size) v put) :
    Calls Try.prog 16 #[.pointer (some ⟨tb, 0, none⟩), .int .i64 0, v, .slice none 0 0] wr fun e w' => ∃ (ra : Nat) (ea : Int) (m' : Pst), e = .returned (.tuple #[.int .i64 (ra : Int), .int .i64 ea]) ∧ SmB w w3 w4 c tb A n cc pl m' w' ∧ m'.N ≤ 6000000 ∧ SmA c n pl ra ea m' := by
  have h := tput_many (r := 0) (k := 0) (is := []) hB.nl.pg hB.nl.tr hB.nl.nt h1 (SLk.nil (R := BsR) (k := 1) wr _) (by simp; omega) hfit.pl (by simp) (by omega) ⟨List.Pairwise.nil, .inl ⟨rfl, rfl⟩⟩ (by omega)
  refine Calls.mono h ?_
  rintro e w' ⟨l, hl, hs, ⟨hok, m', T, hp, hf, hn', hg, hN', ⟨r, he, ht⟩ | he⟩ | ⟨hok, -⟩⟩
  · have hm := merge_perm hl
    exact ⟨r, 0, m', he, hB.put hp hf hn', by omega, .inr ⟨rfl, _, by rw [hm.length_eq, hlen], ht, fun key => by rw [valOf_perm (hm.trans hperm.symm) (rise_nodup ht.1)]⟩⟩
  · exact ⟨0, 16, m', he, hB.put hp hf hn', by omega, .inl rfl⟩
  · exact absurd ((fits_ok hl hs).2 hfit) hok
theorem same_put1 {ra : Nat} {ea : Int} {i rb : Nat} {lb : List It} {x : It} (hB : SmB w w3 w4 c tb A n cc pl m wr) (hN : m.N ≤ 6000000 * (i + 1)) (hA : SmA c n pl ra ea m) (hT : Tre1 c m i rb lb) (hv : ∀ key, valOf lb key = valOf (pl.take i) key) (hi : i < pl.length) (hx : pl[i] = x) (hn : n ≤ 80) (hin : i < n) (hfit : fitsP pl []) (h1 : SLk 2 ItR wr (fun j => j < wr.heap.size) v [x]) :
    Calls Try.prog 16 #[.pointer (some ⟨tb, 0, none⟩), .int .i64 (rb : Int), v, .slice none 0 0] wr fun e w' => ∃ (rc : Nat) (f : Int), e = .returned (.tuple #[.int .i64 (rc : Int), .int .i64 f]) ∧ ((f = 0 ∧ SmL w w3 w4 c tb A n cc pl ra ea (i + 1) rc w') ∨ (f = 16 ∧ Below w.heap.size w w')) := by
  have hxm : x ∈ pl := hx ▸ List.getElem_mem hi
  have h := tput_one hB.nl.pg hB.nl.tr hB.nl.nt h1 (SLk.nil (R := BsR) (k := 1) wr _) (hfit.pl x hxm) (by omega) hT (by omega)
  refine Calls.mono h ?_
  rintro e w' ⟨l, hl, hs, ⟨hok, m', T, hp, hf, hn', hg, hN', ⟨r, he, ht⟩ | he⟩ | ⟨hok, -⟩⟩
  · refine ⟨r, 0, he, .inl ⟨rfl, m', hB.put hp hf hn', by omega, hA.keep hg, _, ht, fun key => ?_⟩⟩
    obtain ⟨b, s, -, ht0⟩ := hT
    rw [one_list hl, List.take_succ_eq_append_getElem hi, hx]
    refine merge_snoc ht0.1 hv (fun y hy e => ?_) key
    have hnd := hfit.nodup
    have h2 : (pl.take (i + 1)).map It.k |>.Nodup := by
      rw [List.map_take]
      exact hnd.sublist (List.take_sublist _ _)
    rw [List.take_succ_eq_append_getElem hi, hx, List.map_append, List.nodup_append] at h2
    exact h2.2.2 y.k (List.mem_map_of_mem (f := It.k) hy) x.k (by simp) e
  · exact ⟨0, 16, he, .inr ⟨rfl, (hB.put hp hf hn').nl.bel⟩⟩
  · exact absurd ((fits_ok hl hs).2 (hfit.one hxm)) hok
end
section
variable {A1 A : Option Addr} {n1 c1 tb cc : Nat} {c : Pct} {w w3 w4 wr : World} {pl put : List It} {m : Pst}
set_option maxRecDepth 100000 in
set_option maxHeartbeats 8000000 in
theorem same_rest (hB : SmB w w3 w4 c tb A n1 cc pl m wr) (hN : m.N = 0) (hperm : pl.Perm put) (hfit : fitsP put []) (hlen : put.length = n1) (hn : n1 ≤ 80) (h1 : SLk 2 ItR w (fun j => j < w.heap.size) (.slice A1 n1 c1) put)
    (u1 u2 u3 u4 u6 u8 u9 u10 u11 u12 u13 u14 u15 u16 u17 u18 u19 u20 u21 u22 u23 u24 u25 u26 u27 u28 u29 u30 u31 u32 u33 u34 u35 u36 u37 u38 u39 u40 u41 u42 u43 u44 u45 u46 u47 u48 u49 u50 u51 u52 u53 u54 u55 u56 u57 u58 u59 u60 u61 u62 u63 u64 u65 u66 u67 u68 u69 u70 u71 u72 u73 u74 u75 u76 u77 u78 u79 u80 u81 u82 u83 u84 u85 u86 u87 u88 u89 u90 u91 u92 u93 u94 u95 u96 u97 u98 u99 u100 u101 u102 u103 u104 u105 u106 u107 u108 u109 u110 u111 u112 u113 u114 u115 u116 u117 u118 u119 u120 u121 u122 u123 u124 u125 u126 u127 u128 u129 u130 u131 u132 u133 u134 u135 u136 u137 u138 u139 u140 u141 u142 u143 u144 u145 u146 u147 u148 u149 u150 u151 u152 u153 : Value) : Code.wp Try.prog (BT 5) (bodyPost Try.prog Try.f5 fun e w' => e = .returned (.bool true) ∧ Below w.heap.size w w') { tmps := #[.slice A1 n1 c1, u1, u2, u3, u4, .pointer (some ⟨tb, 0, none⟩), u6, .slice A n1 cc, u8, u9, u10, u11, u12, u13, u14, u15, u16, u17, u18, u19, u20, u21, u22, u23, u24, u25, u26, u27, u28, u29, u30, u31, u32, u33, u34, u35, u36, u37, u38, u39, u40, u41, u42, u43, u44, u45, u46, u47, u48, u49, u50, u51, u52, u53, u54, u55, u56, u57, u58, u59, u60, u61, u62, u63, u64, u65, u66, u67, u68, u69, u70, u71, u72, u73, u74, u75, u76, u77, u78, u79, u80, u81, u82, u83, u84, u85, u86, u87, u88, u89, u90, u91, u92, u93, u94, u95, u96, u97, u98, u99, u100, u101, u102, u103, u104, u105, u106, u107, u108, u109, u110, u111, u112, u113, u114, u115, u116, u117, u118, u119, u120, u121, u122, u123, u124, u125, u126, u127, u128, u129, u130, u131, u132, u133, u134, u135, u136, u137, u138, u139, u140, u141, u142, u143, u144, u145, u146, u147, u148, u149, u150, u151, u152, u153], defers := [] } wr := by
  have hfp : fitsP pl [] := ⟨fun x hx => hfit.1 x (hperm.mem_iff.1 hx), by
    unfold keysOf
    rw [List.append_nil]
    have h := hfit.2
    unfold keysOf at h
    rw [List.append_nil] at h
    exact ⟨fun k hk => h.1 k ((hperm.map It.k).mem_iff.1 hk), (hperm.map It.k).nodup_iff.2 h.2⟩⟩
  have HFP := hide hfp
  have HOW := hide (lown_any (w := wr) (F := fun j => j < wr.heap.size) (h1.keep (by omega) @ItR.keep (fun j hj _ => hB.nl.bel.block j hj) (fun j hj _ => Nat.lt_of_lt_of_le hj hB.nl.bel.size)) (by omega) hfit.pl)
  have HPU := hide (fun (w5 : World) (v : Value) (hb : Below wr.heap.size wr w5) (hs : SLk 2 ItR w5 (fun j => wr.heap.size ≤ j ∧ j < w5.heap.size) v put) => same_put0 (hB.below hb) hN hperm hfit hlen hn (hs.keep (by omega) @ItR.keep (fun _ _ _ => rfl) (fun j hj _ => hj.2)))
  clear hB hN hperm hfit h1 hlen hfp
  rw [show BT 5 = Code.seq (CT 5) (Code.seq (CT 6) (Code.seq (CT 7) (BT 8))) from rfl]
  conv => arg 2; arg 1; whnf
  conv => arg 2; arg 2; arg 1; whnf
  conv => arg 2; arg 2; arg 2; arg 1; whnf
  go_upto_region 13 with (first | (go_at_call 15; (refine HOW.out.mono ?_); rintro e w5 ⟨v5, rfl, hsl, hb⟩; have HB5 := hide hb; have HS5 := hide hsl; clear hsl hb) | (go_at_call 16; (refine (HPU.out w5 v5 HB5.out HS5.out).mono ?_); rintro e w6 ⟨ra, ea, m6, rfl, hb6, hn6, ha6⟩; have HST0 := hide (show SmL w w3 w4 c tb A n1 cc pl ra ea 0 0 w6 from ⟨m6, hb6, by omega, ha6, [], ⟨0, 0, by omega, List.Pairwise.nil, .inl ⟨rfl, rfl⟩⟩, fun key => rfl⟩); clear hb6 hn6 ha6))
  clear HPU HOW HB5 HS5
  go_wp2_with fail
  go_loopw [14, 15, 16] (fun v14 v15 v16 wr => ∃ i rb : Nat, v15 = .int .i64 (i : Int) ∧ v14 = .int .i64 (rb : Int) ∧ i ≤ n1 ∧ Hid (SmL w w3 w4 c tb A n1 cc pl ra ea i rb wr)) (fun _ v15 _ _ => n1 - (intOf v15).toNat)
  case atStart => exact ⟨0, 0, by go_num, by go_num, by omega, HST0⟩
  case round =>
    clear HST0
    obtain ⟨i, rb, rfl, rfl, hi, HST⟩ := hrel
    by_cases hlt : i < n1
    · obtain ⟨m2, hB, hN, hA, lb, hT, hv⟩ := HST.out
      obtain ⟨hpl, hat⟩ := hB.at_
      obtain ⟨g, d, rfl, hg1, hg2, hd, hs⟩ := hat (by omega)
      obtain ⟨hj', hsk⟩ := hs.slk hlt
      obtain ⟨-, -, -, hcc, hcm, -⟩ := hs.at_ hlt
      have hcm2 := hcm
      unfold maxLen at hcm2
      obtain ⟨x, hx⟩ : ∃ x, d[i].1 = x := ⟨_, rfl⟩
      rw [hx] at hsk
      have hip : i < pl.length := by omega
      have hxp : pl[i] = x := by
        subst hd
        rw [List.getElem_map]
        exact hx
      have HOW := hide (lown_any (w := wr) (F := fun j => j < wr.heap.size) (hsk.keep (by omega) @ItR.keep (fun _ _ _ => rfl) (fun j hj hlt => hlt)) (by simp) (by
        intro y hy
        rw [List.mem_singleton.1 hy]
        exact HFP.out.pl x (hxp ▸ List.getElem_mem hip)))
      have HPU := hide (fun (w5 : World) (v : Value) (hb : Below wr.heap.size wr w5) (hs : SLk 2 ItR w5 (fun j => wr.heap.size ≤ j ∧ j < w5.heap.size) v [x]) => same_put1 (hB.below hb) hN hA hT hv hip hxp hn hlt HFP.out (hs.keep (by omega) @ItR.keep (fun _ _ _ => rfl) (fun j hj _ => hj.2)))
      clear hB hN hA hT hv hpl hat hd hs hj' hsk hx hip hxp hcm HST
      have hwi : IntKind.i64.wrap ((i : Int) + 1) = ((i + 1 : Nat) : Int) := by rw [IntKind.wrap_i64]; omega
      have hc1 : i + 1 ≤ cc := by omega
      go_upto_region 18 with fail
      go_upto_region 19 with (first | (go_at_call 15; (refine HOW.out.mono ?_); rintro e w5 ⟨v5, rfl, hsl, hb⟩; have HB5 := hide hb; have HS5 := hide hsl; clear hsl hb) | (go_at_call 16; (refine (HPU.out w5 v5 HB5.out HS5.out).mono ?_); rintro e w6 ⟨rc, f, rfl, hcase⟩; have HCA := hide hcase; clear hcase))
      clear HPU HOW HB5 HS5
      obtain ⟨rfl, hsl⟩ | ⟨rfl, hbl⟩ := HCA.out
      · have HSL := hide hsl
        clear hsl HCA
        go_wp2_with fail
        refine ⟨⟨i + 1, rc, by push_cast; rfl, rfl, by omega, HSL⟩, ?_⟩
        simp [intOf]
        omega
      · have HBL := hide hbl
        clear hbl HCA
        go_wp2_with fail
        go_ret
        exact ⟨rfl, HBL.out⟩
    · obtain rfl : i = n1 := by omega
      go_wp2_with fail
      exact same_end (HST.out.end_ hn) hn _ _ _ _ _ _ _ _ _ _ _ _ _ _ _ _ _ _ _ _ _ _ _ _ _ _ _ _ _ _ _ _ _ _ _ _ _ _ _ _ _ _ _ _ _ _ _ _ _ _ _ _ _ _ _ _ _ _ _ _ _ _ _ _ _ _ _ _ _ _ _ _ _ _ _ _ _ _ _ _ _ _ _ _ _ _ _ _ _ _ _ _ _ _ _ _ _ _ _ _ _ _ _ _ _ _ _ _ _ _ _ _ _ _ _ _ _ _ _ _ _ _ _ _ _ _ _ _ _ _ _ _ _ _ _ _ _ _ _ _ _ _ _ _ _ _ _ _ _
end
end Go.Proofs.Ytkolacaceaamoaa
/- The law TreeSame, walked whole. -/
namespace Go.Proofs.Ytkolacaceaamoaa
set_option linter.unusedSimpArgs false
set_option linter.unusedVariables false
open Go.RowKit
open Go.Lib (compareBytes)
set_option maxRecDepth 100000 in
set_option maxHeartbeats 8000000 in
theorem treeSame_any {w : World} {F : Nat → Prop} {vl vo : Value} {put : List It} {ord : Cn} (h1 : SLk 2 ItR w F vl put) (h2 : BS w F vo ord) (hlen : put.length ≤ 2000000) (hp : ∀ x ∈ put, x.k.length ≤ 1073741824 ∧ x.v.length ≤ 1073741824) :
    Calls Try.prog 5 #[vl, vo] w fun e w' => e = .returned (.bool true) ∧ Below w.heap.size w w' := by
  have H1 := hide (show SLk 2 ItR w (fun j => j < w.heap.size) vl put from h1.keep (by omega) @ItR.keep (fun _ _ _ => rfl) (fun j _ hj => hj))
  have H2 := hide (show BSw w vo ord from h2.all)
  have HP := hide hp
  obtain ⟨A1, c1, xs1, rfl, hc1, -⟩ := h1
  obtain ⟨Ao, co, rfl, hco, -⟩ := h2
  obtain ⟨ol, hol⟩ : ∃ q, ord.length = q := ⟨_, rfl⟩
  have HOL := hide hol
  obtain ⟨n1, hn1⟩ : ∃ n, put.length = n := ⟨_, rfl⟩
  have HN1 := hide hn1
  rw [hol] at H2 hco ⊢
  rw [hn1] at H1 hc1 hlen ⊢
  have hco1 := hco.1
  have hco2 := hco.2
  unfold maxLen at hco2
  have hfr := fresh_any w 3000 (by omega) (by omega)
  rw [show ((3000 : Nat) : Int) = 3000 from rfl] at hfr
  have HFR := hide hfr
  clear hfr hol hn1 hp hco hc1
  go_enter Try.func5, Try.ntmps5
  refine id (show Code.wp Try.prog (BT 0) _ _ _ from ?_)
  rw [show BT 0 = Code.seq (CT 0) (Code.seq (CT 1) (Code.seq (CT 2) (Code.seq (CT 3) (Code.seq (CT 4) (BT 5))))) from rfl]
  conv => arg 2; arg 1; whnf
  conv => arg 2; arg 2; arg 1; whnf
  conv => arg 2; arg 2; arg 2; arg 1; whnf
  conv => arg 2; arg 2; arg 2; arg 2; arg 1; whnf
  conv => arg 2; arg 2; arg 2; arg 2; arg 2; arg 1; whnf
  go_upto_region 2 with (go_at_call 7; (refine HFR.out.mono ?_); rintro e w1 ⟨tb, c, m, rfl, hf⟩; have HF1 := hide hf; clear hf)
  have HAN := hide (answers17 w1)
  have HAN2 := hide (fun w9 => answers17 w9)
  by_cases hbig : 80 < n1
  · have db : decide ((80 : Int) < (n1 : Int)) = true := by simp; omega
    go_upto_region 3 with (go_at_call 8; (refine HAN.out.mono ?_); rintro e w2 ⟨rfl, hb⟩; have HB2 := hide hb; clear hb)
    go_wp2_with (go_at_call 8; (refine (HAN2.out w2).mono ?_); rintro e w3 ⟨rfl, hb⟩; have HB3 := hide hb; clear hb)
    go_ret
    have hs := HF1.out.bel.size
    exact ⟨rfl, HF1.out.bel.trans ((HB2.out.trans (HB3.out.mono HB2.out.size)).mono hs)⟩
  · have db : decide ((80 : Int) < (n1 : Int)) = false := by simp; omega
    have hn80 : n1 ≤ 80 := by omega
    have HFI := hide (fun (w2 : World) (hb : Below w1.heap.size w1 w2) => fits17 (w := w2) (F := fun j => j < w2.heap.size) (K := 0) (vg := .slice none 0 0) (put := put) (gone := []) (H1.out.keep (by omega) @ItR.keep (fun j hj _ => (HF1.out.bel.trans (hb.mono HF1.out.bel.size)).block j hj) (fun j hj _ => Nat.lt_of_lt_of_le hj (HF1.out.bel.trans (hb.mono HF1.out.bel.size)).size)) (SLk.nil _ _) (by rw [HN1.out]; omega) (by simp))
    go_upto_region 3 with (first | (go_at_call 8; (refine HAN.out.mono ?_); rintro e w2 ⟨rfl, hb⟩; have HB2 := hide hb; clear hb) | (go_at_call 14; (refine (HFI.out w2 HB2.out).mono ?_); rintro e w3 ⟨b, rfl, hfit, hb⟩; have HB3 := hide hb; have HFT := hide hfit; clear hb hfit; cases b))
    · go_wp2_with (go_at_call 8; (refine (HAN2.out w3).mono ?_); rintro e w4 ⟨rfl, hb⟩; have HB4 := hide hb; clear hb)
      go_ret
      exact ⟨rfl, HF1.out.bel.trans ((HB2.out.trans ((HB3.out.trans (HB4.out.mono HB3.out.size)).mono HB2.out.size)).mono HF1.out.bel.size)⟩
    · have HN3 := hide ((HF1.out.nls.below HB2.out).below HB3.out)
      have hpok : fitsP put [] := by simpa using HFT.out
      have HPK := hide hpok
      clear hpok
      have HOW := hide (lown_gr (w := w3) (F := fun j => j < w3.heap.size) (H1.out.keep (by omega) @ItR.keep (fun j hj _ => HN3.out.bel.block j hj) (fun j hj _ => Nat.lt_of_lt_of_le hj HN3.out.bel.size)) (by rw [HN1.out]; omega) HP.out)
      go_upto_region 5 with (go_at_call 15; (refine HOW.out.mono ?_); rintro e w4 ⟨v7, rfl, hgr⟩; have HGR := hide hgr; clear hgr)
      obtain ⟨A, cc, ev7, hncc⟩ : ∃ A cc, v7 = .slice A n1 cc ∧ n1 ≤ cc := by
        obtain ⟨xs, hx, _⟩ := HGR.out.row
        obtain ⟨A, cc, e, hcc⟩ := own_slice hx
        rw [HN1.out] at e hcc
        exact ⟨A, cc, e, hcc⟩
      subst ev7
      have HAG := hide (show ∀ g, A = some ⟨g, 0, none⟩ → w3.heap.size ≤ g ∧ g < w4.heap.size from fun g e => by
        obtain ⟨xs, hx, _⟩ := HGR.out.row
        exact hx.lt g (by rw [e]; rfl))
      have HST0 := hide (show Below w3.heap.size w3 w4 ∧ AtQ w3 w4 w4 A n1 cc put from ⟨HGR.out.bel, HN1.out.symm, fun h0 => by
        obtain ⟨g, cap, d, e, ed, hs⟩ := AtS.of HGR.out (by rw [HN1.out]; exact h0)
        rw [HN1.out] at e hs
        injection e with e1 _ e3
        subst e1 e3
        exact ⟨g, d, rfl, by rw [ed], hs⟩⟩)
      have HW43 := hide HGR.out.bel
      go_wp2_with fail
      go_loopw [8] (fun v8 wr => ∃ i : Nat, v8 = .int .i64 (i : Int) ∧ i ≤ ol ∧ i ≤ 80 ∧ Hid (w4.heap.size ≤ wr.heap.size ∧ Below w3.heap.size w3 wr ∧ AtQ w3 w4 wr A n1 cc put)) (fun v8 _ => ol - (intOf v8).toNat)
      case atStart => exact ⟨0, by go_num, by omega, by omega, hide ⟨Nat.le_refl _, HST0.out⟩⟩
      case round =>
        clear HST0 HGR HOW
        obtain ⟨i, rfl, hio, hi8, HST⟩ := hrel
        by_cases hgo : i < ol ∧ i < 80 ∧ 0 < n1
        · obtain ⟨hlt1, hlt2, hn0⟩ := hgo
          have d2 : decide ((i : Int) < 80) = true := by simp; omega
          have d3 : decide ((0 : Int) < (n1 : Int)) = true := by simp; omega
          obtain ⟨hsz, hbel, -, hq⟩ := HST.out
          obtain ⟨g, d, rfl, hperm, hs⟩ := hq hn0
          obtain ⟨ob, hob⟩ : ∃ b : UInt8, ord[i]'(by rw [HOL.out]; exact hlt1) = b := ⟨_, rfl⟩
          have hoc : ∃ bo oo, Ao = some ⟨bo, oo, none⟩ ∧ bo < wr.heap.size ∧ wr.cell? ⟨bo, oo + i, none⟩ = some (.int .u8 (ob.toNat : Int)) := by
            obtain ⟨A', c', e, _, hr⟩ := H2.out
            injection e with e1 e2 e3
            subst e1
            obtain ⟨ad, e4, hb, hc⟩ := hr.2 (by omega)
            have h0 := hc 0 _ (by rw [cs8_get, List.getElem?_eq_getElem (by omega)]; rfl)
            have hz : ad.add 0 = ad := by unfold Addr.add; rw [if_pos rfl]
            rw [hz] at h0
            have hsp := spot_none h0
            obtain ⟨bo, oo, sp⟩ := ad
            cases hsp
            have hi' := hc i _ (by rw [cs8_get, List.getElem?_eq_getElem (by omega)]; rfl)
            rw [← add_plain ⟨bo, oo, none⟩ i rfl, hob] at hi'
            have hbw := HN3.out.bel.trans (hbel.mono HN3.out.bel.size)
            exact ⟨bo, oo, e4, Nat.lt_of_lt_of_le hb hbw.size, (hbw.cell (p := ⟨bo, oo + i, none⟩) hb).trans hi'⟩
          obtain ⟨bo, oo, rfl, zo, ko⟩ := hoc
          obtain ⟨jj, hjj⟩ : ∃ q, i % n1 = q := ⟨_, rfl⟩
          obtain ⟨kk, hkk⟩ : ∃ q, ob.toNat % n1 = q := ⟨_, rfl⟩
          have hj : jj < n1 := hjj ▸ Nat.mod_lt _ hn0
          have hk : kk < n1 := hkk ▸ Nat.mod_lt _ hn0
          have e1 : Int.tmod (i : Int) (n1 : Int) = (jj : Int) := by rw [tmod_nat, hjj]
          have hob256 : ob.toNat < 256 := ob.toNat_lt
          have e2 : Int.tmod (wrap64 (ob.toNat : Int)) (n1 : Int) = (kk : Int) := by
            rw [show wrap64 (ob.toNat : Int) = (ob.toNat : Int) from by unfold wrap64; omega, tmod_nat, hkk]
          have dn0 : ((n1 : Int) == 0) = false := by simp; omega
          obtain ⟨hj', g1, g2, g3, g4, cj1, cj2, fz⟩ := hs.at_ hj
          obtain ⟨hk', -, -, -, -, ck1, ck2, -⟩ := hs.at_ hk
          obtain ⟨ej, hej⟩ : ∃ e, d[jj] = e := ⟨_, rfl⟩
          obtain ⟨ek, hek⟩ : ∃ e, d[kk] = e := ⟨_, rfl⟩
          have hitj := hs.it _ (List.getElem_mem hj')
          have hitk := hs.it _ (List.getElem_mem hk')
          have hsw := swap_perm d jj kk hj' hk'
          rw [hej] at cj1 cj2 hitj hsw
          rw [hek] at ck1 ck2 hitk hsw
          obtain ⟨ij, vj1, vj2⟩ := ej
          obtain ⟨ik, vk1, vk2⟩ := ek
          simp only at cj1 cj2 ck1 ck2
          obtain ⟨Aj1, cj1', Aj2, cj2', ejv1, ejv2⟩ := ItR.form (v1 := vj1) (v2 := vj2) hitj
          obtain ⟨Ak1, ck1', Ak2, ck2', ekv1, ekv2⟩ := ItR.form (v1 := vk1) (v2 := vk2) hitk
          obtain ⟨lj1, hlj1⟩ : ∃ q, ij.k.length = q := ⟨_, rfl⟩
          obtain ⟨lj2, hlj2⟩ : ∃ q, ij.v.length = q := ⟨_, rfl⟩
          obtain ⟨lk1, hlk1⟩ : ∃ q, ik.k.length = q := ⟨_, rfl⟩
          obtain ⟨lk2, hlk2⟩ : ∃ q, ik.v.length = q := ⟨_, rfl⟩
          simp only at ejv1 ejv2 ekv1 ekv2
          rw [hlj1] at ejv1
          rw [hlj2] at ejv2
          rw [hlk1] at ekv1
          rw [hlk2] at ekv2
          subst ejv1 ejv2 ekv1 ekv2
          have HSS := hide hs
          have HITJ := hide hitj
          have HITK := hide hitk
          have HSW := hide (hsw.map Prod.fst)
          have HPERM := hide hperm
          have HBEL := hide hbel
          clear hs hitj hitk hsw hperm hbel hej hek hj' hk' hjj hkk hob hlj1 hlj2 hlk1 hlk2 HST hob256
          have hf : ∀ i, wr.frozen? ⟨g, i, none⟩ = false := fz
          clear fz
          go_upto_region 8 with fail
          go_quiet (fail)
          clear dn0 e1 e2 ko zo d2 d3
          obtain ⟨wq, hwq⟩ : ∃ q, wr.drewN nq = q := ⟨_, rfl⟩
          have hqh : wq.heap = wr.heap := by rw [← hwq]; rfl
          have hqb : Below wr.heap.size wr wq := by rw [← hwq]; exact ⟨rfl, rfl, rfl, Nat.le_refl _, fun _ _ => rfl⟩
          rw [hwq]
          have HQB := hide hqb
          have cj1 := (hqb.cell (p := ⟨g, jj * 2, none⟩) g2).trans cj1
          have cj2 := (hqb.cell (p := ⟨g, jj * 2 + 1, none⟩) g2).trans cj2
          have ck1 := (hqb.cell (p := ⟨g, kk * 2, none⟩) g2).trans ck1
          have ck2 := (hqb.cell (p := ⟨g, kk * 2 + 1, none⟩) g2).trans ck2
          have hf : ∀ i, wq.frozen? ⟨g, i, none⟩ = false := fun i => by rw [hqb.frozen g2]; exact hf i
          have g2 : g < wq.heap.size := by rw [hqh]; exact g2
          clear hwq hqh hqb
          have hs1 := HSS.out.keep (w' := wq) (F' := fun j => w3.heap.size ≤ j ∧ j < w4.heap.size ∧ j ≠ g) (HQB.out.block g (HSS.out.at_ hj).2.2.1) (fun q _ h => HQB.out.block q h) (fun q h _ => h) HSS.out.ng
          have HS1 := hide hs1
          clear hs1
          go_upto_region 10 with fail
          have hal := al_below wq (Obj.cells #[Value.slice Aj1 lj1 cj1', Value.slice Aj2 lj2 cj2'] TIt)
          have hb0 := Blk.new wq TIt #[Value.slice Aj1 lj1 cj1', Value.slice Aj2 lj2 cj2']
          have hs2 := HS1.out.keep (w' := wq.alloc (.cells #[Value.slice Aj1 lj1 cj1', Value.slice Aj2 lj2 cj2'] TIt)) (F' := fun j => w3.heap.size ≤ j ∧ j < w4.heap.size ∧ j ≠ g) (hal.block g g2) (fun q _ h => hal.block q h) (fun q h _ => h) HS1.out.ng
          have hwx0 : Below w3.heap.size w3 (wq.alloc (.cells #[Value.slice Aj1 lj1 cj1', Value.slice Aj2 lj2 cj2'] TIt)) := HBEL.out.trans ((HQB.out.trans (hal.mono HQB.out.size)).mono HBEL.out.size)
          have hwx1 : wr.heap.size ≤ (wq.alloc (.cells #[Value.slice Aj1 lj1 cj1', Value.slice Aj2 lj2 cj2'] TIt)).heap.size := Nat.le_trans HQB.out.size hal.size
          have yj1 := (hal.cell (p := ⟨g, jj * 2, none⟩) g2).trans cj1
          have yj2 := (hal.cell (p := ⟨g, jj * 2 + 1, none⟩) g2).trans cj2
          have yk1 := (hal.cell (p := ⟨g, kk * 2, none⟩) g2).trans ck1
          have yk2 := (hal.cell (p := ⟨g, kk * 2 + 1, none⟩) g2).trans ck2
          have yf : ∀ i, (wq.alloc (.cells #[Value.slice Aj1 lj1 cj1', Value.slice Aj2 lj2 cj2'] TIt)).frozen? ⟨g, i, none⟩ = false := fun i => by rw [hal.frozen g2]; exact hf i
          have g3 := Nat.lt_of_lt_of_le g2 hal.size
          clear cj1 cj2 ck1 ck2 hf
          obtain ⟨bx, hbx⟩ : ∃ q, wq.heap.size = q := ⟨_, rfl⟩
          obtain ⟨wx, hwx⟩ : ∃ q, wq.alloc (.cells #[Value.slice Aj1 lj1 cj1', Value.slice Aj2 lj2 cj2'] TIt) = q := ⟨_, rfl⟩
          rw [hwx] at hb0 hs2 hwx0 hwx1 yj1 yj2 yk1 yk2 yf g3 ⊢
          rw [hbx] at hb0 g2 ⊢
          have HB0 := hide hb0
          have HS2 := hide hs2
          have HWX := hide hwx0
          have HWX1 := hide hwx1
          have HBX := hide (show Below wr.heap.size wr wx by rw [← hwx]; exact HQB.out.trans (hal.mono HQB.out.size))
          clear hb0 hs2 hwx hbx hwx0 hwx1 hal
          have hitk2 : ItR wx (fun j => w3.heap.size ≤ j ∧ j < w4.heap.size ∧ j ≠ g) ik [Value.slice Ak1 lk1 ck1', Value.slice Ak2 lk2 ck2'] := ItR.keep (fun q hq h => HBX.out.block q h) (fun q h _ => h) _ _ HITK.out
          have hitj2 : ItR wx (fun j => w3.heap.size ≤ j ∧ j < w4.heap.size ∧ j ≠ g) ij [Value.slice Aj1 lj1 cj1', Value.slice Aj2 lj2 cj2'] := ItR.keep (fun q hq h => HBX.out.block q h) (fun q h _ => h) _ _ HITJ.out
          have HITK2 := hide hitk2
          have HITJ2 := hide hitj2
          clear hitk2 hitj2
          go_upto_region 11 with fail
          have hs3 := HS2.out.set_ hj (e := (ik, Value.slice Ak1 lk1 ck1', Value.slice Ak2 lk2 ck2')) HITK2.out
          have hb3 := (HB0.out.far (p := ⟨g, jj * 2, none⟩) (by simp; omega) (Value.slice Ak1 lk1 ck1')).far (p := ⟨g, jj * 2 + 1, none⟩) (by simp; omega) (Value.slice Ak2 lk2 ck2')
          have hwy0 := (HWX.out.setCell (p := ⟨g, jj * 2, none⟩) g1 (Value.slice Ak1 lk1 ck1')).setCell (p := ⟨g, jj * 2 + 1, none⟩) g1 (Value.slice Ak2 lk2 ck2')
          have hwy1 : wr.heap.size ≤ ((wx.setCell ⟨g, jj * 2, none⟩ (Value.slice Ak1 lk1 ck1')).setCell ⟨g, jj * 2 + 1, none⟩ (Value.slice Ak2 lk2 ck2')).heap.size := by simpa using HWX1.out
          have hitj3 : ItR ((wx.setCell ⟨g, jj * 2, none⟩ (Value.slice Ak1 lk1 ck1')).setCell ⟨g, jj * 2 + 1, none⟩ (Value.slice Ak2 lk2 ck2')) (fun j => w3.heap.size ≤ j ∧ j < w4.heap.size ∧ j ≠ g) ij [Value.slice Aj1 lj1 cj1', Value.slice Aj2 lj2 cj2'] := ItR.keep (fun q hq _ => (Below.heap_setCell _ ⟨g, jj * 2 + 1, none⟩ _ _ hq.2.2).trans (Below.heap_setCell _ ⟨g, jj * 2, none⟩ _ _ hq.2.2)) (fun q h _ => h) _ _ HITJ2.out
          clear yj1 yj2 yk1 yk2 yf g3
          obtain ⟨wy, hwy⟩ : ∃ q, (wx.setCell ⟨g, jj * 2, none⟩ (Value.slice Ak1 lk1 ck1')).setCell ⟨g, jj * 2 + 1, none⟩ (Value.slice Ak2 lk2 ck2') = q := ⟨_, rfl⟩
          rw [hwy] at hb3 hwy0 hwy1 hitj3 ⊢
          simp only at hs3
          rw [hwy] at hs3
          obtain ⟨_, -, g3, -, -, yk1, yk2, hf⟩ := hs3.at_ hk
          obtain ⟨u1, hu1⟩ : ∃ u, wy.cell? ⟨g, kk * 2, none⟩ = some u := ⟨_, yk1⟩
          obtain ⟨u2, hu2⟩ : ∃ u, wy.cell? ⟨g, kk * 2 + 1, none⟩ = some u := ⟨_, yk2⟩
          have b1 := hb3.cell
          have bl := hb3.lt
          have HS3 := hide (hs3.set_ hk (e := (ij, Value.slice Aj1 lj1 cj1', Value.slice Aj2 lj2 cj2')) hitj3)
          have HWY := hide (show Below w3.heap.size w3 ((wy.setCell ⟨g, kk * 2, none⟩ (Value.slice Aj1 lj1 cj1')).setCell ⟨g, kk * 2 + 1, none⟩ (Value.slice Aj2 lj2 cj2')) from (hwy0.setCell (p := ⟨g, kk * 2, none⟩) g1 (Value.slice Aj1 lj1 cj1')).setCell (p := ⟨g, kk * 2 + 1, none⟩) g1 (Value.slice Aj2 lj2 cj2'))
          have HWY1 := hide (show wr.heap.size ≤ ((wy.setCell ⟨g, kk * 2, none⟩ (Value.slice Aj1 lj1 cj1')).setCell ⟨g, kk * 2 + 1, none⟩ (Value.slice Aj2 lj2 cj2')).heap.size by simpa using hwy1)
          clear hb3 hwy0 hwy1 hitj3 hwy hs3 yk1 yk2
          go_wp2_with fail
          refine ⟨⟨i + 1, by push_cast; rfl, by omega, by omega, hide ⟨Nat.le_trans hsz HWY1.out, HWY.out, HN1.out.symm, fun _ => ⟨g, _, rfl, HSW.out.trans HPERM.out, HS3.out⟩⟩⟩, ?_⟩
          simp [intOf]
          omega
        · obtain ⟨hsz, hbel, hat⟩ := HST.out
          obtain ⟨pl, hpl, hap⟩ := hat.p HAG.out
          have hB : SmB w w3 w4 c tb A n1 cc pl m wr := ⟨HN3.out.below hbel, hsz, fun j hj => .inl (PF.lt HN3.out.pg hj), hap⟩
          have HSB := hide hB
          have HPL := hide hpl
          clear hsz hbel hat hap hpl hB HST
          have hN0 := HF1.out.n0
          have h1 := H1.out
          by_cases q1 : i < ol
          · by_cases q2 : i < 80
            · obtain rfl : n1 = 0 := by omega
              have d2 : decide ((i : Int) < 80) = true := by simp; omega
              go_wp2_with fail
              exact same_rest HSB.out hN0 HPL.out HPK.out HN1.out hn80 h1 _ _ _ _ _ _ _ _ _ _ _ _ _ _ _ _ _ _ _ _ _ _ _ _ _ _ _ _ _ _ _ _ _ _ _ _ _ _ _ _ _ _ _ _ _ _ _ _ _ _ _ _ _ _ _ _ _ _ _ _ _ _ _ _ _ _ _ _ _ _ _ _ _ _ _ _ _ _ _ _ _ _ _ _ _ _ _ _ _ _ _ _ _ _ _ _ _ _ _ _ _ _ _ _ _ _ _ _ _ _ _ _ _ _ _ _ _ _ _ _ _ _ _ _ _ _ _ _ _ _ _ _ _ _ _ _ _ _ _ _ _ _ _ _ _ _ _ _ _ _ _
            · have d2 : decide ((i : Int) < 80) = false := by simp; omega
              go_wp2_with fail
              exact same_rest HSB.out hN0 HPL.out HPK.out HN1.out hn80 h1 _ _ _ _ _ _ _ _ _ _ _ _ _ _ _ _ _ _ _ _ _ _ _ _ _ _ _ _ _ _ _ _ _ _ _ _ _ _ _ _ _ _ _ _ _ _ _ _ _ _ _ _ _ _ _ _ _ _ _ _ _ _ _ _ _ _ _ _ _ _ _ _ _ _ _ _ _ _ _ _ _ _ _ _ _ _ _ _ _ _ _ _ _ _ _ _ _ _ _ _ _ _ _ _ _ _ _ _ _ _ _ _ _ _ _ _ _ _ _ _ _ _ _ _ _ _ _ _ _ _ _ _ _ _ _ _ _ _ _ _ _ _ _ _ _ _ _ _ _ _ _
          · go_wp2_with fail
            exact same_rest HSB.out hN0 HPL.out HPK.out HN1.out hn80 h1 _ _ _ _ _ _ _ _ _ _ _ _ _ _ _ _ _ _ _ _ _ _ _ _ _ _ _ _ _ _ _ _ _ _ _ _ _ _ _ _ _ _ _ _ _ _ _ _ _ _ _ _ _ _ _ _ _ _ _ _ _ _ _ _ _ _ _ _ _ _ _ _ _ _ _ _ _ _ _ _ _ _ _ _ _ _ _ _ _ _ _ _ _ _ _ _ _ _ _ _ _ _ _ _ _ _ _ _ _ _ _ _ _ _ _ _ _ _ _ _ _ _ _ _ _ _ _ _ _ _ _ _ _ _ _ _ _ _ _ _ _ _ _ _ _ _ _ _ _ _ _
end Go.Proofs.Ytkolacaceaamoaa
