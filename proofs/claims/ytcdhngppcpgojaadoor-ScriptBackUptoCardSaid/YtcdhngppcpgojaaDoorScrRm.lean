/- The document's act of a line: its points (printed by gen_scrm2.py). -/
import Derived.Test.YtcdhngppcpgojaaDoorScrRl
namespace Go.Proofs.YtcdhngppcpgojaaDoor
set_option linter.unusedSimpArgs false
set_option linter.unusedVariables false
open Go.RowKit
abbrev cs7 (V0 V1 V2 V3 V4 V5 V6 : Int) (V8 V9 : List UInt8) (v : Value) : Array Value := #[.int .i64 V0, .int .i64 V1, .int .i64 V2, .int .u64 V3, .int .i64 V4, .int .i64 V5, .int .i64 V6, v, str V8, str V9]
structure LpI (w : World) (ws : List (List UInt8)) (gw g B m k : Nat) (cs : Array Value) (v : Value) (l : List (Int × Int)) (wr : World) : Prop where
  r : RS w ws gw g cs wr
  o : wr.ownsRow B TPt 2 v k (l.flatMap pEnc)
  ln : l.length = k
  pt : pts m (ws.drop 10) = app l (pts (m - k) (ws.drop (10 + 2 * k)))
  i : ∀ p ∈ l, in64 p.1 ∧ in64 p.2
  b : B ≤ wr.heap.size
theorem LpI.bad {w wr : World} {ws : List (List UInt8)} {gw g B m k : Nat} {cs : Array Value} {v : Value} {l : List (Int × Int)} (h : LpI w ws gw g B m k cs v l wr) (hk : k < m) (hb : numI (wat ws (10 + 2 * k)) = none ∨ numI (wat ws (11 + 2 * k)) = none) : pts m (ws.drop 10) = none := by
  rw [h.pt, show m - k = (m - (k + 1)) + 1 by omega, pts_bad _ (by
    rcases hb with hb | hb
    · exact .inl hb
    · right
      rw [List.tail_drop]
      rw [show 10 + 2 * k + 1 = 11 + 2 * k by omega]
      exact hb)]
  rfl
theorem LpI.good {w wr w' : World} {ws : List (List UInt8)} {gw g B m k : Nat} {cs cs' : Array Value} {v v' : Value} {l : List (Int × Int)} {a d : Int} (h : LpI w ws gw g B m k cs v l wr) (hk : k < m) (ha : numI (wat ws (10 + 2 * k)) = some a) (hd : numI (wat ws (11 + 2 * k)) = some d) (hr : RS w ws gw g cs' w') (ho : w'.ownsRow B TPt 2 v' (k + 1) (l.flatMap pEnc ++ [.int .i64 a, .int .i64 d])) (hb : B ≤ w'.heap.size) : LpI w ws gw g B m (k + 1) cs' v' (l ++ [(a, d)]) w' := by
  refine ⟨hr, by simpa [pEnc] using ho, by simp [h.ln], ?_, fun p hp => ?_, hb⟩
  · rw [h.pt, show m - k = (m - (k + 1)) + 1 by omega, pts_good (m - (k + 1)) ha (by rw [List.tail_drop, show 10 + 2 * k + 1 = 11 + 2 * k by omega]; exact hd), app_app, List.tail_drop, List.tail_drop, show 10 + 2 * k + 1 + 1 = 10 + 2 * (k + 1) by omega]
  · rcases List.mem_append.1 hp with h1 | h1
    · exact h.i p h1
    · simp at h1; subst h1; exact ⟨numI_in ha, numI_in hd⟩
set_option maxRecDepth 1000000 in
set_option maxHeartbeats 4000000 in
theorem seg33 (w : World) (s : List UInt8) (ws : List (List UInt8)) (gw g nn c m : Nat) (V0 V1 V2 V3 V4 V5 V6 : Int) (V8 V9 : List UInt8) (hL : lens ws) (hN : ws.length = nn) (hm : m ≤ 128) (hnm : nn = 10 + 2 * m)
    (hrej : pts m (ws.drop 10) = none → ∀ y, ¬ Parse ws y)
    (hacc : ∀ l, pts m (ws.drop 10) = some (l, []) → ∀ (A : Option Addr) (c : Nat), ∃ y : Ac, (y.at_ A c).cells = cs7 V0 V1 V2 V3 V4 V5 V6 V8 V9 (.slice A m c) ∧ Parse ws y ∧ y.path = l ∧ y.p = m) : St9 26 m w s ws gw g nn c true true (cs7 V0 V1 V2 V3 V4 V5 V6 V8 V9 (.slice none 0 0)) := by
  intro u10 u11 u12 u13 u14 u15 u16 u17 u18 u19 u20 u21 u22 u23 u24 u25 u26 u27 u28 u29 u30 u31 u32 u33 u34 u35 u36 u37 u38 u39 u40 u41 u42 u43 u44 u45 u46 u47 u48 u49 u50 u51 u52 u53 u54 u55 u56 u57 u58 u59 u60 u61 u62 u63 u64 u65 u66 u67 u68 u69 u70 u71 u72 u73 u74 u75 u76 u77 u78 u79 u80 u81 u82 u83 u84 u85 u86 u87 u88 u89 u90 u91 u92 u93 u94 u95 u96 u97 u98 u99 u100 u101 u102 u103 u104 u105 u106 u107 u108 u109 u110 u111 u112 u113 u114 u115 u116 u117 u118 u119 u120 u121 u122 u123 u124 u125 u126 u127 u128 u129 u130 u131 u132 u133 u134 u135 u136 u137 u138 u139 u140 u141 u142 u143 u144 u145 u146 u147 u148 u149 u150 u151 u152 u153 u154 u155 u156 u157 u158 u159 u160 u161 u162 u163 u164 u165 u166 u167 u168 u169 u170 u171 u172 u173 u174 u175 u176 u177 u178 u179 u180 u181 u182 u183 u184 u185 u186 u187 u188 u189 u190 u191 u192 u193 u194 u195 u196 u197 u198 u199 u200 u201 u202 u203 u204 u205 u206 u207 u208 u209 u210 u211 u212 u213 u214 u215 u216 u217 u218 u219 u220 u221 u222 u223 u224 u225 u226 u227 u228 u229 W hrs
  have HL := hide hL
  have HN := hide hN
  have HNM := hide hnm
  have HRJ := hide hrej
  have HAC := hide hacc
  obtain ⟨i0, hi0, hz0, hz1, hz2⟩ := info_parts pt_info
  have HI0 := hide hi0
  have HZ0 := hide hz0
  have hgB : g < W.heap.size := hrs.a.lt
  have hwB : gw < W.heap.size := hrs.wl
  have hzB : w.heap.size < W.heap.size := hrs.z.lt
  have hne := hrs.n1
  have hne2 := hrs.n2
  obtain ⟨B, hB⟩ : ∃ B, W.heap.size = B := ⟨_, rfl⟩
  have H0 := hide (show LpI w ws gw g B m 0 (cs7 V0 V1 V2 V3 V4 V5 V6 V8 V9 (.slice none 0 0)) (.slice none 0 0) [] W from ⟨hrs, World.ownsRow_nil _ _ _ _, rfl, by rw [app_nil]; rfl, (fun p hp => by cases hp), by omega⟩)
  rw [hB] at hgB hwB hzB
  clear hrs hL hN hrej hacc hi0 hz0 hB hnm
  unfold QQ
  rw [show tl 26 = Code.seq (cmp 26) (tl 27) from rfl]
  conv => arg 2; arg 1; whnf
  conv => arg 2; arg 2; whnf
  go_upto_region 34 with fail
  go_loopw [10] (fun i wr => ∃ (k : Nat) (A' : Option Addr) (c' : Nat) (l : List (Int × Int)), k ≤ m ∧ i = .int .i64 k ∧ Hid (LpI w ws gw g B m k (cs7 V0 V1 V2 V3 V4 V5 V6 V8 V9 (.slice A' k c')) (.slice A' k c') l wr)) (fun i _ => m - (intOf i).toNat)
  case atStart => exact ⟨0, none, 0, [], by omega, rfl, H0⟩
  case round =>
    obtain ⟨k, A', c', l, hk, rfl, HI⟩ := hrel
    by_cases hlt : k < m
    · have hltI : (k : Int) < m := by omega
      obtain ⟨q, hq⟩ : ∃ q : Nat, q = 10 + 2 * k := ⟨_, rfl⟩
      have hqI : (10 : Int) + 2 * (k : Int) = (q : Int) := by omega
      have hqJ : (11 : Int) + 2 * (k : Int) = ((q + 1 : Nat) : Int) := by omega
      have hqn : q + 1 < nn := by have := HNM.out; omega
      have hqb : q ≤ 300 := by omega
      have HQ := hide hq
      have kw := HI.out.r.wd q (by rw [HN.out]; omega)
      have kw2 := HI.out.r.wd (q + 1) (by rw [HN.out]; omega)
      have zw := HI.out.r.wl
      have HC1 := hide (signed_any (wat ws q) wr (HL.out.drop q).head)
      have HC2 := hide (fun w1 => signed_any (wat ws (q + 1)) w1 (HL.out.drop (q + 1)).head)
      clear hq
      go_upto_region 37 with (go_at_call 41; (refine HC1.out.mono ?_); rintro e w6 ⟨⟨N1, ok1, rfl, hok, hN⟩, hb⟩; have HB6 := hide hb; have HR6 := hide (HI.out.r.below hb); have HO1 := hide hok; have HV1 := hide hN; clear hb hok hN kw kw2 zw; have kw2 := HR6.out.wd (q + 1) (by rw [HN.out]; omega); have zw := HR6.out.wl)
      go_upto_region 38 with (go_at_call 41; (refine (HC2.out _).mono ?_); rintro e w7 ⟨⟨N2, ok2, rfl, hok, hN⟩, hb⟩; have HB7 := hide (HB6.out.trans (hb.mono HB6.out.size)); have HS := hide (HR6.out.below hb); have HO2 := hide hok; have HV2 := hide hN; clear hb hok hN kw2 zw; have kz := HS.out.z.cell; have qz := HS.out.z.frozen; have zz := HS.out.z.lt; have kg := HS.out.a.cell; have qg := HS.out.a.frozen; have zg := HS.out.a.lt)
      clear hqI hqJ
      cases ok1
      · have HNP := hide (HRJ.out (HI.out.bad hlt (.inl (by
          rw [← HQ.out]
          have := HO1.out
          cases h : numI (wat ws q) with
          | none => rfl
          | some v => rw [h] at this; cases this))))
        go_wp2_with fail
        have hz := HS.out.z
        obtain ⟨W6, hW6, hx6⟩ := set10 hz (.int .i64 0) (.int .i64 0) (.int .i64 0) (.int .u64 0) (.int .i64 0) (.int .i64 0) (.int .i64 0) (.slice none 0 0) (.string ⟨#[]⟩) (.string ⟨#[]⟩)
        rw [hW6]
        have k6 := hx6.k.cell; have z6 := hx6.k.lt
        refine bodyPost_ret (v := .tuple #[.agg zact, .bool false]) (by simp [results, Tryd.results19, go_sem, k6, z6]) rfl ⟨.inr ⟨rfl, HNP.out⟩, (HS.out.b).trans (hx6.b.mono (Nat.le_refl _))⟩
      · cases ok2
        · have HNP := hide (HRJ.out (HI.out.bad hlt (.inr (by
            rw [show 11 + 2 * k = q + 1 by have := HQ.out; omega]
            have := HO2.out
            cases h : numI (wat ws (q + 1)) with
            | none => rfl
            | some v => rw [h] at this; cases this))))
          go_wp2_with fail
          have hz := HS.out.z
          obtain ⟨W6, hW6, hx6⟩ := set10 hz (.int .i64 0) (.int .i64 0) (.int .i64 0) (.int .u64 0) (.int .i64 0) (.int .i64 0) (.int .i64 0) (.slice none 0 0) (.string ⟨#[]⟩) (.string ⟨#[]⟩)
          rw [hW6]
          have k6 := hx6.k.cell; have z6 := hx6.k.lt
          refine bodyPost_ret (v := .tuple #[.agg zact, .bool false]) (by simp [results, Tryd.results19, go_sem, k6, z6]) rfl ⟨.inr ⟨rfl, HNP.out⟩, (HS.out.b).trans (hx6.b.mono (Nat.le_refl _))⟩
        · have h1 : numI (wat ws q) = some N1 := by
            have := HO1.out
            cases h : numI (wat ws q) with
            | none => rw [h] at this; cases this
            | some v => rw [HV1.out v h]
          have h2 : numI (wat ws (q + 1)) = some N2 := by
            have := HO2.out
            cases h : numI (wat ws (q + 1)) with
            | none => rw [h] at this; cases this
            | some v => rw [HV2.out v h]
          have H1 := hide h1
          have H2 := hide h2
          have hb8 : Below w7.heap.size w7 (w7.alloc (Obj.cells #[.int .i64 N1, .int .i64 N2] TPt)) := (Below.refl _ _).alloc (Nat.le_refl _) _
          have HA6 := hide (reads_cs w7 TPt #[.int .i64 N1, .int .i64 N2])
          have HO7 := hide (own_later (own_later HI.out.o HB7.out) hb8)
          have HS8 := hide (HS.out.below hb8)
          have HBS := hide (Nat.le_trans HI.out.b (Nat.le_trans HB7.out.size hb8.size))
          clear hb8 h1 h2 kz qz zz
          go_wp2_with (at_builtin; (refine wpList_append_any _ rfl (.tmp 221) (.tmp 225) _ rfl B TPt i0 _ 2 16 Tryd.underlying33 HI0.out HZ0.out hz1 hz2 rfl (by omega) (.slice A' k c') k (l.flatMap pEnc) rfl HO7.out (w7.heap.size + 1) (some ⟨w7.heap.size, 0, none⟩) 1 1 [.int .i64 N1, .int .i64 N2] rfl HA6.out (by intro u hu; simp at hu; rcases hu with rfl | rfl <;> rfl) (by unfold maxLen; omega) (by omega) HBS.out ?_); intro v' w8 ho hgr hvo; obtain ⟨A9, c9, rfl⟩ := row_form ho; have HR9 := hide (HS8.out.grown hgr (fun j hj => by have := (HO7.out.lt j hj).1; omega)); have HG9 := hide ho; have HB9 := hide (Nat.le_trans HBS.out hgr.size); clear ho hgr hvo kg qg zg; have kg := HR9.out.a.cell; have qg := HR9.out.a.frozen; have zg := HR9.out.a.lt)
          go_roundw
          case rel => exact ⟨k + 1, A9, c9, l ++ [(N1, N2)], by omega, by go_num, hide (HI.out.good hlt (by rw [← HQ.out]; exact H1.out) (by rw [show 11 + 2 * k = q + 1 by have := HQ.out; omega]; exact H2.out) (HR9.out.set 7 _) (row_keep HG9.out (fun j hj => Below.heap_setCell _ _ _ _ (fun e => by have := (HG9.out.lt j hj).1; simp only at e; omega))) (by simpa using HB9.out))⟩
          case measure => simp [intOf]; omega
    · have hkm : k = m := by omega
      subst hkm
      have hp := HI.out.pt
      rw [Nat.sub_self, pts, show ws.drop (10 + 2 * k) = [] from List.drop_eq_nil_of_le (by rw [HN.out]; have := HNM.out; omega)] at hp
      have hp2 : pts k (ws.drop 10) = some (l, []) := by rw [hp]; simp [app]
      obtain ⟨y, hy1, hy2, hy3, hy4⟩ := HAC.out l hp2 A' c'
      have HY1 := hide hy1
      have HY2 := hide hy2
      have HY3 := hide hy3
      have HY4 := hide hy4
      have HS := hide HI.out.r
      have kz := HS.out.z.cell; have qz := HS.out.z.frozen; have zz := HS.out.z.lt
      have kg := HS.out.a.cell; have qg := HS.out.a.frozen; have zg := HS.out.a.lt
      have hltI : ¬ (k : Int) < k := by omega
      clear hp hp2 hy1 hy2 hy3 hy4 hlt hk
      go_wp2_with fail
      obtain ⟨W6, hW6, hx6⟩ := set10 HS.out.z (.int .i64 V0) (.int .i64 V1) (.int .i64 V2) (.int .u64 V3) (.int .i64 V4) (.int .i64 V5) (.int .i64 V6) (.slice A' k c') (str V8) (str V9)
      rw [hW6]
      have k6 := hx6.k.cell; have z6 := hx6.k.lt
      refine bodyPost_ret (v := .tuple #[.agg (cs7 V0 V1 V2 V3 V4 V5 V6 V8 V9 (.slice A' k c')), .bool true]) (by simp [results, Tryd.results19, go_sem, k6, z6]) rfl ⟨.inl ⟨y, A', c', by rw [HY1.out], HY2.out, ?_, by rw [HY3.out]; exact HI.out.i⟩, (HS.out.b).trans (hx6.b.mono (Nat.le_refl _))⟩
      unfold Pth
      show W6.ownsRow w.heap.size TPt 2 (.slice A' y.p c') y.p (y.path.flatMap pEnc)
      rw [HY4.out, HY3.out]
      refine own_base (row_keep HI.out.o (fun j hj => ?_)) (Nat.le_of_lt hzB)
      have := (HI.out.o.lt j hj).1
      exact hx6.o j (by omega)
end Go.Proofs.YtcdhngppcpgojaaDoor
