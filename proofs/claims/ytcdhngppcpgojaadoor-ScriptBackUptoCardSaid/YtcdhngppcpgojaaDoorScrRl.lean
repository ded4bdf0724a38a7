/- The document's act of a line: its tests and its points (printed by gen_scrl2.py). -/
import Derived.Test.YtcdhngppcpgojaaDoorScrRk
namespace Go.Proofs.YtcdhngppcpgojaaDoor
set_option linter.unusedSimpArgs false
set_option linter.unusedVariables false
open Go.RowKit
set_option maxRecDepth 1000000 in
/-- Likewise, with the count of the points. -/
def St9 (n : Nat) (N : Int) (w : World) (s : List UInt8) (ws : List (List UInt8)) (gw g nn c : Nat) (A ok : Bool) (cs : Array Value) : Prop :=
  ∀ (u10 u11 u12 u13 u14 u15 u16 u17 u18 u19 u20 u21 u22 u23 u24 u25 u26 u27 u28 u29 u30 u31 u32 u33 u34 u35 u36 u37 u38 u39 u40 u41 u42 u43 u44 u45 u46 u47 u48 u49 u50 u51 u52 u53 u54 u55 u56 u57 u58 u59 u60 u61 u62 u63 u64 u65 u66 u67 u68 u69 u70 u71 u72 u73 u74 u75 u76 u77 u78 u79 u80 u81 u82 u83 u84 u85 u86 u87 u88 u89 u90 u91 u92 u93 u94 u95 u96 u97 u98 u99 u100 u101 u102 u103 u104 u105 u106 u107 u108 u109 u110 u111 u112 u113 u114 u115 u116 u117 u118 u119 u120 u121 u122 u123 u124 u125 u126 u127 u128 u129 u130 u131 u132 u133 u134 u135 u136 u137 u138 u139 u140 u141 u142 u143 u144 u145 u146 u147 u148 u149 u150 u151 u152 u153 u154 u155 u156 u157 u158 u159 u160 u161 u162 u163 u164 u165 u166 u167 u168 u169 u170 u171 u172 u173 u174 u175 u176 u177 u178 u179 u180 u181 u182 u183 u184 u185 u186 u187 u188 u189 u190 u191 u192 u193 u194 u195 u196 u197 u198 u199 u200 u201 u202 u203 u204 u205 u206 u207 u208 u209 u210 u211 u212 u213 u214 u215 u216 u217 u218 u219 u220 u221 u222 u223 u224 u225 u226 u227 u228 u229 : Value) (W : World), RS w ws gw g cs W → Code.wp Tryd.prog (tl n) (QQ w ws) ⟨#[str s, undef, .pointer (some ⟨w.heap.size, 0, none⟩), .bool false, .slice (some ⟨gw, 0, none⟩) nn c, .pointer (some ⟨g, 0, none⟩), .bool ok, .bool A, .int .i64 15, .int .i64 N, u10, u11, u12, u13, u14, u15, u16, u17, u18, u19, u20, u21, u22, u23, u24, u25, u26, u27, u28, u29, u30, u31, u32, u33, u34, u35, u36, u37, u38, u39, u40, u41, u42, u43, u44, u45, u46, u47, u48, u49, u50, u51, u52, u53, u54, u55, u56, u57, u58, u59, u60, u61, u62, u63, u64, u65, u66, u67, u68, u69, u70, u71, u72, u73, u74, u75, u76, u77, u78, u79, u80, u81, u82, u83, u84, u85, u86, u87, u88, u89, u90, u91, u92, u93, u94, u95, u96, u97, u98, u99, u100, u101, u102, u103, u104, u105, u106, u107, u108, u109, u110, u111, u112, u113, u114, u115, u116, u117, u118, u119, u120, u121, u122, u123, u124, u125, u126, u127, u128, u129, u130, u131, u132, u133, u134, u135, u136, u137, u138, u139, u140, u141, u142, u143, u144, u145, u146, u147, u148, u149, u150, u151, u152, u153, u154, u155, u156, u157, u158, u159, u160, u161, u162, u163, u164, u165, u166, u167, u168, u169, u170, u171, u172, u173, u174, u175, u176, u177, u178, u179, u180, u181, u182, u183, u184, u185, u186, u187, u188, u189, u190, u191, u192, u193, u194, u195, u196, u197, u198, u199, u200, u201, u202, u203, u204, u205, u206, u207, u208, u209, u210, u211, u212, u213, u214, u215, u216, u217, u218, u219, u220, u221, u222, u223, u224, u225, u226, u227, u228, u229], []⟩ W
set_option maxRecDepth 1000000 in
set_option maxHeartbeats 4000000 in
theorem seg18 (w : World) (s : List UInt8) (ws : List (List UInt8)) (gw g nn c : Nat) (A ok : Bool) (cs : Array Value) (hN : ws.length = nn) (h10 : 10 ≤ nn)
    (hnext : wat ws 4 ≠ [] → wat ws 8 ≠ [] → St 14 w s ws gw g nn c A ok cs) : St 13 w s ws gw g nn c A ok cs := by
  intro u9 u10 u11 u12 u13 u14 u15 u16 u17 u18 u19 u20 u21 u22 u23 u24 u25 u26 u27 u28 u29 u30 u31 u32 u33 u34 u35 u36 u37 u38 u39 u40 u41 u42 u43 u44 u45 u46 u47 u48 u49 u50 u51 u52 u53 u54 u55 u56 u57 u58 u59 u60 u61 u62 u63 u64 u65 u66 u67 u68 u69 u70 u71 u72 u73 u74 u75 u76 u77 u78 u79 u80 u81 u82 u83 u84 u85 u86 u87 u88 u89 u90 u91 u92 u93 u94 u95 u96 u97 u98 u99 u100 u101 u102 u103 u104 u105 u106 u107 u108 u109 u110 u111 u112 u113 u114 u115 u116 u117 u118 u119 u120 u121 u122 u123 u124 u125 u126 u127 u128 u129 u130 u131 u132 u133 u134 u135 u136 u137 u138 u139 u140 u141 u142 u143 u144 u145 u146 u147 u148 u149 u150 u151 u152 u153 u154 u155 u156 u157 u158 u159 u160 u161 u162 u163 u164 u165 u166 u167 u168 u169 u170 u171 u172 u173 u174 u175 u176 u177 u178 u179 u180 u181 u182 u183 u184 u185 u186 u187 u188 u189 u190 u191 u192 u193 u194 u195 u196 u197 u198 u199 u200 u201 u202 u203 u204 u205 u206 u207 u208 u209 u210 u211 u212 u213 u214 u215 u216 u217 u218 u219 u220 u221 u222 u223 u224 u225 u226 u227 u228 u229 W hrs
  have HS := hide hrs
  have HX := hide hnext
  have kw4 := hrs.wd 4 (by rw [hN]; omega)
  have kw8 := hrs.wd 8 (by rw [hN]; omega)
  have zw := hrs.wl
  have kz := hrs.z.cell; have qz := hrs.z.frozen; have zz := hrs.z.lt
  clear hrs hN hnext
  unfold QQ
  rw [show tl 13 = Code.seq (cmp 13) (tl 14) from rfl]
  conv => arg 2; arg 1; whnf
  obtain ⟨x4, hx4⟩ : ∃ x, wat ws 4 = x := ⟨_, rfl⟩
  obtain ⟨x8, hx8⟩ : ∃ x, wat ws 8 = x := ⟨_, rfl⟩
  rw [hx4] at kw4
  rw [hx8] at kw8
  by_cases h4 : x4 = []
  · have HNP := hide (not_parse_empty (ws := ws) (.inl (hx4.trans h4)))
    subst h4
    clear hx4 hx8
    go_wp2_with fail
    have hz := HS.out.z
    obtain ⟨W6, hW6, hx6⟩ := set10 hz (.int .i64 0) (.int .i64 0) (.int .i64 0) (.int .u64 0) (.int .i64 0) (.int .i64 0) (.int .i64 0) (.slice none 0 0) (.string ⟨#[]⟩) (.string ⟨#[]⟩)
    rw [hW6]
    have k6 := hx6.k.cell; have z6 := hx6.k.lt
    refine bodyPost_ret (v := .tuple #[.agg zact, .bool false]) (by simp [results, Tryd.results19, go_sem, k6, z6]) rfl ⟨.inr ⟨rfl, HNP.out⟩, (HS.out.b).trans (hx6.b.mono (Nat.le_refl _))⟩
  · by_cases h8 : x8 = []
    · have HNP := hide (not_parse_empty (ws := ws) (.inr (hx8.trans h8)))
      have h4e : x4.isEmpty = false := by simpa using h4
      subst h8
      clear hx4 hx8 h4
      go_wp2_with fail
      have hz := HS.out.z
      obtain ⟨W6, hW6, hx6⟩ := set10 hz (.int .i64 0) (.int .i64 0) (.int .i64 0) (.int .u64 0) (.int .i64 0) (.int .i64 0) (.int .i64 0) (.slice none 0 0) (.string ⟨#[]⟩) (.string ⟨#[]⟩)
      rw [hW6]
      have k6 := hx6.k.cell; have z6 := hx6.k.lt
      refine bodyPost_ret (v := .tuple #[.agg zact, .bool false]) (by simp [results, Tryd.results19, go_sem, k6, z6]) rfl ⟨.inr ⟨rfl, HNP.out⟩, (HS.out.b).trans (hx6.b.mono (Nat.le_refl _))⟩
    · have h4e : x4.isEmpty = false := by simpa using h4
      have h8e : x8.isEmpty = false := by simpa using h8
      have HX2 := hide (HX.out (by rw [hx4]; exact h4) (by rw [hx8]; exact h8))
      clear h4 h8 hx4 hx8
      go_wp2_with fail
      exact HX2.out _ _ _ _ _ _ _ _ _ _ _ _ _ _ _ _ _ _ _ _ _ _ _ _ _ _ _ _ _ _ _ _ _ _ _ _ _ _ _ _ _ _ _ _ _ _ _ _ _ _ _ _ _ _ _ _ _ _ _ _ _ _ _ _ _ _ _ _ _ _ _ _ _ _ _ _ _ _ _ _ _ _ _ _ _ _ _ _ _ _ _ _ _ _ _ _ _ _ _ _ _ _ _ _ _ _ _ _ _ _ _ _ _ _ _ _ _ _ _ _ _ _ _ _ _ _ _ _ _ _ _ _ _ _ _ _ _ _ _ _ _ _ _ _ _ _ _ _ _ _ _ _ _ _ _ _ _ _ _ _ _ _ _ _ _ _ _ _ _ _ _ _ _ _ _ _ _ _ _ _ _ _ _ _ _ _ _ _ _ _ _ _ _ _ _ _ _ _ _ _ _ _ _ _ _ _ _ _ _ _ _ _ _ _ _ _ _ _ _ _ _ _ HS.out
set_option maxRecDepth 1000000 in
set_option maxHeartbeats 4000000 in
theorem seg30 (w : World) (s : List UInt8) (ws : List (List UInt8)) (gw g nn c : Nat) (A ok : Bool) (cs : Array Value) (hL : lens ws) (hN : ws.length = nn) (h10 : 10 ≤ nn)
    (hnext : ∀ (N : Int) (ok' : Bool), ok' = (numI (wat ws 9)).isSome → (∀ v, numI (wat ws 9) = some v → N = v) → St9 25 N w s ws gw g nn c A ok' cs) : St 24 w s ws gw g nn c A ok cs := by
  intro u9 u10 u11 u12 u13 u14 u15 u16 u17 u18 u19 u20 u21 u22 u23 u24 u25 u26 u27 u28 u29 u30 u31 u32 u33 u34 u35 u36 u37 u38 u39 u40 u41 u42 u43 u44 u45 u46 u47 u48 u49 u50 u51 u52 u53 u54 u55 u56 u57 u58 u59 u60 u61 u62 u63 u64 u65 u66 u67 u68 u69 u70 u71 u72 u73 u74 u75 u76 u77 u78 u79 u80 u81 u82 u83 u84 u85 u86 u87 u88 u89 u90 u91 u92 u93 u94 u95 u96 u97 u98 u99 u100 u101 u102 u103 u104 u105 u106 u107 u108 u109 u110 u111 u112 u113 u114 u115 u116 u117 u118 u119 u120 u121 u122 u123 u124 u125 u126 u127 u128 u129 u130 u131 u132 u133 u134 u135 u136 u137 u138 u139 u140 u141 u142 u143 u144 u145 u146 u147 u148 u149 u150 u151 u152 u153 u154 u155 u156 u157 u158 u159 u160 u161 u162 u163 u164 u165 u166 u167 u168 u169 u170 u171 u172 u173 u174 u175 u176 u177 u178 u179 u180 u181 u182 u183 u184 u185 u186 u187 u188 u189 u190 u191 u192 u193 u194 u195 u196 u197 u198 u199 u200 u201 u202 u203 u204 u205 u206 u207 u208 u209 u210 u211 u212 u213 u214 u215 u216 u217 u218 u219 u220 u221 u222 u223 u224 u225 u226 u227 u228 u229 W hrs
  have HS := hide hrs
  have HL := hide hL
  have HX := hide hnext
  have kw := hrs.wd 9 (by rw [hN]; omega)
  have zw := hrs.wl
  clear hrs hN hnext hL
  rw [show tl 24 = Code.seq (cmp 24) (tl 25) from rfl]
  conv => arg 2; arg 1; whnf
  go_wp2_with (go_at_call 41; (refine (signed_any (wat ws 9) _ (HL.out.drop 9).head).mono ?_); rintro e w6 ⟨⟨N, ok', rfl, hok, hN⟩, hb⟩; have HS2 := hide (HS.out.below hb); have HO := hide hok; have HV := hide hN; clear hb hok hN kw zw)
  exact HX.out N ok' HO.out HV.out _ _ _ _ _ _ _ _ _ _ _ _ _ _ _ _ _ _ _ _ _ _ _ _ _ _ _ _ _ _ _ _ _ _ _ _ _ _ _ _ _ _ _ _ _ _ _ _ _ _ _ _ _ _ _ _ _ _ _ _ _ _ _ _ _ _ _ _ _ _ _ _ _ _ _ _ _ _ _ _ _ _ _ _ _ _ _ _ _ _ _ _ _ _ _ _ _ _ _ _ _ _ _ _ _ _ _ _ _ _ _ _ _ _ _ _ _ _ _ _ _ _ _ _ _ _ _ _ _ _ _ _ _ _ _ _ _ _ _ _ _ _ _ _ _ _ _ _ _ _ _ _ _ _ _ _ _ _ _ _ _ _ _ _ _ _ _ _ _ _ _ _ _ _ _ _ _ _ _ _ _ _ _ _ _ _ _ _ _ _ _ _ _ _ _ _ _ _ _ _ _ _ _ _ _ _ _ _ _ _ _ _ _ _ _ _ _ _ _ _ _ HS2.out
set_option maxRecDepth 1000000 in
set_option maxHeartbeats 4000000 in
theorem seg31 (w : World) (s : List UInt8) (ws : List (List UInt8)) (gw g nn c : Nat) (A ok : Bool) (N : Int) (cs : Array Value) (hn : nn ≤ 600000001)
    (hrej : ¬ (A = true ∧ ok = true ∧ 0 ≤ N ∧ N ≤ 128 ∧ (nn : Int) = 10 + 2 * N) → ∀ y, ¬ Parse ws y)
    (hnext : A = true → ok = true → 0 ≤ N → N ≤ 128 → (nn : Int) = 10 + 2 * N → St9 26 N w s ws gw g nn c true true cs) : St9 25 N w s ws gw g nn c A ok cs := by
  intro u10 u11 u12 u13 u14 u15 u16 u17 u18 u19 u20 u21 u22 u23 u24 u25 u26 u27 u28 u29 u30 u31 u32 u33 u34 u35 u36 u37 u38 u39 u40 u41 u42 u43 u44 u45 u46 u47 u48 u49 u50 u51 u52 u53 u54 u55 u56 u57 u58 u59 u60 u61 u62 u63 u64 u65 u66 u67 u68 u69 u70 u71 u72 u73 u74 u75 u76 u77 u78 u79 u80 u81 u82 u83 u84 u85 u86 u87 u88 u89 u90 u91 u92 u93 u94 u95 u96 u97 u98 u99 u100 u101 u102 u103 u104 u105 u106 u107 u108 u109 u110 u111 u112 u113 u114 u115 u116 u117 u118 u119 u120 u121 u122 u123 u124 u125 u126 u127 u128 u129 u130 u131 u132 u133 u134 u135 u136 u137 u138 u139 u140 u141 u142 u143 u144 u145 u146 u147 u148 u149 u150 u151 u152 u153 u154 u155 u156 u157 u158 u159 u160 u161 u162 u163 u164 u165 u166 u167 u168 u169 u170 u171 u172 u173 u174 u175 u176 u177 u178 u179 u180 u181 u182 u183 u184 u185 u186 u187 u188 u189 u190 u191 u192 u193 u194 u195 u196 u197 u198 u199 u200 u201 u202 u203 u204 u205 u206 u207 u208 u209 u210 u211 u212 u213 u214 u215 u216 u217 u218 u219 u220 u221 u222 u223 u224 u225 u226 u227 u228 u229 W hrs
  have HS := hide hrs
  have HX := hide hnext
  have HR := hide hrej
  have kz := hrs.z.cell; have qz := hrs.z.frozen; have zz := hrs.z.lt
  clear hrs hnext hrej
  unfold QQ
  rw [show tl 25 = Code.seq (cmp 25) (tl 26) from rfl]
  conv => arg 2; arg 1; whnf
  by_cases hgo : A = true ∧ ok = true ∧ 0 ≤ N ∧ N ≤ 128 ∧ (nn : Int) = 10 + 2 * N
  · obtain ⟨rfl, rfl, h1, h2, h3⟩ := hgo
    have HX2 := hide (HX.out rfl rfl h1 h2 h3)
    have d1 : ¬ N < 0 := by omega
    have d2 : ¬ (128 : Int) < N := by omega
    have d3 : ((nn : Int) == 10 + 2 * N) = true := by simpa using h3
    clear h3
    go_wp2_with fail
    exact HX2.out _ _ _ _ _ _ _ _ _ _ _ _ _ _ _ _ _ _ _ _ _ _ _ _ _ _ _ _ _ _ _ _ _ _ _ _ _ _ _ _ _ _ _ _ _ _ _ _ _ _ _ _ _ _ _ _ _ _ _ _ _ _ _ _ _ _ _ _ _ _ _ _ _ _ _ _ _ _ _ _ _ _ _ _ _ _ _ _ _ _ _ _ _ _ _ _ _ _ _ _ _ _ _ _ _ _ _ _ _ _ _ _ _ _ _ _ _ _ _ _ _ _ _ _ _ _ _ _ _ _ _ _ _ _ _ _ _ _ _ _ _ _ _ _ _ _ _ _ _ _ _ _ _ _ _ _ _ _ _ _ _ _ _ _ _ _ _ _ _ _ _ _ _ _ _ _ _ _ _ _ _ _ _ _ _ _ _ _ _ _ _ _ _ _ _ _ _ _ _ _ _ _ _ _ _ _ _ _ _ _ _ _ _ _ _ _ _ _ _ _ _ HS.out
  · have HNP := hide (HR.out hgo)
    have hcs : A = false ∨ (A = true ∧ ok = false) ∨ (A = true ∧ ok = true ∧ N < 0) ∨ (A = true ∧ ok = true ∧ ¬ N < 0 ∧ (128 : Int) < N) ∨ (A = true ∧ ok = true ∧ ¬ N < 0 ∧ ¬ (128 : Int) < N ∧ 0 ≤ N ∧ N ≤ 128 ∧ ((nn : Int) == 10 + 2 * N) = false) := by
      cases A
      · exact .inl rfl
      · cases ok
        · exact .inr (.inl ⟨rfl, rfl⟩)
        · rcases Int.lt_or_le N 0 with h1 | h1
          · exact .inr (.inr (.inl ⟨rfl, rfl, h1⟩))
          · rcases Int.lt_or_le 128 N with h2 | h2
            · exact .inr (.inr (.inr (.inl ⟨rfl, rfl, by omega, h2⟩)))
            · refine .inr (.inr (.inr (.inr ⟨rfl, rfl, by omega, by omega, h1, h2, ?_⟩)))
              by_cases h3 : (nn : Int) = 10 + 2 * N
              · exact absurd ⟨rfl, rfl, h1, h2, h3⟩ hgo
              · simpa using h3
    clear hgo
    rcases hcs with rfl | ⟨rfl, rfl⟩ | ⟨rfl, rfl, d1⟩ | ⟨rfl, rfl, d1, d2⟩ | ⟨rfl, rfl, d1, d2, d4, d5, d3⟩
    all_goals
      go_wp2_with fail
      have hz := HS.out.z
      obtain ⟨W6, hW6, hx6⟩ := set10 hz (.int .i64 0) (.int .i64 0) (.int .i64 0) (.int .u64 0) (.int .i64 0) (.int .i64 0) (.int .i64 0) (.slice none 0 0) (.string ⟨#[]⟩) (.string ⟨#[]⟩)
      rw [hW6]
      have k6 := hx6.k.cell; have z6 := hx6.k.lt
      refine bodyPost_ret (v := .tuple #[.agg zact, .bool false]) (by simp [results, Tryd.results19, go_sem, k6, z6]) rfl ⟨.inr ⟨rfl, HNP.out⟩, (HS.out.b).trans (hx6.b.mono (Nat.le_refl _))⟩
end Go.Proofs.YtcdhngppcpgojaaDoor
