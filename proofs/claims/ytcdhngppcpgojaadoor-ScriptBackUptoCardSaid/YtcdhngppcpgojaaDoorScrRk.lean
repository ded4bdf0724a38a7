/- The document's act of a line: from the fields on (printed by gen_scrk.py). -/
import Derived.Test.YtcdhngppcpgojaaDoorScrRj
import Derived.BigRegion
namespace Go.Proofs.YtcdhngppcpgojaaDoor
set_option linter.unusedSimpArgs false
set_option linter.unusedVariables false
open Go.RowKit
def dropS : Nat → Code → Code
  | 0, c => c
  | n + 1, .seq _ b => dropS n b
  | _, c => c
noncomputable def tl (n : Nat) : Code := dropS n ((Tryd.f19.body).getD .skip)
noncomputable def cmp (n : Nat) : Code := match tl n with
  | .seq a _ => a
  | c => c
def QQ (w : World) (ws : List (List UInt8)) : Exit → Act → World → Prop := bodyPost Tryd.prog Tryd.f19 (fun e w' => ToP w.heap.size ws (.bool true) (.bool false) e w' ∧ Below w.heap.size w w')
theorem not_parse_short {ws : List (List UInt8)} (h : ws.length < 10) (y : Ac) : ¬ Parse ws y := fun hy => by
  obtain ⟨n, _, _, h3, _⟩ := path_law hy.p
  omega
theorem not_parse_empty {ws : List (List UInt8)} (h : wat ws 4 = [] ∨ wat ws 8 = []) (y : Ac) : ¬ Parse ws y := fun hy => by
  rcases h with h | h
  · have := hy.t; rw [h] at this; cases this
  · have := hy.o; rw [h] at this; cases this
set_option maxRecDepth 1000000 in
/-- The code from its n-th statement on ends as it should. -/
def St (n : Nat) (w : World) (s : List UInt8) (ws : List (List UInt8)) (gw g nn c : Nat) (A ok : Bool) (cs : Array Value) : Prop :=
  ∀ (u9 u10 u11 u12 u13 u14 u15 u16 u17 u18 u19 u20 u21 u22 u23 u24 u25 u26 u27 u28 u29 u30 u31 u32 u33 u34 u35 u36 u37 u38 u39 u40 u41 u42 u43 u44 u45 u46 u47 u48 u49 u50 u51 u52 u53 u54 u55 u56 u57 u58 u59 u60 u61 u62 u63 u64 u65 u66 u67 u68 u69 u70 u71 u72 u73 u74 u75 u76 u77 u78 u79 u80 u81 u82 u83 u84 u85 u86 u87 u88 u89 u90 u91 u92 u93 u94 u95 u96 u97 u98 u99 u100 u101 u102 u103 u104 u105 u106 u107 u108 u109 u110 u111 u112 u113 u114 u115 u116 u117 u118 u119 u120 u121 u122 u123 u124 u125 u126 u127 u128 u129 u130 u131 u132 u133 u134 u135 u136 u137 u138 u139 u140 u141 u142 u143 u144 u145 u146 u147 u148 u149 u150 u151 u152 u153 u154 u155 u156 u157 u158 u159 u160 u161 u162 u163 u164 u165 u166 u167 u168 u169 u170 u171 u172 u173 u174 u175 u176 u177 u178 u179 u180 u181 u182 u183 u184 u185 u186 u187 u188 u189 u190 u191 u192 u193 u194 u195 u196 u197 u198 u199 u200 u201 u202 u203 u204 u205 u206 u207 u208 u209 u210 u211 u212 u213 u214 u215 u216 u217 u218 u219 u220 u221 u222 u223 u224 u225 u226 u227 u228 u229 : Value) (W : World), RS w ws gw g cs W → Code.wp Tryd.prog (tl n) (QQ w ws) ⟨#[str s, undef, .pointer (some ⟨w.heap.size, 0, none⟩), .bool false, .slice (some ⟨gw, 0, none⟩) nn c, .pointer (some ⟨g, 0, none⟩), .bool ok, .bool A, .int .i64 15, u9, u10, u11, u12, u13, u14, u15, u16, u17, u18, u19, u20, u21, u22, u23, u24, u25, u26, u27, u28, u29, u30, u31, u32, u33, u34, u35, u36, u37, u38, u39, u40, u41, u42, u43, u44, u45, u46, u47, u48, u49, u50, u51, u52, u53, u54, u55, u56, u57, u58, u59, u60, u61, u62, u63, u64, u65, u66, u67, u68, u69, u70, u71, u72, u73, u74, u75, u76, u77, u78, u79, u80, u81, u82, u83, u84, u85, u86, u87, u88, u89, u90, u91, u92, u93, u94, u95, u96, u97, u98, u99, u100, u101, u102, u103, u104, u105, u106, u107, u108, u109, u110, u111, u112, u113, u114, u115, u116, u117, u118, u119, u120, u121, u122, u123, u124, u125, u126, u127, u128, u129, u130, u131, u132, u133, u134, u135, u136, u137, u138, u139, u140, u141, u142, u143, u144, u145, u146, u147, u148, u149, u150, u151, u152, u153, u154, u155, u156, u157, u158, u159, u160, u161, u162, u163, u164, u165, u166, u167, u168, u169, u170, u171, u172, u173, u174, u175, u176, u177, u178, u179, u180, u181, u182, u183, u184, u185, u186, u187, u188, u189, u190, u191, u192, u193, u194, u195, u196, u197, u198, u199, u200, u201, u202, u203, u204, u205, u206, u207, u208, u209, u210, u211, u212, u213, u214, u215, u216, u217, u218, u219, u220, u221, u222, u223, u224, u225, u226, u227, u228, u229], []⟩ W

set_option maxRecDepth 1000000 in
set_option maxHeartbeats 4000000 in
theorem seg1 (w : World) (s : List UInt8) (ws : List (List UInt8)) (gw g nn c : Nat) (A ok : Bool) (kx : Int) (V1 V2 V3 V4 V5 V6 V7 V8 V9 : Value) (hL : lens ws) (hN : ws.length = nn) (h10 : 10 ≤ nn)
    (hnext : ∀ (N : Int) (ok' : Bool), ok' = (numI (wat ws 1)).isSome → (∀ v, numI (wat ws 1) = some v → N = v) → St 9 w s ws gw g nn c (ok' && decide (0 < kx)) ok' #[.int .i64 kx, .int .i64 N, V2, V3, V4, V5, V6, V7, V8, V9]) : St 7 w s ws gw g nn c true ok #[.int .i64 kx, V1, V2, V3, V4, V5, V6, V7, V8, V9] := by
  intro u9 u10 u11 u12 u13 u14 u15 u16 u17 u18 u19 u20 u21 u22 u23 u24 u25 u26 u27 u28 u29 u30 u31 u32 u33 u34 u35 u36 u37 u38 u39 u40 u41 u42 u43 u44 u45 u46 u47 u48 u49 u50 u51 u52 u53 u54 u55 u56 u57 u58 u59 u60 u61 u62 u63 u64 u65 u66 u67 u68 u69 u70 u71 u72 u73 u74 u75 u76 u77 u78 u79 u80 u81 u82 u83 u84 u85 u86 u87 u88 u89 u90 u91 u92 u93 u94 u95 u96 u97 u98 u99 u100 u101 u102 u103 u104 u105 u106 u107 u108 u109 u110 u111 u112 u113 u114 u115 u116 u117 u118 u119 u120 u121 u122 u123 u124 u125 u126 u127 u128 u129 u130 u131 u132 u133 u134 u135 u136 u137 u138 u139 u140 u141 u142 u143 u144 u145 u146 u147 u148 u149 u150 u151 u152 u153 u154 u155 u156 u157 u158 u159 u160 u161 u162 u163 u164 u165 u166 u167 u168 u169 u170 u171 u172 u173 u174 u175 u176 u177 u178 u179 u180 u181 u182 u183 u184 u185 u186 u187 u188 u189 u190 u191 u192 u193 u194 u195 u196 u197 u198 u199 u200 u201 u202 u203 u204 u205 u206 u207 u208 u209 u210 u211 u212 u213 u214 u215 u216 u217 u218 u219 u220 u221 u222 u223 u224 u225 u226 u227 u228 u229 W hrs
  have HS := hide hrs
  have HN := hide hN
  have HL := hide hL
  have HX := hide hnext
  rw [show tl 7 = Code.seq (cmp 7) (Code.seq (cmp 8) (tl 9)) from rfl]
  conv => arg 2; arg 1; whnf
  conv => arg 2; arg 2; arg 1; whnf
  have kw := HS.out.wd 1 (by rw [HN.out]; omega)
  have zw := HS.out.wl
  have kg := HS.out.a.cell; have qg := HS.out.a.frozen; have zg := HS.out.a.lt
  clear hrs hN hL hnext
  go_upto_region 13 with (go_at_call 41; (refine (signed_any (wat ws 1) _ (HL.out.drop 1).head).mono ?_); rintro e w6 ⟨⟨N, ok', rfl, hok, hN⟩, hb⟩; have HS2 := hide (HS.out.below hb); have HO := hide hok; have HV := hide hN; clear hb hok hN kw zw kg qg zg; have kg := HS2.out.a.cell; have qg := HS2.out.a.frozen; have zg := HS2.out.a.lt)
  obtain ⟨W2, hW, hs⟩ : ∃ W', w6.setCell ⟨g, 1, none⟩ (.int .i64 N) = W' ∧ RS w ws gw g #[.int .i64 kx, .int .i64 N, V2, V3, V4, V5, V6, V7, V8, V9] W' := ⟨_, rfl, HS2.out.set 1 _⟩
  rw [hW]
  clear hW kg qg zg
  have HX2 := hide (HX.out N ok' HO.out HV.out)
  have kg := hs.a.cell; have qg := hs.a.frozen; have zg := hs.a.lt
  have HS3 := hide hs
  clear hs
  cases ok'
  · go_wp2_with fail
    exact HX2.out _ _ _ _ _ _ _ _ _ _ _ _ _ _ _ _ _ _ _ _ _ _ _ _ _ _ _ _ _ _ _ _ _ _ _ _ _ _ _ _ _ _ _ _ _ _ _ _ _ _ _ _ _ _ _ _ _ _ _ _ _ _ _ _ _ _ _ _ _ _ _ _ _ _ _ _ _ _ _ _ _ _ _ _ _ _ _ _ _ _ _ _ _ _ _ _ _ _ _ _ _ _ _ _ _ _ _ _ _ _ _ _ _ _ _ _ _ _ _ _ _ _ _ _ _ _ _ _ _ _ _ _ _ _ _ _ _ _ _ _ _ _ _ _ _ _ _ _ _ _ _ _ _ _ _ _ _ _ _ _ _ _ _ _ _ _ _ _ _ _ _ _ _ _ _ _ _ _ _ _ _ _ _ _ _ _ _ _ _ _ _ _ _ _ _ _ _ _ _ _ _ _ _ _ _ _ _ _ _ _ _ _ _ _ _ _ _ _ _ _ _ _ HS3.out
  · by_cases hp : 0 < kx
    · have e : (true && decide (0 < kx)) = true := by simp [hp]
      rw [e] at HX2
      go_wp2_with fail
      exact HX2.out _ _ _ _ _ _ _ _ _ _ _ _ _ _ _ _ _ _ _ _ _ _ _ _ _ _ _ _ _ _ _ _ _ _ _ _ _ _ _ _ _ _ _ _ _ _ _ _ _ _ _ _ _ _ _ _ _ _ _ _ _ _ _ _ _ _ _ _ _ _ _ _ _ _ _ _ _ _ _ _ _ _ _ _ _ _ _ _ _ _ _ _ _ _ _ _ _ _ _ _ _ _ _ _ _ _ _ _ _ _ _ _ _ _ _ _ _ _ _ _ _ _ _ _ _ _ _ _ _ _ _ _ _ _ _ _ _ _ _ _ _ _ _ _ _ _ _ _ _ _ _ _ _ _ _ _ _ _ _ _ _ _ _ _ _ _ _ _ _ _ _ _ _ _ _ _ _ _ _ _ _ _ _ _ _ _ _ _ _ _ _ _ _ _ _ _ _ _ _ _ _ _ _ _ _ _ _ _ _ _ _ _ _ _ _ _ _ _ _ _ _ _ HS3.out
    · have e : (true && decide (0 < kx)) = false := by simp [hp]
      rw [e] at HX2
      go_wp2_with fail
      exact HX2.out _ _ _ _ _ _ _ _ _ _ _ _ _ _ _ _ _ _ _ _ _ _ _ _ _ _ _ _ _ _ _ _ _ _ _ _ _ _ _ _ _ _ _ _ _ _ _ _ _ _ _ _ _ _ _ _ _ _ _ _ _ _ _ _ _ _ _ _ _ _ _ _ _ _ _ _ _ _ _ _ _ _ _ _ _ _ _ _ _ _ _ _ _ _ _ _ _ _ _ _ _ _ _ _ _ _ _ _ _ _ _ _ _ _ _ _ _ _ _ _ _ _ _ _ _ _ _ _ _ _ _ _ _ _ _ _ _ _ _ _ _ _ _ _ _ _ _ _ _ _ _ _ _ _ _ _ _ _ _ _ _ _ _ _ _ _ _ _ _ _ _ _ _ _ _ _ _ _ _ _ _ _ _ _ _ _ _ _ _ _ _ _ _ _ _ _ _ _ _ _ _ _ _ _ _ _ _ _ _ _ _ _ _ _ _ _ _ _ _ _ _ _ HS3.out
set_option maxRecDepth 1000000 in
set_option maxHeartbeats 4000000 in
theorem seg2 (w : World) (s : List UInt8) (ws : List (List UInt8)) (gw g nn c : Nat) (A ok : Bool) (V0 V1 V2 V3 V4 V5 V6 V7 V8 V9 : Value) (hL : lens ws) (hN : ws.length = nn) (h10 : 10 ≤ nn)
    (hnext : ∀ (N : Int) (ok' : Bool), ok' = (numI (wat ws 2)).isSome → (∀ v, numI (wat ws 2) = some v → N = v) → St 11 w s ws gw g nn c (A && ok') ok' #[V0, V1, .int .i64 N, V3, V4, V5, V6, V7, V8, V9]) : St 9 w s ws gw g nn c A ok #[V0, V1, V2, V3, V4, V5, V6, V7, V8, V9] := by
  intro u9 u10 u11 u12 u13 u14 u15 u16 u17 u18 u19 u20 u21 u22 u23 u24 u25 u26 u27 u28 u29 u30 u31 u32 u33 u34 u35 u36 u37 u38 u39 u40 u41 u42 u43 u44 u45 u46 u47 u48 u49 u50 u51 u52 u53 u54 u55 u56 u57 u58 u59 u60 u61 u62 u63 u64 u65 u66 u67 u68 u69 u70 u71 u72 u73 u74 u75 u76 u77 u78 u79 u80 u81 u82 u83 u84 u85 u86 u87 u88 u89 u90 u91 u92 u93 u94 u95 u96 u97 u98 u99 u100 u101 u102 u103 u104 u105 u106 u107 u108 u109 u110 u111 u112 u113 u114 u115 u116 u117 u118 u119 u120 u121 u122 u123 u124 u125 u126 u127 u128 u129 u130 u131 u132 u133 u134 u135 u136 u137 u138 u139 u140 u141 u142 u143 u144 u145 u146 u147 u148 u149 u150 u151 u152 u153 u154 u155 u156 u157 u158 u159 u160 u161 u162 u163 u164 u165 u166 u167 u168 u169 u170 u171 u172 u173 u174 u175 u176 u177 u178 u179 u180 u181 u182 u183 u184 u185 u186 u187 u188 u189 u190 u191 u192 u193 u194 u195 u196 u197 u198 u199 u200 u201 u202 u203 u204 u205 u206 u207 u208 u209 u210 u211 u212 u213 u214 u215 u216 u217 u218 u219 u220 u221 u222 u223 u224 u225 u226 u227 u228 u229 W hrs
  have HS := hide hrs
  have HN := hide hN
  have HL := hide hL
  have HX := hide hnext
  rw [show tl 9 = Code.seq (cmp 9) (Code.seq (cmp 10) (tl 11)) from rfl]
  conv => arg 2; arg 1; whnf
  conv => arg 2; arg 2; arg 1; whnf
  have kw := HS.out.wd 2 (by rw [HN.out]; omega)
  have zw := HS.out.wl
  have kg := HS.out.a.cell; have qg := HS.out.a.frozen; have zg := HS.out.a.lt
  clear hrs hN hL hnext
  go_upto_region 15 with (go_at_call 41; (refine (signed_any (wat ws 2) _ (HL.out.drop 2).head).mono ?_); rintro e w6 ⟨⟨N, ok', rfl, hok, hN⟩, hb⟩; have HS2 := hide (HS.out.below hb); have HO := hide hok; have HV := hide hN; clear hb hok hN kw zw kg qg zg; have kg := HS2.out.a.cell; have qg := HS2.out.a.frozen; have zg := HS2.out.a.lt)
  obtain ⟨W2, hW, hs⟩ : ∃ W', w6.setCell ⟨g, 2, none⟩ (.int .i64 N) = W' ∧ RS w ws gw g #[V0, V1, .int .i64 N, V3, V4, V5, V6, V7, V8, V9] W' := ⟨_, rfl, HS2.out.set 2 _⟩
  rw [hW]
  clear hW kg qg zg
  have HX2 := hide (HX.out N ok' HO.out HV.out)
  have HS3 := hide hs
  clear hs
  cases A
  · go_wp2_with fail
    exact HX2.out _ _ _ _ _ _ _ _ _ _ _ _ _ _ _ _ _ _ _ _ _ _ _ _ _ _ _ _ _ _ _ _ _ _ _ _ _ _ _ _ _ _ _ _ _ _ _ _ _ _ _ _ _ _ _ _ _ _ _ _ _ _ _ _ _ _ _ _ _ _ _ _ _ _ _ _ _ _ _ _ _ _ _ _ _ _ _ _ _ _ _ _ _ _ _ _ _ _ _ _ _ _ _ _ _ _ _ _ _ _ _ _ _ _ _ _ _ _ _ _ _ _ _ _ _ _ _ _ _ _ _ _ _ _ _ _ _ _ _ _ _ _ _ _ _ _ _ _ _ _ _ _ _ _ _ _ _ _ _ _ _ _ _ _ _ _ _ _ _ _ _ _ _ _ _ _ _ _ _ _ _ _ _ _ _ _ _ _ _ _ _ _ _ _ _ _ _ _ _ _ _ _ _ _ _ _ _ _ _ _ _ _ _ _ _ _ _ _ _ _ _ _ HS3.out
  · cases ok'
    · go_wp2_with fail
      exact HX2.out _ _ _ _ _ _ _ _ _ _ _ _ _ _ _ _ _ _ _ _ _ _ _ _ _ _ _ _ _ _ _ _ _ _ _ _ _ _ _ _ _ _ _ _ _ _ _ _ _ _ _ _ _ _ _ _ _ _ _ _ _ _ _ _ _ _ _ _ _ _ _ _ _ _ _ _ _ _ _ _ _ _ _ _ _ _ _ _ _ _ _ _ _ _ _ _ _ _ _ _ _ _ _ _ _ _ _ _ _ _ _ _ _ _ _ _ _ _ _ _ _ _ _ _ _ _ _ _ _ _ _ _ _ _ _ _ _ _ _ _ _ _ _ _ _ _ _ _ _ _ _ _ _ _ _ _ _ _ _ _ _ _ _ _ _ _ _ _ _ _ _ _ _ _ _ _ _ _ _ _ _ _ _ _ _ _ _ _ _ _ _ _ _ _ _ _ _ _ _ _ _ _ _ _ _ _ _ _ _ _ _ _ _ _ _ _ _ _ _ _ _ _ HS3.out
    · go_wp2_with fail
      exact HX2.out _ _ _ _ _ _ _ _ _ _ _ _ _ _ _ _ _ _ _ _ _ _ _ _ _ _ _ _ _ _ _ _ _ _ _ _ _ _ _ _ _ _ _ _ _ _ _ _ _ _ _ _ _ _ _ _ _ _ _ _ _ _ _ _ _ _ _ _ _ _ _ _ _ _ _ _ _ _ _ _ _ _ _ _ _ _ _ _ _ _ _ _ _ _ _ _ _ _ _ _ _ _ _ _ _ _ _ _ _ _ _ _ _ _ _ _ _ _ _ _ _ _ _ _ _ _ _ _ _ _ _ _ _ _ _ _ _ _ _ _ _ _ _ _ _ _ _ _ _ _ _ _ _ _ _ _ _ _ _ _ _ _ _ _ _ _ _ _ _ _ _ _ _ _ _ _ _ _ _ _ _ _ _ _ _ _ _ _ _ _ _ _ _ _ _ _ _ _ _ _ _ _ _ _ _ _ _ _ _ _ _ _ _ _ _ _ _ _ _ _ _ _ HS3.out
set_option maxRecDepth 1000000 in
set_option maxHeartbeats 4000000 in
theorem seg3 (w : World) (s : List UInt8) (ws : List (List UInt8)) (gw g nn c : Nat) (A ok : Bool) (V0 V1 V2 V3 V4 V5 V6 V7 V8 V9 : Value) (hL : lens ws) (hN : ws.length = nn) (h10 : 10 ≤ nn)
    (hnext : ∀ (N : Int) (ok' : Bool), ok' = (numU (wat ws 3)).isSome → (∀ v, numU (wat ws 3) = some v → N = (v : Int)) → St 13 w s ws gw g nn c (A && ok') ok' #[V0, V1, V2, .int .u64 N, V4, V5, V6, V7, V8, V9]) : St 11 w s ws gw g nn c A ok #[V0, V1, V2, V3, V4, V5, V6, V7, V8, V9] := by
  intro u9 u10 u11 u12 u13 u14 u15 u16 u17 u18 u19 u20 u21 u22 u23 u24 u25 u26 u27 u28 u29 u30 u31 u32 u33 u34 u35 u36 u37 u38 u39 u40 u41 u42 u43 u44 u45 u46 u47 u48 u49 u50 u51 u52 u53 u54 u55 u56 u57 u58 u59 u60 u61 u62 u63 u64 u65 u66 u67 u68 u69 u70 u71 u72 u73 u74 u75 u76 u77 u78 u79 u80 u81 u82 u83 u84 u85 u86 u87 u88 u89 u90 u91 u92 u93 u94 u95 u96 u97 u98 u99 u100 u101 u102 u103 u104 u105 u106 u107 u108 u109 u110 u111 u112 u113 u114 u115 u116 u117 u118 u119 u120 u121 u122 u123 u124 u125 u126 u127 u128 u129 u130 u131 u132 u133 u134 u135 u136 u137 u138 u139 u140 u141 u142 u143 u144 u145 u146 u147 u148 u149 u150 u151 u152 u153 u154 u155 u156 u157 u158 u159 u160 u161 u162 u163 u164 u165 u166 u167 u168 u169 u170 u171 u172 u173 u174 u175 u176 u177 u178 u179 u180 u181 u182 u183 u184 u185 u186 u187 u188 u189 u190 u191 u192 u193 u194 u195 u196 u197 u198 u199 u200 u201 u202 u203 u204 u205 u206 u207 u208 u209 u210 u211 u212 u213 u214 u215 u216 u217 u218 u219 u220 u221 u222 u223 u224 u225 u226 u227 u228 u229 W hrs
  have HS := hide hrs
  have HN := hide hN
  have HL := hide hL
  have HX := hide hnext
  rw [show tl 11 = Code.seq (cmp 11) (Code.seq (cmp 12) (tl 13)) from rfl]
  conv => arg 2; arg 1; whnf
  conv => arg 2; arg 2; arg 1; whnf
  have kw := HS.out.wd 3 (by rw [HN.out]; omega)
  have zw := HS.out.wl
  have kg := HS.out.a.cell; have qg := HS.out.a.frozen; have zg := HS.out.a.lt
  clear hrs hN hL hnext
  go_upto_region 17 with (go_at_call 42; (refine (num_any (wat ws 3) _ (HL.out.drop 3).head).mono ?_); rintro e w6 ⟨⟨N, ok', rfl, hok, hN⟩, hb⟩; have HS2 := hide (HS.out.below hb); have HO := hide hok; have HV := hide hN; clear hb hok hN kw zw kg qg zg; have kg := HS2.out.a.cell; have qg := HS2.out.a.frozen; have zg := HS2.out.a.lt)
  obtain ⟨W2, hW, hs⟩ : ∃ W', w6.setCell ⟨g, 3, none⟩ (.int .u64 N) = W' ∧ RS w ws gw g #[V0, V1, V2, .int .u64 N, V4, V5, V6, V7, V8, V9] W' := ⟨_, rfl, HS2.out.set 3 _⟩
  rw [hW]
  clear hW kg qg zg
  have HX2 := hide (HX.out N ok' HO.out HV.out)
  have HS3 := hide hs
  clear hs
  cases A
  · go_wp2_with fail
    exact HX2.out _ _ _ _ _ _ _ _ _ _ _ _ _ _ _ _ _ _ _ _ _ _ _ _ _ _ _ _ _ _ _ _ _ _ _ _ _ _ _ _ _ _ _ _ _ _ _ _ _ _ _ _ _ _ _ _ _ _ _ _ _ _ _ _ _ _ _ _ _ _ _ _ _ _ _ _ _ _ _ _ _ _ _ _ _ _ _ _ _ _ _ _ _ _ _ _ _ _ _ _ _ _ _ _ _ _ _ _ _ _ _ _ _ _ _ _ _ _ _ _ _ _ _ _ _ _ _ _ _ _ _ _ _ _ _ _ _ _ _ _ _ _ _ _ _ _ _ _ _ _ _ _ _ _ _ _ _ _ _ _ _ _ _ _ _ _ _ _ _ _ _ _ _ _ _ _ _ _ _ _ _ _ _ _ _ _ _ _ _ _ _ _ _ _ _ _ _ _ _ _ _ _ _ _ _ _ _ _ _ _ _ _ _ _ _ _ _ _ _ _ _ _ HS3.out
  · cases ok'
    · go_wp2_with fail
      exact HX2.out _ _ _ _ _ _ _ _ _ _ _ _ _ _ _ _ _ _ _ _ _ _ _ _ _ _ _ _ _ _ _ _ _ _ _ _ _ _ _ _ _ _ _ _ _ _ _ _ _ _ _ _ _ _ _ _ _ _ _ _ _ _ _ _ _ _ _ _ _ _ _ _ _ _ _ _ _ _ _ _ _ _ _ _ _ _ _ _ _ _ _ _ _ _ _ _ _ _ _ _ _ _ _ _ _ _ _ _ _ _ _ _ _ _ _ _ _ _ _ _ _ _ _ _ _ _ _ _ _ _ _ _ _ _ _ _ _ _ _ _ _ _ _ _ _ _ _ _ _ _ _ _ _ _ _ _ _ _ _ _ _ _ _ _ _ _ _ _ _ _ _ _ _ _ _ _ _ _ _ _ _ _ _ _ _ _ _ _ _ _ _ _ _ _ _ _ _ _ _ _ _ _ _ _ _ _ _ _ _ _ _ _ _ _ _ _ _ _ _ _ _ _ HS3.out
    · go_wp2_with fail
      exact HX2.out _ _ _ _ _ _ _ _ _ _ _ _ _ _ _ _ _ _ _ _ _ _ _ _ _ _ _ _ _ _ _ _ _ _ _ _ _ _ _ _ _ _ _ _ _ _ _ _ _ _ _ _ _ _ _ _ _ _ _ _ _ _ _ _ _ _ _ _ _ _ _ _ _ _ _ _ _ _ _ _ _ _ _ _ _ _ _ _ _ _ _ _ _ _ _ _ _ _ _ _ _ _ _ _ _ _ _ _ _ _ _ _ _ _ _ _ _ _ _ _ _ _ _ _ _ _ _ _ _ _ _ _ _ _ _ _ _ _ _ _ _ _ _ _ _ _ _ _ _ _ _ _ _ _ _ _ _ _ _ _ _ _ _ _ _ _ _ _ _ _ _ _ _ _ _ _ _ _ _ _ _ _ _ _ _ _ _ _ _ _ _ _ _ _ _ _ _ _ _ _ _ _ _ _ _ _ _ _ _ _ _ _ _ _ _ _ _ _ _ _ _ _ HS3.out
set_option maxRecDepth 1000000 in
set_option maxHeartbeats 4000000 in
theorem seg4 (w : World) (s : List UInt8) (ws : List (List UInt8)) (gw g nn c : Nat) (A ok : Bool) (V0 V1 V2 V3 V4 V5 V6 V7 V8 V9 : Value) (hL : lens ws) (hN : ws.length = nn) (h10 : 10 ≤ nn)
    (hnext : ∀ (N : List UInt8) (ok' : Bool), ok' = (unhexO (wat ws 4)).isSome → (∀ v, unhexO (wat ws 4) = some v → N = v) → St 16 w s ws gw g nn c (A && ok') ok' #[V0, V1, V2, V3, V4, V5, V6, V7, V8, str N]) : St 14 w s ws gw g nn c A ok #[V0, V1, V2, V3, V4, V5, V6, V7, V8, V9] := by
  intro u9 u10 u11 u12 u13 u14 u15 u16 u17 u18 u19 u20 u21 u22 u23 u24 u25 u26 u27 u28 u29 u30 u31 u32 u33 u34 u35 u36 u37 u38 u39 u40 u41 u42 u43 u44 u45 u46 u47 u48 u49 u50 u51 u52 u53 u54 u55 u56 u57 u58 u59 u60 u61 u62 u63 u64 u65 u66 u67 u68 u69 u70 u71 u72 u73 u74 u75 u76 u77 u78 u79 u80 u81 u82 u83 u84 u85 u86 u87 u88 u89 u90 u91 u92 u93 u94 u95 u96 u97 u98 u99 u100 u101 u102 u103 u104 u105 u106 u107 u108 u109 u110 u111 u112 u113 u114 u115 u116 u117 u118 u119 u120 u121 u122 u123 u124 u125 u126 u127 u128 u129 u130 u131 u132 u133 u134 u135 u136 u137 u138 u139 u140 u141 u142 u143 u144 u145 u146 u147 u148 u149 u150 u151 u152 u153 u154 u155 u156 u157 u158 u159 u160 u161 u162 u163 u164 u165 u166 u167 u168 u169 u170 u171 u172 u173 u174 u175 u176 u177 u178 u179 u180 u181 u182 u183 u184 u185 u186 u187 u188 u189 u190 u191 u192 u193 u194 u195 u196 u197 u198 u199 u200 u201 u202 u203 u204 u205 u206 u207 u208 u209 u210 u211 u212 u213 u214 u215 u216 u217 u218 u219 u220 u221 u222 u223 u224 u225 u226 u227 u228 u229 W hrs
  have HS := hide hrs
  have HN := hide hN
  have HL := hide hL
  have HX := hide hnext
  rw [show tl 14 = Code.seq (cmp 14) (Code.seq (cmp 15) (tl 16)) from rfl]
  conv => arg 2; arg 1; whnf
  conv => arg 2; arg 2; arg 1; whnf
  have kw := HS.out.wd 4 (by rw [HN.out]; omega)
  have zw := HS.out.wl
  have kg := HS.out.a.cell; have qg := HS.out.a.frozen; have zg := HS.out.a.lt
  clear hrs hN hL hnext
  go_upto_region 21 with (go_at_call 43; (refine (unhex_any (wat ws 4) _ (HL.out.drop 4).head).mono ?_); rintro e w6 ⟨⟨N, ok', rfl, hok, hN⟩, hb⟩; have HS2 := hide (HS.out.below hb); have HO := hide hok; have HV := hide hN; clear hb hok hN kw zw kg qg zg; have kg := HS2.out.a.cell; have qg := HS2.out.a.frozen; have zg := HS2.out.a.lt)
  obtain ⟨W2, hW, hs⟩ : ∃ W', w6.setCell ⟨g, 9, none⟩ (str N) = W' ∧ RS w ws gw g #[V0, V1, V2, V3, V4, V5, V6, V7, V8, str N] W' := ⟨_, rfl, HS2.out.set 9 _⟩
  rw [hW]
  clear hW kg qg zg
  have HX2 := hide (HX.out N ok' HO.out HV.out)
  have HS3 := hide hs
  clear hs
  cases A
  · go_wp2_with fail
    exact HX2.out _ _ _ _ _ _ _ _ _ _ _ _ _ _ _ _ _ _ _ _ _ _ _ _ _ _ _ _ _ _ _ _ _ _ _ _ _ _ _ _ _ _ _ _ _ _ _ _ _ _ _ _ _ _ _ _ _ _ _ _ _ _ _ _ _ _ _ _ _ _ _ _ _ _ _ _ _ _ _ _ _ _ _ _ _ _ _ _ _ _ _ _ _ _ _ _ _ _ _ _ _ _ _ _ _ _ _ _ _ _ _ _ _ _ _ _ _ _ _ _ _ _ _ _ _ _ _ _ _ _ _ _ _ _ _ _ _ _ _ _ _ _ _ _ _ _ _ _ _ _ _ _ _ _ _ _ _ _ _ _ _ _ _ _ _ _ _ _ _ _ _ _ _ _ _ _ _ _ _ _ _ _ _ _ _ _ _ _ _ _ _ _ _ _ _ _ _ _ _ _ _ _ _ _ _ _ _ _ _ _ _ _ _ _ _ _ _ _ _ _ _ _ HS3.out
  · cases ok'
    · go_wp2_with fail
      exact HX2.out _ _ _ _ _ _ _ _ _ _ _ _ _ _ _ _ _ _ _ _ _ _ _ _ _ _ _ _ _ _ _ _ _ _ _ _ _ _ _ _ _ _ _ _ _ _ _ _ _ _ _ _ _ _ _ _ _ _ _ _ _ _ _ _ _ _ _ _ _ _ _ _ _ _ _ _ _ _ _ _ _ _ _ _ _ _ _ _ _ _ _ _ _ _ _ _ _ _ _ _ _ _ _ _ _ _ _ _ _ _ _ _ _ _ _ _ _ _ _ _ _ _ _ _ _ _ _ _ _ _ _ _ _ _ _ _ _ _ _ _ _ _ _ _ _ _ _ _ _ _ _ _ _ _ _ _ _ _ _ _ _ _ _ _ _ _ _ _ _ _ _ _ _ _ _ _ _ _ _ _ _ _ _ _ _ _ _ _ _ _ _ _ _ _ _ _ _ _ _ _ _ _ _ _ _ _ _ _ _ _ _ _ _ _ _ _ _ _ _ _ _ _ HS3.out
    · go_wp2_with fail
      exact HX2.out _ _ _ _ _ _ _ _ _ _ _ _ _ _ _ _ _ _ _ _ _ _ _ _ _ _ _ _ _ _ _ _ _ _ _ _ _ _ _ _ _ _ _ _ _ _ _ _ _ _ _ _ _ _ _ _ _ _ _ _ _ _ _ _ _ _ _ _ _ _ _ _ _ _ _ _ _ _ _ _ _ _ _ _ _ _ _ _ _ _ _ _ _ _ _ _ _ _ _ _ _ _ _ _ _ _ _ _ _ _ _ _ _ _ _ _ _ _ _ _ _ _ _ _ _ _ _ _ _ _ _ _ _ _ _ _ _ _ _ _ _ _ _ _ _ _ _ _ _ _ _ _ _ _ _ _ _ _ _ _ _ _ _ _ _ _ _ _ _ _ _ _ _ _ _ _ _ _ _ _ _ _ _ _ _ _ _ _ _ _ _ _ _ _ _ _ _ _ _ _ _ _ _ _ _ _ _ _ _ _ _ _ _ _ _ _ _ _ _ _ _ _ HS3.out
set_option maxRecDepth 1000000 in
set_option maxHeartbeats 4000000 in
theorem seg5 (w : World) (s : List UInt8) (ws : List (List UInt8)) (gw g nn c : Nat) (A ok : Bool) (V0 V1 V2 V3 V4 V5 V6 V7 V8 V9 : Value) (hL : lens ws) (hN : ws.length = nn) (h10 : 10 ≤ nn)
    (hnext : ∀ (N : Int) (ok' : Bool), ok' = (numI (wat ws 5)).isSome → (∀ v, numI (wat ws 5) = some v → N = v) → St 18 w s ws gw g nn c (A && ok') ok' #[V0, V1, V2, V3, .int .i64 N, V5, V6, V7, V8, V9]) : St 16 w s ws gw g nn c A ok #[V0, V1, V2, V3, V4, V5, V6, V7, V8, V9] := by
  intro u9 u10 u11 u12 u13 u14 u15 u16 u17 u18 u19 u20 u21 u22 u23 u24 u25 u26 u27 u28 u29 u30 u31 u32 u33 u34 u35 u36 u37 u38 u39 u40 u41 u42 u43 u44 u45 u46 u47 u48 u49 u50 u51 u52 u53 u54 u55 u56 u57 u58 u59 u60 u61 u62 u63 u64 u65 u66 u67 u68 u69 u70 u71 u72 u73 u74 u75 u76 u77 u78 u79 u80 u81 u82 u83 u84 u85 u86 u87 u88 u89 u90 u91 u92 u93 u94 u95 u96 u97 u98 u99 u100 u101 u102 u103 u104 u105 u106 u107 u108 u109 u110 u111 u112 u113 u114 u115 u116 u117 u118 u119 u120 u121 u122 u123 u124 u125 u126 u127 u128 u129 u130 u131 u132 u133 u134 u135 u136 u137 u138 u139 u140 u141 u142 u143 u144 u145 u146 u147 u148 u149 u150 u151 u152 u153 u154 u155 u156 u157 u158 u159 u160 u161 u162 u163 u164 u165 u166 u167 u168 u169 u170 u171 u172 u173 u174 u175 u176 u177 u178 u179 u180 u181 u182 u183 u184 u185 u186 u187 u188 u189 u190 u191 u192 u193 u194 u195 u196 u197 u198 u199 u200 u201 u202 u203 u204 u205 u206 u207 u208 u209 u210 u211 u212 u213 u214 u215 u216 u217 u218 u219 u220 u221 u222 u223 u224 u225 u226 u227 u228 u229 W hrs
  have HS := hide hrs
  have HN := hide hN
  have HL := hide hL
  have HX := hide hnext
  rw [show tl 16 = Code.seq (cmp 16) (Code.seq (cmp 17) (tl 18)) from rfl]
  conv => arg 2; arg 1; whnf
  conv => arg 2; arg 2; arg 1; whnf
  have kw := HS.out.wd 5 (by rw [HN.out]; omega)
  have zw := HS.out.wl
  have kg := HS.out.a.cell; have qg := HS.out.a.frozen; have zg := HS.out.a.lt
  clear hrs hN hL hnext
  go_upto_region 23 with (go_at_call 41; (refine (signed_any (wat ws 5) _ (HL.out.drop 5).head).mono ?_); rintro e w6 ⟨⟨N, ok', rfl, hok, hN⟩, hb⟩; have HS2 := hide (HS.out.below hb); have HO := hide hok; have HV := hide hN; clear hb hok hN kw zw kg qg zg; have kg := HS2.out.a.cell; have qg := HS2.out.a.frozen; have zg := HS2.out.a.lt)
  obtain ⟨W2, hW, hs⟩ : ∃ W', w6.setCell ⟨g, 4, none⟩ (.int .i64 N) = W' ∧ RS w ws gw g #[V0, V1, V2, V3, .int .i64 N, V5, V6, V7, V8, V9] W' := ⟨_, rfl, HS2.out.set 4 _⟩
  rw [hW]
  clear hW kg qg zg
  have HX2 := hide (HX.out N ok' HO.out HV.out)
  have HS3 := hide hs
  clear hs
  cases A
  · go_wp2_with fail
    exact HX2.out _ _ _ _ _ _ _ _ _ _ _ _ _ _ _ _ _ _ _ _ _ _ _ _ _ _ _ _ _ _ _ _ _ _ _ _ _ _ _ _ _ _ _ _ _ _ _ _ _ _ _ _ _ _ _ _ _ _ _ _ _ _ _ _ _ _ _ _ _ _ _ _ _ _ _ _ _ _ _ _ _ _ _ _ _ _ _ _ _ _ _ _ _ _ _ _ _ _ _ _ _ _ _ _ _ _ _ _ _ _ _ _ _ _ _ _ _ _ _ _ _ _ _ _ _ _ _ _ _ _ _ _ _ _ _ _ _ _ _ _ _ _ _ _ _ _ _ _ _ _ _ _ _ _ _ _ _ _ _ _ _ _ _ _ _ _ _ _ _ _ _ _ _ _ _ _ _ _ _ _ _ _ _ _ _ _ _ _ _ _ _ _ _ _ _ _ _ _ _ _ _ _ _ _ _ _ _ _ _ _ _ _ _ _ _ _ _ _ _ _ _ _ HS3.out
  · cases ok'
    · go_wp2_with fail
      exact HX2.out _ _ _ _ _ _ _ _ _ _ _ _ _ _ _ _ _ _ _ _ _ _ _ _ _ _ _ _ _ _ _ _ _ _ _ _ _ _ _ _ _ _ _ _ _ _ _ _ _ _ _ _ _ _ _ _ _ _ _ _ _ _ _ _ _ _ _ _ _ _ _ _ _ _ _ _ _ _ _ _ _ _ _ _ _ _ _ _ _ _ _ _ _ _ _ _ _ _ _ _ _ _ _ _ _ _ _ _ _ _ _ _ _ _ _ _ _ _ _ _ _ _ _ _ _ _ _ _ _ _ _ _ _ _ _ _ _ _ _ _ _ _ _ _ _ _ _ _ _ _ _ _ _ _ _ _ _ _ _ _ _ _ _ _ _ _ _ _ _ _ _ _ _ _ _ _ _ _ _ _ _ _ _ _ _ _ _ _ _ _ _ _ _ _ _ _ _ _ _ _ _ _ _ _ _ _ _ _ _ _ _ _ _ _ _ _ _ _ _ _ _ _ HS3.out
    · go_wp2_with fail
      exact HX2.out _ _ _ _ _ _ _ _ _ _ _ _ _ _ _ _ _ _ _ _ _ _ _ _ _ _ _ _ _ _ _ _ _ _ _ _ _ _ _ _ _ _ _ _ _ _ _ _ _ _ _ _ _ _ _ _ _ _ _ _ _ _ _ _ _ _ _ _ _ _ _ _ _ _ _ _ _ _ _ _ _ _ _ _ _ _ _ _ _ _ _ _ _ _ _ _ _ _ _ _ _ _ _ _ _ _ _ _ _ _ _ _ _ _ _ _ _ _ _ _ _ _ _ _ _ _ _ _ _ _ _ _ _ _ _ _ _ _ _ _ _ _ _ _ _ _ _ _ _ _ _ _ _ _ _ _ _ _ _ _ _ _ _ _ _ _ _ _ _ _ _ _ _ _ _ _ _ _ _ _ _ _ _ _ _ _ _ _ _ _ _ _ _ _ _ _ _ _ _ _ _ _ _ _ _ _ _ _ _ _ _ _ _ _ _ _ _ _ _ _ _ _ HS3.out
set_option maxRecDepth 1000000 in
set_option maxHeartbeats 4000000 in
theorem seg6 (w : World) (s : List UInt8) (ws : List (List UInt8)) (gw g nn c : Nat) (A ok : Bool) (V0 V1 V2 V3 V4 V5 V6 V7 V8 V9 : Value) (hL : lens ws) (hN : ws.length = nn) (h10 : 10 ≤ nn)
    (hnext : ∀ (N : Int) (ok' : Bool), ok' = (numI (wat ws 6)).isSome → (∀ v, numI (wat ws 6) = some v → N = v) → St 20 w s ws gw g nn c (A && ok') ok' #[V0, V1, V2, V3, V4, .int .i64 N, V6, V7, V8, V9]) : St 18 w s ws gw g nn c A ok #[V0, V1, V2, V3, V4, V5, V6, V7, V8, V9] := by
  intro u9 u10 u11 u12 u13 u14 u15 u16 u17 u18 u19 u20 u21 u22 u23 u24 u25 u26 u27 u28 u29 u30 u31 u32 u33 u34 u35 u36 u37 u38 u39 u40 u41 u42 u43 u44 u45 u46 u47 u48 u49 u50 u51 u52 u53 u54 u55 u56 u57 u58 u59 u60 u61 u62 u63 u64 u65 u66 u67 u68 u69 u70 u71 u72 u73 u74 u75 u76 u77 u78 u79 u80 u81 u82 u83 u84 u85 u86 u87 u88 u89 u90 u91 u92 u93 u94 u95 u96 u97 u98 u99 u100 u101 u102 u103 u104 u105 u106 u107 u108 u109 u110 u111 u112 u113 u114 u115 u116 u117 u118 u119 u120 u121 u122 u123 u124 u125 u126 u127 u128 u129 u130 u131 u132 u133 u134 u135 u136 u137 u138 u139 u140 u141 u142 u143 u144 u145 u146 u147 u148 u149 u150 u151 u152 u153 u154 u155 u156 u157 u158 u159 u160 u161 u162 u163 u164 u165 u166 u167 u168 u169 u170 u171 u172 u173 u174 u175 u176 u177 u178 u179 u180 u181 u182 u183 u184 u185 u186 u187 u188 u189 u190 u191 u192 u193 u194 u195 u196 u197 u198 u199 u200 u201 u202 u203 u204 u205 u206 u207 u208 u209 u210 u211 u212 u213 u214 u215 u216 u217 u218 u219 u220 u221 u222 u223 u224 u225 u226 u227 u228 u229 W hrs
  have HS := hide hrs
  have HN := hide hN
  have HL := hide hL
  have HX := hide hnext
  rw [show tl 18 = Code.seq (cmp 18) (Code.seq (cmp 19) (tl 20)) from rfl]
  conv => arg 2; arg 1; whnf
  conv => arg 2; arg 2; arg 1; whnf
  have kw := HS.out.wd 6 (by rw [HN.out]; omega)
  have zw := HS.out.wl
  have kg := HS.out.a.cell; have qg := HS.out.a.frozen; have zg := HS.out.a.lt
  clear hrs hN hL hnext
  go_upto_region 25 with (go_at_call 41; (refine (signed_any (wat ws 6) _ (HL.out.drop 6).head).mono ?_); rintro e w6 ⟨⟨N, ok', rfl, hok, hN⟩, hb⟩; have HS2 := hide (HS.out.below hb); have HO := hide hok; have HV := hide hN; clear hb hok hN kw zw kg qg zg; have kg := HS2.out.a.cell; have qg := HS2.out.a.frozen; have zg := HS2.out.a.lt)
  obtain ⟨W2, hW, hs⟩ : ∃ W', w6.setCell ⟨g, 5, none⟩ (.int .i64 N) = W' ∧ RS w ws gw g #[V0, V1, V2, V3, V4, .int .i64 N, V6, V7, V8, V9] W' := ⟨_, rfl, HS2.out.set 5 _⟩
  rw [hW]
  clear hW kg qg zg
  have HX2 := hide (HX.out N ok' HO.out HV.out)
  have HS3 := hide hs
  clear hs
  cases A
  · go_wp2_with fail
    exact HX2.out _ _ _ _ _ _ _ _ _ _ _ _ _ _ _ _ _ _ _ _ _ _ _ _ _ _ _ _ _ _ _ _ _ _ _ _ _ _ _ _ _ _ _ _ _ _ _ _ _ _ _ _ _ _ _ _ _ _ _ _ _ _ _ _ _ _ _ _ _ _ _ _ _ _ _ _ _ _ _ _ _ _ _ _ _ _ _ _ _ _ _ _ _ _ _ _ _ _ _ _ _ _ _ _ _ _ _ _ _ _ _ _ _ _ _ _ _ _ _ _ _ _ _ _ _ _ _ _ _ _ _ _ _ _ _ _ _ _ _ _ _ _ _ _ _ _ _ _ _ _ _ _ _ _ _ _ _ _ _ _ _ _ _ _ _ _ _ _ _ _ _ _ _ _ _ _ _ _ _ _ _ _ _ _ _ _ _ _ _ _ _ _ _ _ _ _ _ _ _ _ _ _ _ _ _ _ _ _ _ _ _ _ _ _ _ _ _ _ _ _ _ _ HS3.out
  · cases ok'
    · go_wp2_with fail
      exact HX2.out _ _ _ _ _ _ _ _ _ _ _ _ _ _ _ _ _ _ _ _ _ _ _ _ _ _ _ _ _ _ _ _ _ _ _ _ _ _ _ _ _ _ _ _ _ _ _ _ _ _ _ _ _ _ _ _ _ _ _ _ _ _ _ _ _ _ _ _ _ _ _ _ _ _ _ _ _ _ _ _ _ _ _ _ _ _ _ _ _ _ _ _ _ _ _ _ _ _ _ _ _ _ _ _ _ _ _ _ _ _ _ _ _ _ _ _ _ _ _ _ _ _ _ _ _ _ _ _ _ _ _ _ _ _ _ _ _ _ _ _ _ _ _ _ _ _ _ _ _ _ _ _ _ _ _ _ _ _ _ _ _ _ _ _ _ _ _ _ _ _ _ _ _ _ _ _ _ _ _ _ _ _ _ _ _ _ _ _ _ _ _ _ _ _ _ _ _ _ _ _ _ _ _ _ _ _ _ _ _ _ _ _ _ _ _ _ _ _ _ _ _ _ HS3.out
    · go_wp2_with fail
      exact HX2.out _ _ _ _ _ _ _ _ _ _ _ _ _ _ _ _ _ _ _ _ _ _ _ _ _ _ _ _ _ _ _ _ _ _ _ _ _ _ _ _ _ _ _ _ _ _ _ _ _ _ _ _ _ _ _ _ _ _ _ _ _ _ _ _ _ _ _ _ _ _ _ _ _ _ _ _ _ _ _ _ _ _ _ _ _ _ _ _ _ _ _ _ _ _ _ _ _ _ _ _ _ _ _ _ _ _ _ _ _ _ _ _ _ _ _ _ _ _ _ _ _ _ _ _ _ _ _ _ _ _ _ _ _ _ _ _ _ _ _ _ _ _ _ _ _ _ _ _ _ _ _ _ _ _ _ _ _ _ _ _ _ _ _ _ _ _ _ _ _ _ _ _ _ _ _ _ _ _ _ _ _ _ _ _ _ _ _ _ _ _ _ _ _ _ _ _ _ _ _ _ _ _ _ _ _ _ _ _ _ _ _ _ _ _ _ _ _ _ _ _ _ _ HS3.out
set_option maxRecDepth 1000000 in
set_option maxHeartbeats 4000000 in
theorem seg7 (w : World) (s : List UInt8) (ws : List (List UInt8)) (gw g nn c : Nat) (A ok : Bool) (V0 V1 V2 V3 V4 V5 V6 V7 V8 V9 : Value) (hL : lens ws) (hN : ws.length = nn) (h10 : 10 ≤ nn)
    (hnext : ∀ (N : Int) (ok' : Bool), ok' = (numI (wat ws 7)).isSome → (∀ v, numI (wat ws 7) = some v → N = v) → St 22 w s ws gw g nn c (A && ok') ok' #[V0, V1, V2, V3, V4, V5, .int .i64 N, V7, V8, V9]) : St 20 w s ws gw g nn c A ok #[V0, V1, V2, V3, V4, V5, V6, V7, V8, V9] := by
  intro u9 u10 u11 u12 u13 u14 u15 u16 u17 u18 u19 u20 u21 u22 u23 u24 u25 u26 u27 u28 u29 u30 u31 u32 u33 u34 u35 u36 u37 u38 u39 u40 u41 u42 u43 u44 u45 u46 u47 u48 u49 u50 u51 u52 u53 u54 u55 u56 u57 u58 u59 u60 u61 u62 u63 u64 u65 u66 u67 u68 u69 u70 u71 u72 u73 u74 u75 u76 u77 u78 u79 u80 u81 u82 u83 u84 u85 u86 u87 u88 u89 u90 u91 u92 u93 u94 u95 u96 u97 u98 u99 u100 u101 u102 u103 u104 u105 u106 u107 u108 u109 u110 u111 u112 u113 u114 u115 u116 u117 u118 u119 u120 u121 u122 u123 u124 u125 u126 u127 u128 u129 u130 u131 u132 u133 u134 u135 u136 u137 u138 u139 u140 u141 u142 u143 u144 u145 u146 u147 u148 u149 u150 u151 u152 u153 u154 u155 u156 u157 u158 u159 u160 u161 u162 u163 u164 u165 u166 u167 u168 u169 u170 u171 u172 u173 u174 u175 u176 u177 u178 u179 u180 u181 u182 u183 u184 u185 u186 u187 u188 u189 u190 u191 u192 u193 u194 u195 u196 u197 u198 u199 u200 u201 u202 u203 u204 u205 u206 u207 u208 u209 u210 u211 u212 u213 u214 u215 u216 u217 u218 u219 u220 u221 u222 u223 u224 u225 u226 u227 u228 u229 W hrs
  have HS := hide hrs
  have HN := hide hN
  have HL := hide hL
  have HX := hide hnext
  rw [show tl 20 = Code.seq (cmp 20) (Code.seq (cmp 21) (tl 22)) from rfl]
  conv => arg 2; arg 1; whnf
  conv => arg 2; arg 2; arg 1; whnf
  have kw := HS.out.wd 7 (by rw [HN.out]; omega)
  have zw := HS.out.wl
  have kg := HS.out.a.cell; have qg := HS.out.a.frozen; have zg := HS.out.a.lt
  clear hrs hN hL hnext
  go_upto_region 27 with (go_at_call 41; (refine (signed_any (wat ws 7) _ (HL.out.drop 7).head).mono ?_); rintro e w6 ⟨⟨N, ok', rfl, hok, hN⟩, hb⟩; have HS2 := hide (HS.out.below hb); have HO := hide hok; have HV := hide hN; clear hb hok hN kw zw kg qg zg; have kg := HS2.out.a.cell; have qg := HS2.out.a.frozen; have zg := HS2.out.a.lt)
  obtain ⟨W2, hW, hs⟩ : ∃ W', w6.setCell ⟨g, 6, none⟩ (.int .i64 N) = W' ∧ RS w ws gw g #[V0, V1, V2, V3, V4, V5, .int .i64 N, V7, V8, V9] W' := ⟨_, rfl, HS2.out.set 6 _⟩
  rw [hW]
  clear hW kg qg zg
  have HX2 := hide (HX.out N ok' HO.out HV.out)
  have HS3 := hide hs
  clear hs
  cases A
  · go_wp2_with fail
    exact HX2.out _ _ _ _ _ _ _ _ _ _ _ _ _ _ _ _ _ _ _ _ _ _ _ _ _ _ _ _ _ _ _ _ _ _ _ _ _ _ _ _ _ _ _ _ _ _ _ _ _ _ _ _ _ _ _ _ _ _ _ _ _ _ _ _ _ _ _ _ _ _ _ _ _ _ _ _ _ _ _ _ _ _ _ _ _ _ _ _ _ _ _ _ _ _ _ _ _ _ _ _ _ _ _ _ _ _ _ _ _ _ _ _ _ _ _ _ _ _ _ _ _ _ _ _ _ _ _ _ _ _ _ _ _ _ _ _ _ _ _ _ _ _ _ _ _ _ _ _ _ _ _ _ _ _ _ _ _ _ _ _ _ _ _ _ _ _ _ _ _ _ _ _ _ _ _ _ _ _ _ _ _ _ _ _ _ _ _ _ _ _ _ _ _ _ _ _ _ _ _ _ _ _ _ _ _ _ _ _ _ _ _ _ _ _ _ _ _ _ _ _ _ _ HS3.out
  · cases ok'
    · go_wp2_with fail
      exact HX2.out _ _ _ _ _ _ _ _ _ _ _ _ _ _ _ _ _ _ _ _ _ _ _ _ _ _ _ _ _ _ _ _ _ _ _ _ _ _ _ _ _ _ _ _ _ _ _ _ _ _ _ _ _ _ _ _ _ _ _ _ _ _ _ _ _ _ _ _ _ _ _ _ _ _ _ _ _ _ _ _ _ _ _ _ _ _ _ _ _ _ _ _ _ _ _ _ _ _ _ _ _ _ _ _ _ _ _ _ _ _ _ _ _ _ _ _ _ _ _ _ _ _ _ _ _ _ _ _ _ _ _ _ _ _ _ _ _ _ _ _ _ _ _ _ _ _ _ _ _ _ _ _ _ _ _ _ _ _ _ _ _ _ _ _ _ _ _ _ _ _ _ _ _ _ _ _ _ _ _ _ _ _ _ _ _ _ _ _ _ _ _ _ _ _ _ _ _ _ _ _ _ _ _ _ _ _ _ _ _ _ _ _ _ _ _ _ _ _ _ _ _ _ HS3.out
    · go_wp2_with fail
      exact HX2.out _ _ _ _ _ _ _ _ _ _ _ _ _ _ _ _ _ _ _ _ _ _ _ _ _ _ _ _ _ _ _ _ _ _ _ _ _ _ _ _ _ _ _ _ _ _ _ _ _ _ _ _ _ _ _ _ _ _ _ _ _ _ _ _ _ _ _ _ _ _ _ _ _ _ _ _ _ _ _ _ _ _ _ _ _ _ _ _ _ _ _ _ _ _ _ _ _ _ _ _ _ _ _ _ _ _ _ _ _ _ _ _ _ _ _ _ _ _ _ _ _ _ _ _ _ _ _ _ _ _ _ _ _ _ _ _ _ _ _ _ _ _ _ _ _ _ _ _ _ _ _ _ _ _ _ _ _ _ _ _ _ _ _ _ _ _ _ _ _ _ _ _ _ _ _ _ _ _ _ _ _ _ _ _ _ _ _ _ _ _ _ _ _ _ _ _ _ _ _ _ _ _ _ _ _ _ _ _ _ _ _ _ _ _ _ _ _ _ _ _ _ _ HS3.out
set_option maxRecDepth 1000000 in
set_option maxHeartbeats 4000000 in
theorem seg8 (w : World) (s : List UInt8) (ws : List (List UInt8)) (gw g nn c : Nat) (A ok : Bool) (V0 V1 V2 V3 V4 V5 V6 V7 V8 V9 : Value) (hL : lens ws) (hN : ws.length = nn) (h10 : 10 ≤ nn)
    (hnext : ∀ (N : List UInt8) (ok' : Bool), ok' = (unhexO (wat ws 8)).isSome → (∀ v, unhexO (wat ws 8) = some v → N = v) → St 24 w s ws gw g nn c (A && ok' && decide ((N.length : Int) ≤ 32)) ok' #[V0, V1, V2, V3, V4, V5, V6, V7, str N, V9]) : St 22 w s ws gw g nn c A ok #[V0, V1, V2, V3, V4, V5, V6, V7, V8, V9] := by
  intro u9 u10 u11 u12 u13 u14 u15 u16 u17 u18 u19 u20 u21 u22 u23 u24 u25 u26 u27 u28 u29 u30 u31 u32 u33 u34 u35 u36 u37 u38 u39 u40 u41 u42 u43 u44 u45 u46 u47 u48 u49 u50 u51 u52 u53 u54 u55 u56 u57 u58 u59 u60 u61 u62 u63 u64 u65 u66 u67 u68 u69 u70 u71 u72 u73 u74 u75 u76 u77 u78 u79 u80 u81 u82 u83 u84 u85 u86 u87 u88 u89 u90 u91 u92 u93 u94 u95 u96 u97 u98 u99 u100 u101 u102 u103 u104 u105 u106 u107 u108 u109 u110 u111 u112 u113 u114 u115 u116 u117 u118 u119 u120 u121 u122 u123 u124 u125 u126 u127 u128 u129 u130 u131 u132 u133 u134 u135 u136 u137 u138 u139 u140 u141 u142 u143 u144 u145 u146 u147 u148 u149 u150 u151 u152 u153 u154 u155 u156 u157 u158 u159 u160 u161 u162 u163 u164 u165 u166 u167 u168 u169 u170 u171 u172 u173 u174 u175 u176 u177 u178 u179 u180 u181 u182 u183 u184 u185 u186 u187 u188 u189 u190 u191 u192 u193 u194 u195 u196 u197 u198 u199 u200 u201 u202 u203 u204 u205 u206 u207 u208 u209 u210 u211 u212 u213 u214 u215 u216 u217 u218 u219 u220 u221 u222 u223 u224 u225 u226 u227 u228 u229 W hrs
  have HS := hide hrs
  have HN := hide hN
  have HL := hide hL
  have HX := hide hnext
  rw [show tl 22 = Code.seq (cmp 22) (Code.seq (cmp 23) (tl 24)) from rfl]
  conv => arg 2; arg 1; whnf
  conv => arg 2; arg 2; arg 1; whnf
  have kw := HS.out.wd 8 (by rw [HN.out]; omega)
  have zw := HS.out.wl
  have kg := HS.out.a.cell; have qg := HS.out.a.frozen; have zg := HS.out.a.lt
  clear hrs hN hL hnext
  go_upto_region 29 with (go_at_call 43; (refine (unhex_any (wat ws 8) _ (HL.out.drop 8).head).mono ?_); rintro e w6 ⟨⟨N, ok', rfl, hok, hN⟩, hb⟩; have HS2 := hide (HS.out.below hb); have HO := hide hok; have HV := hide hN; clear hb hok hN kw zw kg qg zg; have kg := HS2.out.a.cell; have qg := HS2.out.a.frozen; have zg := HS2.out.a.lt)
  obtain ⟨W2, hW, hs⟩ : ∃ W', w6.setCell ⟨g, 8, none⟩ (str N) = W' ∧ RS w ws gw g #[V0, V1, V2, V3, V4, V5, V6, V7, str N, V9] W' := ⟨_, rfl, HS2.out.set 8 _⟩
  rw [hW]
  clear hW kg qg zg
  have HX2 := hide (HX.out N ok' HO.out HV.out)
  have kg := hs.a.cell; have qg := hs.a.frozen; have zg := hs.a.lt
  have HS3 := hide hs
  clear hs
  cases A
  · go_wp2_with fail
    exact HX2.out _ _ _ _ _ _ _ _ _ _ _ _ _ _ _ _ _ _ _ _ _ _ _ _ _ _ _ _ _ _ _ _ _ _ _ _ _ _ _ _ _ _ _ _ _ _ _ _ _ _ _ _ _ _ _ _ _ _ _ _ _ _ _ _ _ _ _ _ _ _ _ _ _ _ _ _ _ _ _ _ _ _ _ _ _ _ _ _ _ _ _ _ _ _ _ _ _ _ _ _ _ _ _ _ _ _ _ _ _ _ _ _ _ _ _ _ _ _ _ _ _ _ _ _ _ _ _ _ _ _ _ _ _ _ _ _ _ _ _ _ _ _ _ _ _ _ _ _ _ _ _ _ _ _ _ _ _ _ _ _ _ _ _ _ _ _ _ _ _ _ _ _ _ _ _ _ _ _ _ _ _ _ _ _ _ _ _ _ _ _ _ _ _ _ _ _ _ _ _ _ _ _ _ _ _ _ _ _ _ _ _ _ _ _ _ _ _ _ _ _ _ _ HS3.out
  · cases ok'
    · go_wp2_with fail
      exact HX2.out _ _ _ _ _ _ _ _ _ _ _ _ _ _ _ _ _ _ _ _ _ _ _ _ _ _ _ _ _ _ _ _ _ _ _ _ _ _ _ _ _ _ _ _ _ _ _ _ _ _ _ _ _ _ _ _ _ _ _ _ _ _ _ _ _ _ _ _ _ _ _ _ _ _ _ _ _ _ _ _ _ _ _ _ _ _ _ _ _ _ _ _ _ _ _ _ _ _ _ _ _ _ _ _ _ _ _ _ _ _ _ _ _ _ _ _ _ _ _ _ _ _ _ _ _ _ _ _ _ _ _ _ _ _ _ _ _ _ _ _ _ _ _ _ _ _ _ _ _ _ _ _ _ _ _ _ _ _ _ _ _ _ _ _ _ _ _ _ _ _ _ _ _ _ _ _ _ _ _ _ _ _ _ _ _ _ _ _ _ _ _ _ _ _ _ _ _ _ _ _ _ _ _ _ _ _ _ _ _ _ _ _ _ _ _ _ _ _ _ _ _ _ HS3.out
    · by_cases hp : (N.length : Int) ≤ 32
      · have e : (true && true && decide ((N.length : Int) ≤ 32)) = true := by simp [hp]
        rw [e] at HX2
        go_wp2_with fail
        exact HX2.out _ _ _ _ _ _ _ _ _ _ _ _ _ _ _ _ _ _ _ _ _ _ _ _ _ _ _ _ _ _ _ _ _ _ _ _ _ _ _ _ _ _ _ _ _ _ _ _ _ _ _ _ _ _ _ _ _ _ _ _ _ _ _ _ _ _ _ _ _ _ _ _ _ _ _ _ _ _ _ _ _ _ _ _ _ _ _ _ _ _ _ _ _ _ _ _ _ _ _ _ _ _ _ _ _ _ _ _ _ _ _ _ _ _ _ _ _ _ _ _ _ _ _ _ _ _ _ _ _ _ _ _ _ _ _ _ _ _ _ _ _ _ _ _ _ _ _ _ _ _ _ _ _ _ _ _ _ _ _ _ _ _ _ _ _ _ _ _ _ _ _ _ _ _ _ _ _ _ _ _ _ _ _ _ _ _ _ _ _ _ _ _ _ _ _ _ _ _ _ _ _ _ _ _ _ _ _ _ _ _ _ _ _ _ _ _ _ _ _ _ _ _ HS3.out
      · have e : (true && true && decide ((N.length : Int) ≤ 32)) = false := by simp [hp]
        rw [e] at HX2
        go_wp2_with fail
        exact HX2.out _ _ _ _ _ _ _ _ _ _ _ _ _ _ _ _ _ _ _ _ _ _ _ _ _ _ _ _ _ _ _ _ _ _ _ _ _ _ _ _ _ _ _ _ _ _ _ _ _ _ _ _ _ _ _ _ _ _ _ _ _ _ _ _ _ _ _ _ _ _ _ _ _ _ _ _ _ _ _ _ _ _ _ _ _ _ _ _ _ _ _ _ _ _ _ _ _ _ _ _ _ _ _ _ _ _ _ _ _ _ _ _ _ _ _ _ _ _ _ _ _ _ _ _ _ _ _ _ _ _ _ _ _ _ _ _ _ _ _ _ _ _ _ _ _ _ _ _ _ _ _ _ _ _ _ _ _ _ _ _ _ _ _ _ _ _ _ _ _ _ _ _ _ _ _ _ _ _ _ _ _ _ _ _ _ _ _ _ _ _ _ _ _ _ _ _ _ _ _ _ _ _ _ _ _ _ _ _ _ _ _ _ _ _ _ _ _ _ _ _ _ _ HS3.out
end Go.Proofs.YtcdhngppcpgojaaDoor
