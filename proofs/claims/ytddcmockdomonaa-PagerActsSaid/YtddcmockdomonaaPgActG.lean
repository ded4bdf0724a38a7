/- PagerActs: acts that take and free nothing. -/
import Derived.Test.YtddcmockdomonaaPgActF
namespace Go.Proofs.Ytddcmockdomonaa
set_option linter.unusedSimpArgs false
set_option linter.unusedVariables false
open Go.RowKit
theorem Pg.keep {w w' : World} {F : Nat → Prop} {pb sb db n : Nat} {left : Int} {S : Int → Cn} {L : List (Int × Cn)} {N : Nat} {seq root frm : Int} {st : Cn} {b : Nat} {t : TypeId} {cs : Array Value} (h : Pg w F pb sb db n left S L N seq root frm st) (hf : Fr (PF F pb sb) w w') (hb : Blk w b t cs) (h1 : t ≠ TP) (h2 : t ≠ T8) (hn : ¬ F b) : Blk w' b t cs :=
  hf.blk hb (fun e => e.elim hn (fun e => e.elim (fun e => Blk.ne_ hb h.blk h1 e) (fun e => Blk.ne_ hb h.sblk h2 e)))
theorem AcW.dn {w wr : World} {F : Nat → Prop} {pb sb b10 q r : Nat} {vn vp vs : Value} {M R P : PgL} (h : AcW w wr F pb sb b10 q r vn vp vs M R P) : DnW w wr F b10 vs P := ⟨h.rs, h.fs, h.nb, h.below, h.low, h.hb⟩
theorem fr_sb {F : Nat → Prop} {pb sb : Nat} {w w' : World} (h : Fr (fun j => j = sb) w w') : Fr (PF F pb sb) w w' := h.up (fun j e => .inr (.inr e))
/-- A page that is in use, read of the list. -/
theorem AcW.page {w wr : World} {F : Nat → Prop} {pb sb b10 q r : Nat} {An : Option Addr} {cn : Nat} {vp vs : Value} {M R P : PgL} (h : AcW w wr F pb sb b10 q r (.slice An M.length cn) vp vs M R P) {k : Nat} (hk : k < M.length) :
    ∃ b o, An = some ⟨b, o, none⟩ ∧ b < wr.heap.size ∧ wr.cell? ⟨b, o + k * 2, none⟩ = some (.int .i64 (M[k].1 : Int)) ∧ wr.cell? ⟨b, o + k * 2 + 1, none⟩ = some (bstr M[k].2) := by
  obtain ⟨b, o, e, hb, _, c0, c1⟩ := PL.at_ (Sl.own rfl rfl rfl h.rn) hk
  exact ⟨b, o, e, hb, c0, c1⟩
section
variable {Q : Exit → Act → World → Prop} {w wr : World} {v0 v2 v3 v7 v9 v29 v30 v31 v32 v33 v34 v35 v36 v37 v38 v39 v40 v41 v42 v43 v44 v45 v46 v47 v48 v49 v50 v51 v52 v53 : Value} {A : Option Addr} {nA cA n db b10 j : Nat}
set_option maxRecDepth 1000000 in
set_option maxHeartbeats 4000000 in
theorem arm_none {pb sb b14 b15 : Nat} {F : Nat → Prop} {left : Int} {S : Int → Cn} {L : List (Int × Cn)} {N q r : Nat} {frm : Int} {st : Cn} {kind K mask : Int} {Ad An As Ap : Option Addr} {md cd cn cs cp : Nat} {data : Cn} {M R P : PgL}
    (hQ : Nx Q w v0 v2 v3 v7 v9 v29 v30 v31 v32 v33 v34 v35 v36 v37 v38 v39 v40 v41 v42 v43 v44 v45 v46 v47 v48 v49 v50 v51 v52 v53 A nA cA n db b10 j) (hp : Pg wr F pb sb db n left S L N (q : Int) (r : Int) frm st) (hi : AcI n S L q r st M R P)
    (hw : AcW w wr F pb sb b10 q r (.slice An M.length cn) (.slice Ap R.length cp) (.slice As P.length cs) M R P) (h14 : Blk wr b14 TA (acE kind K Ad md cd mask)) (h15 : Blk wr b15 TS (stE q r As P.length cs)) (n14 : ¬ F b14) (n15 : ¬ F b15)
    (hd : RB w w.heap.size Ad md data) (hmd : md ≤ 140737488351232) (hm : 0 ≤ mask ∧ mask < 18446744073709551616) (hK : -9223372036854775808 ≤ K ∧ K < 9223372036854775808) (hN : N ≤ 2 * j) (hq : q ≤ j) (hM : M.length ≤ j) (hR : R.length ≤ j) (hP : P.length ≤ j) (hj : j < 80) {b2 b5 b6 : Bool} (e1 : (kind == 1) = false) (e2 : (kind == 2) = b2) (e3 : (kind == 3) = false) (e4 : (kind == 4) = false) (e6 : (kind == 6) = b6)
    (u4 u18 u19 u20 u21 u22 u23 u24 u25 u26 u27 u28 u54 u55 u56 u57 u58 u59 u60 u61 u62 u63 u64 u65 u66 u67 u68 u69 u70 u71 u72 u73 u74 u75 u76 u77 u78 u79 u80 u81 u82 u83 u84 u85 u86 u87 u88 u89 u90 u91 u92 u93 u94 u95 u96 u97 u98 u99 u100 u101 u102 u103 u104 u105 u106 u107 u108 u109 u110 u111 u112 u113 u114 u115 u116 u117 u118 u119 u120 u121 u122 u123 u124 u125 u126 u127 u128 u129 u130 u131 u132 u133 u134 u135 u136 u137 u138 u139 u140 u141 u142 u143 u144 u145 u146 u147 u148 u149 u150 u151 u152 u153 u154 u155 u156 u157 u158 u159 u160 u161 u162 u163 u164 u165 u166 u167 u168 u169 u170 u171 u172 u173 u174 u175 u176 u177 u178 u179 u180 u181 u182 u183 u184 u185 u186 u187 u188 u189 u190 u191 u192 u193 u194 u195 u196 u197 u198 u199 u200 u201 u202 u203 u204 u205 u206 u207 u208 u209 u210 u211 u212 u213 u214 u215 u216 u217 u218 u219 u220 u221 u222 u223 u224 u225 u226 u227 u228 u229 u230 u231 u232 u233 u234 u235 u236 u237 u238 u239 u240 u241 u242 u243 u244 u245 u246 u247 u248 u249 u250 u251 u252 u253 u254 u255 u256 u257 u258 u259 u260 u261 u262 u263 u264 u265 u266 u267 u268 u269 u270 u271 u272 u273 u274 u275 u276 u277 u278 u279 u280 u281 u282 u283 u284 u285 u286 u287 u288 u289 u290 u291 u292 u293 u294 u295 u296 u297 u298 u299 u300 u301 u302 u303 u304 u305 u306 u307 u308 u309 u310 : Value) :
    Code.wp Try.prog (Bd 5) Q { tmps := #[v0, .slice A nA cA, v2, v3, u4, .int .i64 (n : Int), .pointer (some ⟨db, 0, none⟩), v7, .pointer (some ⟨pb, 0, none⟩), v9, .pointer (some ⟨b10, 0, none⟩), .slice An M.length cn, .slice Ap R.length cp, .int .i64 (j : Int), .pointer (some ⟨b14, 0, none⟩), .pointer (some ⟨b15, 0, none⟩), .bool b5, .int .i64 (-1), u18, u19, u20, u21, u22, u23, u24, u25, u26, u27, u28, v29, v30, v31, v32, v33, v34, v35, v36, v37, v38, v39, v40, v41, v42, v43, v44, v45, v46, v47, v48, v49, v50, v51, v52, v53, u54, u55, u56, u57, u58, u59, u60, u61, u62, u63, u64, u65, u66, u67, u68, u69, u70, u71, u72, u73, u74, u75, u76, u77, u78, u79, u80, u81, u82, u83, u84, u85, u86, u87, u88, u89, u90, u91, u92, u93, u94, u95, u96, u97, u98, u99, u100, u101, u102, u103, u104, u105, u106, u107, u108, u109, u110, u111, u112, u113, u114, u115, u116, u117, u118, u119, u120, u121, u122, u123, u124, u125, u126, u127, u128, u129, u130, u131, u132, u133, u134, u135, u136, u137, u138, u139, u140, u141, u142, u143, u144, u145, u146, u147, u148, u149, u150, u151, u152, u153, u154, u155, u156, u157, u158, u159, u160, u161, u162, u163, u164, u165, u166, u167, u168, u169, u170, u171, u172, u173, u174, u175, u176, u177, u178, u179, u180, u181, u182, u183, u184, u185, u186, u187, u188, u189, u190, u191, u192, u193, u194, u195, u196, u197, u198, u199, u200, u201, u202, u203, u204, u205, u206, u207, u208, u209, u210, u211, u212, u213, u214, u215, u216, u217, u218, u219, u220, u221, u222, u223, u224, u225, u226, u227, u228, u229, u230, u231, u232, u233, u234, u235, u236, u237, u238, u239, u240, u241, u242, u243, u244, u245, u246, u247, u248, u249, u250, u251, u252, u253, u254, u255, u256, u257, u258, u259, u260, u261, u262, u263, u264, u265, u266, u267, u268, u269, u270, u271, u272, u273, u274, u275, u276, u277, u278, u279, u280, u281, u282, u283, u284, u285, u286, u287, u288, u289, u290, u291, u292, u293, u294, u295, u296, u297, u298, u299, u300, u301, u302, u303, u304, u305, u306, u307, u308, u309, u310], defers := [] } wr := by
  have HX := hide hQ
  have HP := hide hp
  have HI := hide hi
  have HW := hide hw
  have H14 := hide h14
  have H15 := hide h15
  have N14 := hide n14
  have N15 := hide n15
  have HD := hide hd
  have HM := hide hm
  have HN := hide hN
  have HNP := hide (And.intro hR hP)
  have k14 := h14.cell; have f14 := h14.frozen; have z14 := h14.lt
  unfold acE at k14
  clear hQ hp hi hw h14 h15 n14 n15 hd hm hN hR hP
  cases b2 <;> cases b6
  · rw [show Bd 5 = Code.seq (Bc 5) (Bd 6) from rfl]
    conv => arg 2; arg 1; whnf
    go_wp2_with fail
    cases b5
    · exact tail_up HX.out ⟨F, sb, left, S, L, N, q, r, frm, st, _, M, R, P, HP.out, HI.out, HW.out, by have := HN.out; omega, by omega, by omega, by have := HNP.out; omega, by have := HNP.out; omega⟩ hj _ _ _ _ _ _ _ _ _ _ _ _ _ _ _ _ _ _ _ _ _ _ _ _ _ _ _ _ _ _ _ _ _ _ _ _ _ _ _ _ _ _ _ _ _ _ _ _ _ _ _ _ _ _ _ _ _ _ _ _ _ _ _ _ _ _ _ _ _ _ _ _ _ _ _ _ _ _ _ _ _ _ _ _ _ _ _ _ _ _ _ _ _ _ _ _ _ _ _ _ _ _ _ _ _ _ _ _ _ _ _ _ _ _ _ _ _ _ _ _ _ _ _ _ _ _ _ _ _ _ _ _ _ _ _ _ _ _ _ _ _ _ _ _ _ _ _ _ _ _ _ _ _ _ _ _ _ _ _ _ _ _ _ _ _ _ _ _ _ _ _ _ _ _ _ _ _ _ _ _ _ _ _ _ _ _ _ _ _ _ _ _ _ _ _ _ _ _ _ _ _ _ _ _ _ _ _ _ _ _ _ _ _ _ _ _ _ _ _ _ _ _ _ _ _ _ _ _ _ _ _ _ _ _ _ _ _ _ _ _ _ _ _ _ _ _ _ _ _ _ _ _ _ _ _ _ _ _ _ _ _ _ _ _ _ _ _ _ _ _ _ _
    · have hc := HI.out.crash (maskT mask)
      exact tail_next _ _ _ HX.out HP.out.sec (by have := HN.out; omega) HP.out.h4 HM.out H14.out H15.out HW.out.box hc.1 (by omega) hc.2 HI.out.np (by have := HNP.out; omega) HW.out.dn hj _ _ _ _ _ _ _ _ _ _ _ _ _ _ _ _ _ _ _ _ _ _ _ _ _ _ _ _ _ _ _ _ _ _ _ _ _ _ _ _ _ _ _ _ _ _ _ _ _ _ _ _ _ _ _ _ _ _ _ _ _ _ _ _ _ _ _ _ _ _ _ _ _ _ _ _ _ _ _ _ _ _ _ _ _ _ _ _ _ _ _ _ _ _ _ _ _ _ _ _ _ _ _ _ _ _ _ _ _ _ _ _ _ _ _ _ _ _ _ _ _ _ _ _ _ _ _ _ _ _ _ _ _ _ _ _ _ _ _ _ _ _ _ _ _ _ _ _ _ _ _ _ _ _ _ _ _ _ _ _ _ _ _ _ _ _ _ _ _ _ _ _ _ _ _ _ _ _ _ _ _ _ _ _ _ _ _ _ _ _ _ _ _ _ _ _ _ _ _ _ _ _ _ _ _ _ _ _ _ _ _ _ _ _ _ _ _ _ _ _ _ _ _ _ _ _ _ _ _ _ _ _ _ _ _ _ _ _ _ _ _ _ _ _ _ _ _ _ _ _ _ _ _ _ _ _ _ _ _ _ _ _ _ _ _ _ _ _ _ _
  · rw [show Bd 5 = Code.seq (Bc 5) (Bd 6) from rfl]
    conv => arg 2; arg 1; whnf
    go_wp2_with fail
    cases b5
    · exact tail_up HX.out ⟨F, sb, left, S, L, N, q, r, frm, st, _, M, R, P, HP.out, HI.out, HW.out, by have := HN.out; omega, by omega, by omega, by have := HNP.out; omega, by have := HNP.out; omega⟩ hj _ _ _ _ _ _ _ _ _ _ _ _ _ _ _ _ _ _ _ _ _ _ _ _ _ _ _ _ _ _ _ _ _ _ _ _ _ _ _ _ _ _ _ _ _ _ _ _ _ _ _ _ _ _ _ _ _ _ _ _ _ _ _ _ _ _ _ _ _ _ _ _ _ _ _ _ _ _ _ _ _ _ _ _ _ _ _ _ _ _ _ _ _ _ _ _ _ _ _ _ _ _ _ _ _ _ _ _ _ _ _ _ _ _ _ _ _ _ _ _ _ _ _ _ _ _ _ _ _ _ _ _ _ _ _ _ _ _ _ _ _ _ _ _ _ _ _ _ _ _ _ _ _ _ _ _ _ _ _ _ _ _ _ _ _ _ _ _ _ _ _ _ _ _ _ _ _ _ _ _ _ _ _ _ _ _ _ _ _ _ _ _ _ _ _ _ _ _ _ _ _ _ _ _ _ _ _ _ _ _ _ _ _ _ _ _ _ _ _ _ _ _ _ _ _ _ _ _ _ _ _ _ _ _ _ _ _ _ _ _ _ _ _ _ _ _ _ _ _ _ _ _ _ _ _ _ _ _ _ _ _ _ _ _ _ _ _ _ _ _ _ _
    · have hc := HI.out.crash (maskT mask)
      exact tail_next _ _ _ HX.out HP.out.sec (by have := HN.out; omega) HP.out.h4 HM.out H14.out H15.out HW.out.box hc.1 (by omega) hc.2 HI.out.np (by have := HNP.out; omega) HW.out.dn hj _ _ _ _ _ _ _ _ _ _ _ _ _ _ _ _ _ _ _ _ _ _ _ _ _ _ _ _ _ _ _ _ _ _ _ _ _ _ _ _ _ _ _ _ _ _ _ _ _ _ _ _ _ _ _ _ _ _ _ _ _ _ _ _ _ _ _ _ _ _ _ _ _ _ _ _ _ _ _ _ _ _ _ _ _ _ _ _ _ _ _ _ _ _ _ _ _ _ _ _ _ _ _ _ _ _ _ _ _ _ _ _ _ _ _ _ _ _ _ _ _ _ _ _ _ _ _ _ _ _ _ _ _ _ _ _ _ _ _ _ _ _ _ _ _ _ _ _ _ _ _ _ _ _ _ _ _ _ _ _ _ _ _ _ _ _ _ _ _ _ _ _ _ _ _ _ _ _ _ _ _ _ _ _ _ _ _ _ _ _ _ _ _ _ _ _ _ _ _ _ _ _ _ _ _ _ _ _ _ _ _ _ _ _ _ _ _ _ _ _ _ _ _ _ _ _ _ _ _ _ _ _ _ _ _ _ _ _ _ _ _ _ _ _ _ _ _ _ _ _ _ _ _ _ _ _ _ _ _ _ _ _ _ _ _ _ _ _ _ _
  · rw [show Bd 5 = Code.seq (Bc 5) (Bd 6) from rfl]
    conv => arg 2; arg 1; whnf
    go_wp2_with fail
    cases b5
    · exact tail_up HX.out ⟨F, sb, left, S, L, N, q, r, frm, st, _, M, R, P, HP.out, HI.out, HW.out, by have := HN.out; omega, by omega, by omega, by have := HNP.out; omega, by have := HNP.out; omega⟩ hj _ _ _ _ _ _ _ _ _ _ _ _ _ _ _ _ _ _ _ _ _ _ _ _ _ _ _ _ _ _ _ _ _ _ _ _ _ _ _ _ _ _ _ _ _ _ _ _ _ _ _ _ _ _ _ _ _ _ _ _ _ _ _ _ _ _ _ _ _ _ _ _ _ _ _ _ _ _ _ _ _ _ _ _ _ _ _ _ _ _ _ _ _ _ _ _ _ _ _ _ _ _ _ _ _ _ _ _ _ _ _ _ _ _ _ _ _ _ _ _ _ _ _ _ _ _ _ _ _ _ _ _ _ _ _ _ _ _ _ _ _ _ _ _ _ _ _ _ _ _ _ _ _ _ _ _ _ _ _ _ _ _ _ _ _ _ _ _ _ _ _ _ _ _ _ _ _ _ _ _ _ _ _ _ _ _ _ _ _ _ _ _ _ _ _ _ _ _ _ _ _ _ _ _ _ _ _ _ _ _ _ _ _ _ _ _ _ _ _ _ _ _ _ _ _ _ _ _ _ _ _ _ _ _ _ _ _ _ _ _ _ _ _ _ _ _ _ _ _ _ _ _ _ _ _ _ _ _ _ _ _ _ _ _ _ _ _ _ _ _ _ _
    · have hc := HI.out.crash (maskT mask)
      exact tail_next _ _ _ HX.out HP.out.sec (by have := HN.out; omega) HP.out.h4 HM.out H14.out H15.out HW.out.box hc.1 (by omega) hc.2 HI.out.np (by have := HNP.out; omega) HW.out.dn hj _ _ _ _ _ _ _ _ _ _ _ _ _ _ _ _ _ _ _ _ _ _ _ _ _ _ _ _ _ _ _ _ _ _ _ _ _ _ _ _ _ _ _ _ _ _ _ _ _ _ _ _ _ _ _ _ _ _ _ _ _ _ _ _ _ _ _ _ _ _ _ _ _ _ _ _ _ _ _ _ _ _ _ _ _ _ _ _ _ _ _ _ _ _ _ _ _ _ _ _ _ _ _ _ _ _ _ _ _ _ _ _ _ _ _ _ _ _ _ _ _ _ _ _ _ _ _ _ _ _ _ _ _ _ _ _ _ _ _ _ _ _ _ _ _ _ _ _ _ _ _ _ _ _ _ _ _ _ _ _ _ _ _ _ _ _ _ _ _ _ _ _ _ _ _ _ _ _ _ _ _ _ _ _ _ _ _ _ _ _ _ _ _ _ _ _ _ _ _ _ _ _ _ _ _ _ _ _ _ _ _ _ _ _ _ _ _ _ _ _ _ _ _ _ _ _ _ _ _ _ _ _ _ _ _ _ _ _ _ _ _ _ _ _ _ _ _ _ _ _ _ _ _ _ _ _ _ _ _ _ _ _ _ _ _ _ _ _ _ _
  · rw [show Bd 5 = Code.seq (Bc 5) (Bd 6) from rfl]
    conv => arg 2; arg 1; whnf
    go_wp2_with fail
    cases b5
    · exact tail_up HX.out ⟨F, sb, left, S, L, N, q, r, frm, st, _, M, R, P, HP.out, HI.out, HW.out, by have := HN.out; omega, by omega, by omega, by have := HNP.out; omega, by have := HNP.out; omega⟩ hj _ _ _ _ _ _ _ _ _ _ _ _ _ _ _ _ _ _ _ _ _ _ _ _ _ _ _ _ _ _ _ _ _ _ _ _ _ _ _ _ _ _ _ _ _ _ _ _ _ _ _ _ _ _ _ _ _ _ _ _ _ _ _ _ _ _ _ _ _ _ _ _ _ _ _ _ _ _ _ _ _ _ _ _ _ _ _ _ _ _ _ _ _ _ _ _ _ _ _ _ _ _ _ _ _ _ _ _ _ _ _ _ _ _ _ _ _ _ _ _ _ _ _ _ _ _ _ _ _ _ _ _ _ _ _ _ _ _ _ _ _ _ _ _ _ _ _ _ _ _ _ _ _ _ _ _ _ _ _ _ _ _ _ _ _ _ _ _ _ _ _ _ _ _ _ _ _ _ _ _ _ _ _ _ _ _ _ _ _ _ _ _ _ _ _ _ _ _ _ _ _ _ _ _ _ _ _ _ _ _ _ _ _ _ _ _ _ _ _ _ _ _ _ _ _ _ _ _ _ _ _ _ _ _ _ _ _ _ _ _ _ _ _ _ _ _ _ _ _ _ _ _ _ _ _ _ _ _ _ _ _ _ _ _ _ _ _ _ _ _ _ _
    · have hc := HI.out.crash (maskT mask)
      exact tail_next _ _ _ HX.out HP.out.sec (by have := HN.out; omega) HP.out.h4 HM.out H14.out H15.out HW.out.box hc.1 (by omega) hc.2 HI.out.np (by have := HNP.out; omega) HW.out.dn hj _ _ _ _ _ _ _ _ _ _ _ _ _ _ _ _ _ _ _ _ _ _ _ _ _ _ _ _ _ _ _ _ _ _ _ _ _ _ _ _ _ _ _ _ _ _ _ _ _ _ _ _ _ _ _ _ _ _ _ _ _ _ _ _ _ _ _ _ _ _ _ _ _ _ _ _ _ _ _ _ _ _ _ _ _ _ _ _ _ _ _ _ _ _ _ _ _ _ _ _ _ _ _ _ _ _ _ _ _ _ _ _ _ _ _ _ _ _ _ _ _ _ _ _ _ _ _ _ _ _ _ _ _ _ _ _ _ _ _ _ _ _ _ _ _ _ _ _ _ _ _ _ _ _ _ _ _ _ _ _ _ _ _ _ _ _ _ _ _ _ _ _ _ _ _ _ _ _ _ _ _ _ _ _ _ _ _ _ _ _ _ _ _ _ _ _ _ _ _ _ _ _ _ _ _ _ _ _ _ _ _ _ _ _ _ _ _ _ _ _ _ _ _ _ _ _ _ _ _ _ _ _ _ _ _ _ _ _ _ _ _ _ _ _ _ _ _ _ _ _ _ _ _ _ _ _ _ _ _ _ _ _ _ _ _ _ _ _ _ _
set_option maxRecDepth 1000000 in
set_option maxHeartbeats 4000000 in
theorem arm_use {pb sb b14 b15 : Nat} {F : Nat → Prop} {left : Int} {S : Int → Cn} {L : List (Int × Cn)} {N q r : Nat} {frm : Int} {st : Cn} {kind K mask : Int} {Ad An As Ap : Option Addr} {md cd cn cs cp : Nat} {data : Cn} {M R P : PgL}
    (hQ : Nx Q w v0 v2 v3 v7 v9 v29 v30 v31 v32 v33 v34 v35 v36 v37 v38 v39 v40 v41 v42 v43 v44 v45 v46 v47 v48 v49 v50 v51 v52 v53 A nA cA n db b10 j) (hp : Pg wr F pb sb db n left S L N (q : Int) (r : Int) frm st) (hi : AcI n S L q r st M R P)
    (hw : AcW w wr F pb sb b10 q r (.slice An M.length cn) (.slice Ap R.length cp) (.slice As P.length cs) M R P) (h14 : Blk wr b14 TA (acE kind K Ad md cd mask)) (h15 : Blk wr b15 TS (stE q r As P.length cs)) (n14 : ¬ F b14) (n15 : ¬ F b15)
    (hd : RB w w.heap.size Ad md data) (hmd : md ≤ 140737488351232) (hm : 0 ≤ mask ∧ mask < 18446744073709551616) (hK : -9223372036854775808 ≤ K ∧ K < 9223372036854775808) (hN : N ≤ 2 * j) (hq : q ≤ j) (hM : M.length ≤ j) (hR : R.length ≤ j) (hP : P.length ≤ j) (hj : j < 80) {b5 : Bool} {k : Nat} (hk : k < M.length) (e1 : (kind == 1) = false) (e2 : (kind == 2) = false) (e3 : (kind == 3) = false) (e4 : (kind == 4) = false) (e6 : (kind == 6) = false)
    (u4 u18 u19 u20 u21 u22 u23 u24 u25 u26 u27 u28 u54 u55 u56 u57 u58 u59 u60 u61 u62 u63 u64 u65 u66 u67 u68 u69 u70 u71 u72 u73 u74 u75 u76 u77 u78 u79 u80 u81 u82 u83 u84 u85 u86 u87 u88 u89 u90 u91 u92 u93 u94 u95 u96 u97 u98 u99 u100 u101 u102 u103 u104 u105 u106 u107 u108 u109 u110 u111 u112 u113 u114 u115 u116 u117 u118 u119 u120 u121 u122 u123 u124 u125 u126 u127 u128 u129 u130 u131 u132 u133 u134 u135 u136 u137 u138 u139 u140 u141 u142 u143 u144 u145 u146 u147 u148 u149 u150 u151 u152 u153 u154 u155 u156 u157 u158 u159 u160 u161 u162 u163 u164 u165 u166 u167 u168 u169 u170 u171 u172 u173 u174 u175 u176 u177 u178 u179 u180 u181 u182 u183 u184 u185 u186 u187 u188 u189 u190 u191 u192 u193 u194 u195 u196 u197 u198 u199 u200 u201 u202 u203 u204 u205 u206 u207 u208 u209 u210 u211 u212 u213 u214 u215 u216 u217 u218 u219 u220 u221 u222 u223 u224 u225 u226 u227 u228 u229 u230 u231 u232 u233 u234 u235 u236 u237 u238 u239 u240 u241 u242 u243 u244 u245 u246 u247 u248 u249 u250 u251 u252 u253 u254 u255 u256 u257 u258 u259 u260 u261 u262 u263 u264 u265 u266 u267 u268 u269 u270 u271 u272 u273 u274 u275 u276 u277 u278 u279 u280 u281 u282 u283 u284 u285 u286 u287 u288 u289 u290 u291 u292 u293 u294 u295 u296 u297 u298 u299 u300 u301 u302 u303 u304 u305 u306 u307 u308 u309 u310 : Value) :
    Code.wp Try.prog (Bd 5) Q { tmps := #[v0, .slice A nA cA, v2, v3, u4, .int .i64 (n : Int), .pointer (some ⟨db, 0, none⟩), v7, .pointer (some ⟨pb, 0, none⟩), v9, .pointer (some ⟨b10, 0, none⟩), .slice An M.length cn, .slice Ap R.length cp, .int .i64 (j : Int), .pointer (some ⟨b14, 0, none⟩), .pointer (some ⟨b15, 0, none⟩), .bool b5, .int .i64 (k : Int), u18, u19, u20, u21, u22, u23, u24, u25, u26, u27, u28, v29, v30, v31, v32, v33, v34, v35, v36, v37, v38, v39, v40, v41, v42, v43, v44, v45, v46, v47, v48, v49, v50, v51, v52, v53, u54, u55, u56, u57, u58, u59, u60, u61, u62, u63, u64, u65, u66, u67, u68, u69, u70, u71, u72, u73, u74, u75, u76, u77, u78, u79, u80, u81, u82, u83, u84, u85, u86, u87, u88, u89, u90, u91, u92, u93, u94, u95, u96, u97, u98, u99, u100, u101, u102, u103, u104, u105, u106, u107, u108, u109, u110, u111, u112, u113, u114, u115, u116, u117, u118, u119, u120, u121, u122, u123, u124, u125, u126, u127, u128, u129, u130, u131, u132, u133, u134, u135, u136, u137, u138, u139, u140, u141, u142, u143, u144, u145, u146, u147, u148, u149, u150, u151, u152, u153, u154, u155, u156, u157, u158, u159, u160, u161, u162, u163, u164, u165, u166, u167, u168, u169, u170, u171, u172, u173, u174, u175, u176, u177, u178, u179, u180, u181, u182, u183, u184, u185, u186, u187, u188, u189, u190, u191, u192, u193, u194, u195, u196, u197, u198, u199, u200, u201, u202, u203, u204, u205, u206, u207, u208, u209, u210, u211, u212, u213, u214, u215, u216, u217, u218, u219, u220, u221, u222, u223, u224, u225, u226, u227, u228, u229, u230, u231, u232, u233, u234, u235, u236, u237, u238, u239, u240, u241, u242, u243, u244, u245, u246, u247, u248, u249, u250, u251, u252, u253, u254, u255, u256, u257, u258, u259, u260, u261, u262, u263, u264, u265, u266, u267, u268, u269, u270, u271, u272, u273, u274, u275, u276, u277, u278, u279, u280, u281, u282, u283, u284, u285, u286, u287, u288, u289, u290, u291, u292, u293, u294, u295, u296, u297, u298, u299, u300, u301, u302, u303, u304, u305, u306, u307, u308, u309, u310], defers := [] } wr := by
  have HX := hide hQ
  have HP := hide hp
  have HI := hide hi
  have HW := hide hw
  have H14 := hide h14
  have H15 := hide h15
  have N14 := hide n14
  have N15 := hide n15
  have HD := hide hd
  have HM := hide hm
  have HN := hide hN
  have HNP := hide (And.intro hR hP)
  have k14 := h14.cell; have f14 := h14.frozen; have z14 := h14.lt
  unfold acE at k14
  clear hQ hp hi hw h14 h15 n14 n15 hd hm hN hR hP
  rw [show Bd 5 = Code.seq (Bc 5) (Bd 6) from rfl]
  conv => arg 2; arg 1; whnf
  have HU := hide (HI.out.use HP.out.len hk)
  have HPX := hide (HI.out.m _ (List.getElem_mem hk)).1
  obtain ⟨b, o, rfl, zb, c0, -⟩ := HW.out.page hk
  obtain ⟨x, hx⟩ : ∃ x, (M[k]).1 = x := ⟨_, rfl⟩
  rw [hx] at c0 HU HPX
  clear hx
  go_wp2_with (go_at_call 16; (refine (puse_ok (HP.out.below (al_below wr _)) (some ⟨wr.heap.size, 0, none⟩) 1 1 [(x : Int)] (NB.one wr (x : Int)) (by decide) (far_new HP.out.sblk.lt) (by unfold allPg; rw [List.all_cons, HPX.out]; rfl)).mono ?_); rintro e w2 ⟨rfl, hp, hf⟩; have hp2 := (show Pg w2 F pb sb db n left S L N (q : Int) (r : Int) frm (updN useU st (x : Int)) from hp); rw [HU.out] at hp2; have HP2 := hide hp2; have HF2 := hide hf; have HW2 := hide ((HW.out.later (al_below wr _)).fr (HP.out.below (al_below wr _)) (fr_sb hf) (Grw.refl F _) HW.out.hp HW.out.hs); clear hp hf hp2)
  cases b5
  · exact tail_up HX.out ⟨F, sb, left, S, L, N, q, r, frm, st, _, M, R, P, HP2.out, HI.out, HW2.out, by have := HN.out; omega, by omega, by omega, by have := HNP.out; omega, by have := HNP.out; omega⟩ hj _ _ _ _ _ _ _ _ _ _ _ _ _ _ _ _ _ _ _ _ _ _ _ _ _ _ _ _ _ _ _ _ _ _ _ _ _ _ _ _ _ _ _ _ _ _ _ _ _ _ _ _ _ _ _ _ _ _ _ _ _ _ _ _ _ _ _ _ _ _ _ _ _ _ _ _ _ _ _ _ _ _ _ _ _ _ _ _ _ _ _ _ _ _ _ _ _ _ _ _ _ _ _ _ _ _ _ _ _ _ _ _ _ _ _ _ _ _ _ _ _ _ _ _ _ _ _ _ _ _ _ _ _ _ _ _ _ _ _ _ _ _ _ _ _ _ _ _ _ _ _ _ _ _ _ _ _ _ _ _ _ _ _ _ _ _ _ _ _ _ _ _ _ _ _ _ _ _ _ _ _ _ _ _ _ _ _ _ _ _ _ _ _ _ _ _ _ _ _ _ _ _ _ _ _ _ _ _ _ _ _ _ _ _ _ _ _ _ _ _ _ _ _ _ _ _ _ _ _ _ _ _ _ _ _ _ _ _ _ _ _ _ _ _ _ _ _ _ _ _ _ _ _ _ _ _ _ _ _ _ _ _ _ _ _ _ _ _ _ _ _ _
  · have hc := HI.out.crash (maskT mask)
    exact tail_next _ _ _ HX.out HP2.out.sec (by have := HN.out; omega) HP.out.h4 HM.out ((HP.out.below (al_below wr _)).keep (fr_sb HF2.out) (H14.out.alloc _) (by decide) (by decide) N14.out) ((HP.out.below (al_below wr _)).keep (fr_sb HF2.out) (H15.out.alloc _) (by decide) (by decide) N15.out) HW2.out.box hc.1 (by omega) hc.2 HI.out.np (by have := HNP.out; omega) HW2.out.dn hj _ _ _ _ _ _ _ _ _ _ _ _ _ _ _ _ _ _ _ _ _ _ _ _ _ _ _ _ _ _ _ _ _ _ _ _ _ _ _ _ _ _ _ _ _ _ _ _ _ _ _ _ _ _ _ _ _ _ _ _ _ _ _ _ _ _ _ _ _ _ _ _ _ _ _ _ _ _ _ _ _ _ _ _ _ _ _ _ _ _ _ _ _ _ _ _ _ _ _ _ _ _ _ _ _ _ _ _ _ _ _ _ _ _ _ _ _ _ _ _ _ _ _ _ _ _ _ _ _ _ _ _ _ _ _ _ _ _ _ _ _ _ _ _ _ _ _ _ _ _ _ _ _ _ _ _ _ _ _ _ _ _ _ _ _ _ _ _ _ _ _ _ _ _ _ _ _ _ _ _ _ _ _ _ _ _ _ _ _ _ _ _ _ _ _ _ _ _ _ _ _ _ _ _ _ _ _ _ _ _ _ _ _ _ _ _ _ _ _ _ _ _ _ _ _ _ _ _ _ _ _ _ _ _ _ _ _ _ _ _ _ _ _ _ _ _ _ _ _ _ _ _ _ _ _ _ _ _ _ _ _ _ _ _ _ _ _ _ _ _
end
section
variable {Q : Exit → Act → World → Prop} {w wr : World} {v0 v2 v3 v7 v9 v29 v30 v31 v32 v33 v34 v35 v36 v37 v38 v39 v40 v41 v42 v43 v44 v45 v46 v47 v48 v49 v50 v51 v52 v53 : Value} {A : Option Addr} {nA cA n db b10 j : Nat}
set_option maxRecDepth 1000000 in
set_option maxHeartbeats 4000000 in
theorem arm_limit {pb sb b14 b15 : Nat} {F : Nat → Prop} {left : Int} {S : Int → Cn} {L : List (Int × Cn)} {N q r : Nat} {frm : Int} {st : Cn} {kind K mask : Int} {Ad An As Ap : Option Addr} {md cd cn cs cp : Nat} {data : Cn} {M R P : PgL}
    (hQ : Nx Q w v0 v2 v3 v7 v9 v29 v30 v31 v32 v33 v34 v35 v36 v37 v38 v39 v40 v41 v42 v43 v44 v45 v46 v47 v48 v49 v50 v51 v52 v53 A nA cA n db b10 j) (hp : Pg wr F pb sb db n left S L N (q : Int) (r : Int) frm st) (hi : AcI n S L q r st M R P)
    (hw : AcW w wr F pb sb b10 q r (.slice An M.length cn) (.slice Ap R.length cp) (.slice As P.length cs) M R P) (h14 : Blk wr b14 TA (acE kind K Ad md cd mask)) (h15 : Blk wr b15 TS (stE q r As P.length cs)) (n14 : ¬ F b14) (n15 : ¬ F b15)
    (hd : RB w w.heap.size Ad md data) (hmd : md ≤ 140737488351232) (hm : 0 ≤ mask ∧ mask < 18446744073709551616) (hK : -9223372036854775808 ≤ K ∧ K < 9223372036854775808) (hN : N ≤ 2 * j) (hq : q ≤ j) (hM : M.length ≤ j) (hR : R.length ≤ j) (hP : P.length ≤ j) (hj : j < 80) {kk : Int} (e1 : (kind == 1) = false) (e2 : (kind == 2) = false) (e3 : (kind == 3) = false) (e4 : (kind == 4) = true)
    (u4 u18 u19 u20 u21 u22 u23 u24 u25 u26 u27 u28 u54 u55 u56 u57 u58 u59 u60 u61 u62 u63 u64 u65 u66 u67 u68 u69 u70 u71 u72 u73 u74 u75 u76 u77 u78 u79 u80 u81 u82 u83 u84 u85 u86 u87 u88 u89 u90 u91 u92 u93 u94 u95 u96 u97 u98 u99 u100 u101 u102 u103 u104 u105 u106 u107 u108 u109 u110 u111 u112 u113 u114 u115 u116 u117 u118 u119 u120 u121 u122 u123 u124 u125 u126 u127 u128 u129 u130 u131 u132 u133 u134 u135 u136 u137 u138 u139 u140 u141 u142 u143 u144 u145 u146 u147 u148 u149 u150 u151 u152 u153 u154 u155 u156 u157 u158 u159 u160 u161 u162 u163 u164 u165 u166 u167 u168 u169 u170 u171 u172 u173 u174 u175 u176 u177 u178 u179 u180 u181 u182 u183 u184 u185 u186 u187 u188 u189 u190 u191 u192 u193 u194 u195 u196 u197 u198 u199 u200 u201 u202 u203 u204 u205 u206 u207 u208 u209 u210 u211 u212 u213 u214 u215 u216 u217 u218 u219 u220 u221 u222 u223 u224 u225 u226 u227 u228 u229 u230 u231 u232 u233 u234 u235 u236 u237 u238 u239 u240 u241 u242 u243 u244 u245 u246 u247 u248 u249 u250 u251 u252 u253 u254 u255 u256 u257 u258 u259 u260 u261 u262 u263 u264 u265 u266 u267 u268 u269 u270 u271 u272 u273 u274 u275 u276 u277 u278 u279 u280 u281 u282 u283 u284 u285 u286 u287 u288 u289 u290 u291 u292 u293 u294 u295 u296 u297 u298 u299 u300 u301 u302 u303 u304 u305 u306 u307 u308 u309 u310 : Value) :
    Code.wp Try.prog (Bd 5) Q { tmps := #[v0, .slice A nA cA, v2, v3, u4, .int .i64 (n : Int), .pointer (some ⟨db, 0, none⟩), v7, .pointer (some ⟨pb, 0, none⟩), v9, .pointer (some ⟨b10, 0, none⟩), .slice An M.length cn, .slice Ap R.length cp, .int .i64 (j : Int), .pointer (some ⟨b14, 0, none⟩), .pointer (some ⟨b15, 0, none⟩), .bool false, .int .i64 kk, u18, u19, u20, u21, u22, u23, u24, u25, u26, u27, u28, v29, v30, v31, v32, v33, v34, v35, v36, v37, v38, v39, v40, v41, v42, v43, v44, v45, v46, v47, v48, v49, v50, v51, v52, v53, u54, u55, u56, u57, u58, u59, u60, u61, u62, u63, u64, u65, u66, u67, u68, u69, u70, u71, u72, u73, u74, u75, u76, u77, u78, u79, u80, u81, u82, u83, u84, u85, u86, u87, u88, u89, u90, u91, u92, u93, u94, u95, u96, u97, u98, u99, u100, u101, u102, u103, u104, u105, u106, u107, u108, u109, u110, u111, u112, u113, u114, u115, u116, u117, u118, u119, u120, u121, u122, u123, u124, u125, u126, u127, u128, u129, u130, u131, u132, u133, u134, u135, u136, u137, u138, u139, u140, u141, u142, u143, u144, u145, u146, u147, u148, u149, u150, u151, u152, u153, u154, u155, u156, u157, u158, u159, u160, u161, u162, u163, u164, u165, u166, u167, u168, u169, u170, u171, u172, u173, u174, u175, u176, u177, u178, u179, u180, u181, u182, u183, u184, u185, u186, u187, u188, u189, u190, u191, u192, u193, u194, u195, u196, u197, u198, u199, u200, u201, u202, u203, u204, u205, u206, u207, u208, u209, u210, u211, u212, u213, u214, u215, u216, u217, u218, u219, u220, u221, u222, u223, u224, u225, u226, u227, u228, u229, u230, u231, u232, u233, u234, u235, u236, u237, u238, u239, u240, u241, u242, u243, u244, u245, u246, u247, u248, u249, u250, u251, u252, u253, u254, u255, u256, u257, u258, u259, u260, u261, u262, u263, u264, u265, u266, u267, u268, u269, u270, u271, u272, u273, u274, u275, u276, u277, u278, u279, u280, u281, u282, u283, u284, u285, u286, u287, u288, u289, u290, u291, u292, u293, u294, u295, u296, u297, u298, u299, u300, u301, u302, u303, u304, u305, u306, u307, u308, u309, u310], defers := [] } wr := by
  have HX := hide hQ
  have HP := hide hp
  have HI := hide hi
  have HW := hide hw
  have H14 := hide h14
  have H15 := hide h15
  have N14 := hide n14
  have N15 := hide n15
  have HD := hide hd
  have HM := hide hm
  have HN := hide hN
  have HNP := hide (And.intro hR hP)
  have k14 := h14.cell; have f14 := h14.frozen; have z14 := h14.lt
  unfold acE at k14
  clear hQ hp hi hw h14 h15 n14 n15 hd hm hN hR hP
  obtain ⟨T, hT⟩ : ∃ T : Nat, K.tmod 12 = T ∨ K < 0 := ⟨(K.tmod 12).toNat, by
    by_cases h : K < 0
    · exact .inr h
    · exact .inl (by have := Int.tmod_nonneg 12 (show 0 ≤ K by omega); omega)⟩
  by_cases h0 : 0 ≤ K
  · have ht : K.tmod 12 = (T : Int) := by omega
    have htl : T < 12 := by have := Int.tmod_lt_of_pos K (show (0 : Int) < 12 by omega); omega
    clear hT
    rw [show Bd 5 = Code.seq (Bc 5) (Bd 6) from rfl]
    conv => arg 2; arg 1; whnf
    go_wp2_with (go_at_call 20; (refine (sec_limit HP.out.sec (T : Int) (by omega)).mono ?_); rintro e w2 ⟨rfl, hs, hf⟩; have HF2 := hide hf; have HP2 := hide (HP.out.disk hs hf (Grw.refl F wr)); have HW2 := hide (HW.out.fr HP.out (hf.up (fun j h => .inl h)) (Grw.refl F wr) HW.out.hp HW.out.hs); clear hs hf)
    exact tail_up HX.out ⟨F, sb, T, S, L, N, q, r, frm, st, _, M, R, P, HP2.out, HI.out, HW2.out, by have := HN.out; omega, by omega, by omega, by have := HNP.out; omega, by have := HNP.out; omega⟩ hj _ _ _ _ _ _ _ _ _ _ _ _ _ _ _ _ _ _ _ _ _ _ _ _ _ _ _ _ _ _ _ _ _ _ _ _ _ _ _ _ _ _ _ _ _ _ _ _ _ _ _ _ _ _ _ _ _ _ _ _ _ _ _ _ _ _ _ _ _ _ _ _ _ _ _ _ _ _ _ _ _ _ _ _ _ _ _ _ _ _ _ _ _ _ _ _ _ _ _ _ _ _ _ _ _ _ _ _ _ _ _ _ _ _ _ _ _ _ _ _ _ _ _ _ _ _ _ _ _ _ _ _ _ _ _ _ _ _ _ _ _ _ _ _ _ _ _ _ _ _ _ _ _ _ _ _ _ _ _ _ _ _ _ _ _ _ _ _ _ _ _ _ _ _ _ _ _ _ _ _ _ _ _ _ _ _ _ _ _ _ _ _ _ _ _ _ _ _ _ _ _ _ _ _ _ _ _ _ _ _ _ _ _ _ _ _ _ _ _ _ _ _ _ _ _ _ _ _ _ _ _ _ _ _ _ _ _ _ _ _ _ _ _ _ _ _ _ _ _ _ _ _ _ _ _ _ _ _ _ _ _ _ _ _ _ _ _ _ _ _ _ _
  · rw [show Bd 5 = Code.seq (Bc 5) (Bd 6) from rfl]
    conv => arg 2; arg 1; whnf
    go_wp2_with fail
    exact tail_up HX.out ⟨F, sb, left, S, L, N, q, r, frm, st, _, M, R, P, HP.out, HI.out, HW.out, by have := HN.out; omega, by omega, by omega, by have := HNP.out; omega, by have := HNP.out; omega⟩ hj _ _ _ _ _ _ _ _ _ _ _ _ _ _ _ _ _ _ _ _ _ _ _ _ _ _ _ _ _ _ _ _ _ _ _ _ _ _ _ _ _ _ _ _ _ _ _ _ _ _ _ _ _ _ _ _ _ _ _ _ _ _ _ _ _ _ _ _ _ _ _ _ _ _ _ _ _ _ _ _ _ _ _ _ _ _ _ _ _ _ _ _ _ _ _ _ _ _ _ _ _ _ _ _ _ _ _ _ _ _ _ _ _ _ _ _ _ _ _ _ _ _ _ _ _ _ _ _ _ _ _ _ _ _ _ _ _ _ _ _ _ _ _ _ _ _ _ _ _ _ _ _ _ _ _ _ _ _ _ _ _ _ _ _ _ _ _ _ _ _ _ _ _ _ _ _ _ _ _ _ _ _ _ _ _ _ _ _ _ _ _ _ _ _ _ _ _ _ _ _ _ _ _ _ _ _ _ _ _ _ _ _ _ _ _ _ _ _ _ _ _ _ _ _ _ _ _ _ _ _ _ _ _ _ _ _ _ _ _ _ _ _ _ _ _ _ _ _ _ _ _ _ _ _ _ _ _ _ _ _ _ _ _ _ _ _ _ _ _ _ _ _
set_option maxRecDepth 1000000 in
set_option maxHeartbeats 4000000 in
theorem arm_read {pb sb b14 b15 : Nat} {F : Nat → Prop} {left : Int} {S : Int → Cn} {L : List (Int × Cn)} {N q r : Nat} {frm : Int} {st : Cn} {kind K mask : Int} {Ad An As Ap : Option Addr} {md cd cn cs cp : Nat} {data : Cn} {M R P : PgL}
    (hQ : Nx Q w v0 v2 v3 v7 v9 v29 v30 v31 v32 v33 v34 v35 v36 v37 v38 v39 v40 v41 v42 v43 v44 v45 v46 v47 v48 v49 v50 v51 v52 v53 A nA cA n db b10 j) (hp : Pg wr F pb sb db n left S L N (q : Int) (r : Int) frm st) (hi : AcI n S L q r st M R P)
    (hw : AcW w wr F pb sb b10 q r (.slice An M.length cn) (.slice Ap R.length cp) (.slice As P.length cs) M R P) (h14 : Blk wr b14 TA (acE kind K Ad md cd mask)) (h15 : Blk wr b15 TS (stE q r As P.length cs)) (n14 : ¬ F b14) (n15 : ¬ F b15)
    (hd : RB w w.heap.size Ad md data) (hmd : md ≤ 140737488351232) (hm : 0 ≤ mask ∧ mask < 18446744073709551616) (hK : -9223372036854775808 ≤ K ∧ K < 9223372036854775808) (hN : N ≤ 2 * j) (hq : q ≤ j) (hM : M.length ≤ j) (hR : R.length ≤ j) (hP : P.length ≤ j) (hj : j < 80) {k : Nat} (hk : k < M.length) (e1 : (kind == 1) = false) (e2 : (kind == 2) = false) (e3 : (kind == 3) = false) (e4 : (kind == 4) = false) (e6 : (kind == 6) = true)
    (u4 u18 u19 u20 u21 u22 u23 u24 u25 u26 u27 u28 u54 u55 u56 u57 u58 u59 u60 u61 u62 u63 u64 u65 u66 u67 u68 u69 u70 u71 u72 u73 u74 u75 u76 u77 u78 u79 u80 u81 u82 u83 u84 u85 u86 u87 u88 u89 u90 u91 u92 u93 u94 u95 u96 u97 u98 u99 u100 u101 u102 u103 u104 u105 u106 u107 u108 u109 u110 u111 u112 u113 u114 u115 u116 u117 u118 u119 u120 u121 u122 u123 u124 u125 u126 u127 u128 u129 u130 u131 u132 u133 u134 u135 u136 u137 u138 u139 u140 u141 u142 u143 u144 u145 u146 u147 u148 u149 u150 u151 u152 u153 u154 u155 u156 u157 u158 u159 u160 u161 u162 u163 u164 u165 u166 u167 u168 u169 u170 u171 u172 u173 u174 u175 u176 u177 u178 u179 u180 u181 u182 u183 u184 u185 u186 u187 u188 u189 u190 u191 u192 u193 u194 u195 u196 u197 u198 u199 u200 u201 u202 u203 u204 u205 u206 u207 u208 u209 u210 u211 u212 u213 u214 u215 u216 u217 u218 u219 u220 u221 u222 u223 u224 u225 u226 u227 u228 u229 u230 u231 u232 u233 u234 u235 u236 u237 u238 u239 u240 u241 u242 u243 u244 u245 u246 u247 u248 u249 u250 u251 u252 u253 u254 u255 u256 u257 u258 u259 u260 u261 u262 u263 u264 u265 u266 u267 u268 u269 u270 u271 u272 u273 u274 u275 u276 u277 u278 u279 u280 u281 u282 u283 u284 u285 u286 u287 u288 u289 u290 u291 u292 u293 u294 u295 u296 u297 u298 u299 u300 u301 u302 u303 u304 u305 u306 u307 u308 u309 u310 : Value) :
    Code.wp Try.prog (Bd 5) Q { tmps := #[v0, .slice A nA cA, v2, v3, u4, .int .i64 (n : Int), .pointer (some ⟨db, 0, none⟩), v7, .pointer (some ⟨pb, 0, none⟩), v9, .pointer (some ⟨b10, 0, none⟩), .slice An M.length cn, .slice Ap R.length cp, .int .i64 (j : Int), .pointer (some ⟨b14, 0, none⟩), .pointer (some ⟨b15, 0, none⟩), .bool false, .int .i64 (k : Int), u18, u19, u20, u21, u22, u23, u24, u25, u26, u27, u28, v29, v30, v31, v32, v33, v34, v35, v36, v37, v38, v39, v40, v41, v42, v43, v44, v45, v46, v47, v48, v49, v50, v51, v52, v53, u54, u55, u56, u57, u58, u59, u60, u61, u62, u63, u64, u65, u66, u67, u68, u69, u70, u71, u72, u73, u74, u75, u76, u77, u78, u79, u80, u81, u82, u83, u84, u85, u86, u87, u88, u89, u90, u91, u92, u93, u94, u95, u96, u97, u98, u99, u100, u101, u102, u103, u104, u105, u106, u107, u108, u109, u110, u111, u112, u113, u114, u115, u116, u117, u118, u119, u120, u121, u122, u123, u124, u125, u126, u127, u128, u129, u130, u131, u132, u133, u134, u135, u136, u137, u138, u139, u140, u141, u142, u143, u144, u145, u146, u147, u148, u149, u150, u151, u152, u153, u154, u155, u156, u157, u158, u159, u160, u161, u162, u163, u164, u165, u166, u167, u168, u169, u170, u171, u172, u173, u174, u175, u176, u177, u178, u179, u180, u181, u182, u183, u184, u185, u186, u187, u188, u189, u190, u191, u192, u193, u194, u195, u196, u197, u198, u199, u200, u201, u202, u203, u204, u205, u206, u207, u208, u209, u210, u211, u212, u213, u214, u215, u216, u217, u218, u219, u220, u221, u222, u223, u224, u225, u226, u227, u228, u229, u230, u231, u232, u233, u234, u235, u236, u237, u238, u239, u240, u241, u242, u243, u244, u245, u246, u247, u248, u249, u250, u251, u252, u253, u254, u255, u256, u257, u258, u259, u260, u261, u262, u263, u264, u265, u266, u267, u268, u269, u270, u271, u272, u273, u274, u275, u276, u277, u278, u279, u280, u281, u282, u283, u284, u285, u286, u287, u288, u289, u290, u291, u292, u293, u294, u295, u296, u297, u298, u299, u300, u301, u302, u303, u304, u305, u306, u307, u308, u309, u310], defers := [] } wr := by
  have HX := hide hQ
  have HP := hide hp
  have HI := hide hi
  have HW := hide hw
  have H14 := hide h14
  have H15 := hide h15
  have N14 := hide n14
  have N15 := hide n15
  have HD := hide hd
  have HM := hide hm
  have HN := hide hN
  have HNP := hide (And.intro hR hP)
  have k14 := h14.cell; have f14 := h14.frozen; have z14 := h14.lt
  unfold acE at k14
  clear hQ hp hi hw h14 h15 n14 n15 hd hm hN hR hP
  rw [show Bd 5 = Code.seq (Bc 5) (Bd 6) from rfl]
  conv => arg 2; arg 1; whnf
  have HPX := hide (HI.out.m _ (List.getElem_mem hk))
  have HBN := hide (HW.out.pf HP.out).1
  obtain ⟨b, o, rfl, zb, c0, c1⟩ := HW.out.page hk
  obtain ⟨⟨x, d⟩, hx⟩ : ∃ x, M[k] = x := ⟨_, rfl⟩
  rw [hx] at c0 c1 HPX
  simp only at c0 c1 HPX
  have C1 := hide c1
  clear hx c1
  go_upto_region 57 with (go_at_call 17; (refine (pread_ok HP.out (x : Int) HPX.out.1 d HPX.out.2.1 HPX.out.2.2).mono ?_); rintro e w4 ⟨⟨v4, rfl, ho⟩, hp, hf⟩; have hc4 := (fun N => own_str (w := w4.drewN N) ho rfl); unfold bstr at hc4; have c4 := (cell_heap (p := ⟨b, o + k * 2 + 1, none⟩) (hf.block b zb (HBN.out b rfl))).trans C1.out; unfold bstr at c4; have z4 := Nat.lt_of_lt_of_le zb hf.size; have HP4 := hide hp; have HF4 := hide hf; clear ho hp hf)
  obtain ⟨s, hs⟩ : ∃ s, ByteArray.mk d.toArray = s := ⟨_, rfl⟩
  rw [hs] at c4
  simp only [hs] at hc4
  clear hs C1 HPX
  go_quiet (fail)
  have HP5 := hide (HP4.out.below (below_drewN w4 nq))
  have HW5 := hide ((HW.out.fr HP.out HF4.out (Grw.refl F wr) HW.out.hp HW.out.hs).later (below_drewN w4 nq))
  go_wp2_with fail
  exact tail_up HX.out ⟨F, sb, left, S, L, N, q, r, frm, st, _, M, R, P, HP5.out, HI.out, HW5.out, by have := HN.out; omega, by omega, by omega, by have := HNP.out; omega, by have := HNP.out; omega⟩ hj _ _ _ _ _ _ _ _ _ _ _ _ _ _ _ _ _ _ _ _ _ _ _ _ _ _ _ _ _ _ _ _ _ _ _ _ _ _ _ _ _ _ _ _ _ _ _ _ _ _ _ _ _ _ _ _ _ _ _ _ _ _ _ _ _ _ _ _ _ _ _ _ _ _ _ _ _ _ _ _ _ _ _ _ _ _ _ _ _ _ _ _ _ _ _ _ _ _ _ _ _ _ _ _ _ _ _ _ _ _ _ _ _ _ _ _ _ _ _ _ _ _ _ _ _ _ _ _ _ _ _ _ _ _ _ _ _ _ _ _ _ _ _ _ _ _ _ _ _ _ _ _ _ _ _ _ _ _ _ _ _ _ _ _ _ _ _ _ _ _ _ _ _ _ _ _ _ _ _ _ _ _ _ _ _ _ _ _ _ _ _ _ _ _ _ _ _ _ _ _ _ _ _ _ _ _ _ _ _ _ _ _ _ _ _ _ _ _ _ _ _ _ _ _ _ _ _ _ _ _ _ _ _ _ _ _ _ _ _ _ _ _ _ _ _ _ _ _ _ _ _ _ _ _ _ _ _ _ _ _ _ _ _ _ _ _ _ _ _ _ _ _
end
end Go.Proofs.Ytddcmockdomonaa
