/- PagerActs: a round. -/
import Derived.Test.YtddcmockdomonaaPgActM
namespace Go.Proofs.Ytddcmockdomonaa
set_option linter.unusedSimpArgs false
set_option linter.unusedVariables false
open Go.RowKit
/-- An act that came in. -/
structure AcV where
  kind : Int
  k : Int
  A : Option Addr
  m : Nat
  c : Nat
  data : Cn
  mask : Int
def AcV.enc (x : AcV) : List Value := [.int .i64 x.kind, .int .i64 x.k, .slice x.A x.m x.c, .int .u64 x.mask]
theorem AcV.enc_len (x : AcV) : x.enc.length = 4 := rfl
def AcV.ok (w : World) (x : AcV) : Prop := (-9223372036854775808 ≤ x.k ∧ x.k < 9223372036854775808) ∧ (0 ≤ x.mask ∧ x.mask < 18446744073709551616) ∧ RB w w.heap.size x.A x.m x.data ∧ x.m ≤ 140737488351232
section
variable {Q : Exit → Act → World → Prop} {w wr : World} {v0 v2 v3 v7 v9 v29 v30 v31 v32 v33 v34 v35 v36 v37 v38 v39 v40 v41 v42 v43 v44 v45 v46 v47 v48 v49 v50 v51 v52 v53 : Value} {A : Option Addr} {nA cA n db b10 j : Nat}
set_option maxRecDepth 1000000 in
set_option maxHeartbeats 4000000 in
theorem arm_any {pb sb b14 b15 : Nat} {F : Nat → Prop} {left : Int} {S : Int → Cn} {L : List (Int × Cn)} {N q r : Nat} {frm : Int} {st : Cn} {kind K mask : Int} {Ad An As Ap : Option Addr} {md cd cn cs cp : Nat} {data : Cn} {M R P : PgL}
    (hQ : Nx Q w v0 v2 v3 v7 v9 v29 v30 v31 v32 v33 v34 v35 v36 v37 v38 v39 v40 v41 v42 v43 v44 v45 v46 v47 v48 v49 v50 v51 v52 v53 A nA cA n db b10 j) (hp : Pg wr F pb sb db n left S L N (q : Int) (r : Int) frm st) (hi : AcI n S L q r st M R P)
    (hw : AcW w wr F pb sb b10 q r (.slice An M.length cn) (.slice Ap R.length cp) (.slice As P.length cs) M R P) (h14 : Blk wr b14 TA (acE kind K Ad md cd mask)) (h15 : Blk wr b15 TS (stE q r As P.length cs)) (n14 : ¬ F b14) (n15 : ¬ F b15)
    (hd : RB w w.heap.size Ad md data) (hmd : md ≤ 140737488351232) (hm : 0 ≤ mask ∧ mask < 18446744073709551616) (hK : -9223372036854775808 ≤ K ∧ K < 9223372036854775808) (hN : N ≤ 2 * j) (hq : q ≤ j) (hM : M.length ≤ j) (hR : R.length ≤ j) (hP : P.length ≤ j) (hj : j < 80) {kk : Int} (hkk : kk = -1 ∨ ∃ k : Nat, k < M.length ∧ kk = (k : Int)) (n1015 : b10 ≠ b15) (h15b : w.heap.size ≤ b15)
    (u4 u18 u19 u20 u21 u22 u23 u24 u25 u26 u27 u28 u54 u55 u56 u57 u58 u59 u60 u61 u62 u63 u64 u65 u66 u67 u68 u69 u70 u71 u72 u73 u74 u75 u76 u77 u78 u79 u80 u81 u82 u83 u84 u85 u86 u87 u88 u89 u90 u91 u92 u93 u94 u95 u96 u97 u98 u99 u100 u101 u102 u103 u104 u105 u106 u107 u108 u109 u110 u111 u112 u113 u114 u115 u116 u117 u118 u119 u120 u121 u122 u123 u124 u125 u126 u127 u128 u129 u130 u131 u132 u133 u134 u135 u136 u137 u138 u139 u140 u141 u142 u143 u144 u145 u146 u147 u148 u149 u150 u151 u152 u153 u154 u155 u156 u157 u158 u159 u160 u161 u162 u163 u164 u165 u166 u167 u168 u169 u170 u171 u172 u173 u174 u175 u176 u177 u178 u179 u180 u181 u182 u183 u184 u185 u186 u187 u188 u189 u190 u191 u192 u193 u194 u195 u196 u197 u198 u199 u200 u201 u202 u203 u204 u205 u206 u207 u208 u209 u210 u211 u212 u213 u214 u215 u216 u217 u218 u219 u220 u221 u222 u223 u224 u225 u226 u227 u228 u229 u230 u231 u232 u233 u234 u235 u236 u237 u238 u239 u240 u241 u242 u243 u244 u245 u246 u247 u248 u249 u250 u251 u252 u253 u254 u255 u256 u257 u258 u259 u260 u261 u262 u263 u264 u265 u266 u267 u268 u269 u270 u271 u272 u273 u274 u275 u276 u277 u278 u279 u280 u281 u282 u283 u284 u285 u286 u287 u288 u289 u290 u291 u292 u293 u294 u295 u296 u297 u298 u299 u300 u301 u302 u303 u304 u305 u306 u307 u308 u309 u310 : Value) :
    Code.wp Try.prog (Bd 5) Q { tmps := #[v0, .slice A nA cA, v2, v3, u4, .int .i64 (n : Int), .pointer (some ⟨db, 0, none⟩), v7, .pointer (some ⟨pb, 0, none⟩), v9, .pointer (some ⟨b10, 0, none⟩), .slice An M.length cn, .slice Ap R.length cp, .int .i64 (j : Int), .pointer (some ⟨b14, 0, none⟩), .pointer (some ⟨b15, 0, none⟩), .bool (kind == 5), .int .i64 kk, u18, u19, u20, u21, u22, u23, u24, u25, u26, u27, u28, v29, v30, v31, v32, v33, v34, v35, v36, v37, v38, v39, v40, v41, v42, v43, v44, v45, v46, v47, v48, v49, v50, v51, v52, v53, u54, u55, u56, u57, u58, u59, u60, u61, u62, u63, u64, u65, u66, u67, u68, u69, u70, u71, u72, u73, u74, u75, u76, u77, u78, u79, u80, u81, u82, u83, u84, u85, u86, u87, u88, u89, u90, u91, u92, u93, u94, u95, u96, u97, u98, u99, u100, u101, u102, u103, u104, u105, u106, u107, u108, u109, u110, u111, u112, u113, u114, u115, u116, u117, u118, u119, u120, u121, u122, u123, u124, u125, u126, u127, u128, u129, u130, u131, u132, u133, u134, u135, u136, u137, u138, u139, u140, u141, u142, u143, u144, u145, u146, u147, u148, u149, u150, u151, u152, u153, u154, u155, u156, u157, u158, u159, u160, u161, u162, u163, u164, u165, u166, u167, u168, u169, u170, u171, u172, u173, u174, u175, u176, u177, u178, u179, u180, u181, u182, u183, u184, u185, u186, u187, u188, u189, u190, u191, u192, u193, u194, u195, u196, u197, u198, u199, u200, u201, u202, u203, u204, u205, u206, u207, u208, u209, u210, u211, u212, u213, u214, u215, u216, u217, u218, u219, u220, u221, u222, u223, u224, u225, u226, u227, u228, u229, u230, u231, u232, u233, u234, u235, u236, u237, u238, u239, u240, u241, u242, u243, u244, u245, u246, u247, u248, u249, u250, u251, u252, u253, u254, u255, u256, u257, u258, u259, u260, u261, u262, u263, u264, u265, u266, u267, u268, u269, u270, u271, u272, u273, u274, u275, u276, u277, u278, u279, u280, u281, u282, u283, u284, u285, u286, u287, u288, u289, u290, u291, u292, u293, u294, u295, u296, u297, u298, u299, u300, u301, u302, u303, u304, u305, u306, u307, u308, u309, u310], defers := [] } wr := by
  have HX := hide hQ
  have HP := hide hp
  have HI := hide hi
  have HW := hide hw
  have H14 := hide h14
  have H15 := hide h15
  have N14 := hide n14
  have N15 := hide n15
  have HD := hide hd
  have HM := hide hm
  have HN := hide hN
  have HNP := hide (And.intro hR hP)
  have k14 := h14.cell; have f14 := h14.frozen; have z14 := h14.lt
  unfold acE at k14
  clear hQ hp hi hw h14 h15 n14 n15 hd hm hN hR hP
  clear k14 f14 z14
  have key : ∀ (a b : Int), a ≠ b → (a == b) = false := fun a b h => by simpa using h
  by_cases e1 : kind = 1
  · subst e1
    rw [key 1 5 (by decide)]
    by_cases hl : md ≤ 505
    · by_cases hno : ∀ a, 2 ≤ a → ¬ isFree st a
      · exact arm_full HX.out HP.out HI.out HW.out H14.out H15.out N14.out N15.out HD.out hmd HM.out hK HN.out hq hM HNP.out.1 HNP.out.2 hj rfl hl hno _ _ _ _ _ _ _ _ _ _ _ _ _ _ _ _ _ _ _ _ _ _ _ _ _ _ _ _ _ _ _ _ _ _ _ _ _ _ _ _ _ _ _ _ _ _ _ _ _ _ _ _ _ _ _ _ _ _ _ _ _ _ _ _ _ _ _ _ _ _ _ _ _ _ _ _ _ _ _ _ _ _ _ _ _ _ _ _ _ _ _ _ _ _ _ _ _ _ _ _ _ _ _ _ _ _ _ _ _ _ _ _ _ _ _ _ _ _ _ _ _ _ _ _ _ _ _ _ _ _ _ _ _ _ _ _ _ _ _ _ _ _ _ _ _ _ _ _ _ _ _ _ _ _ _ _ _ _ _ _ _ _ _ _ _ _ _ _ _ _ _ _ _ _ _ _ _ _ _ _ _ _ _ _ _ _ _ _ _ _ _ _ _ _ _ _ _ _ _ _ _ _ _ _ _ _ _ _ _ _ _ _ _ _ _ _ _ _ _ _ _ _ _ _ _ _ _ _ _ _ _ _ _ _ _ _ _ _ _ _ _ _ _ _ _ _ _ _ _ _ _ _ _ _ _ _ _ _ _ _ _ _ _ _ _ _ _ _ _
      · cases hb : burnO false left
        · exact arm_got HX.out HP.out HI.out HW.out H14.out H15.out N14.out N15.out HD.out hmd HM.out hK HN.out hq hM HNP.out.1 HNP.out.2 hj rfl hl hno hb _ _ _ _ _ _ _ _ _ _ _ _ _ _ _ _ _ _ _ _ _ _ _ _ _ _ _ _ _ _ _ _ _ _ _ _ _ _ _ _ _ _ _ _ _ _ _ _ _ _ _ _ _ _ _ _ _ _ _ _ _ _ _ _ _ _ _ _ _ _ _ _ _ _ _ _ _ _ _ _ _ _ _ _ _ _ _ _ _ _ _ _ _ _ _ _ _ _ _ _ _ _ _ _ _ _ _ _ _ _ _ _ _ _ _ _ _ _ _ _ _ _ _ _ _ _ _ _ _ _ _ _ _ _ _ _ _ _ _ _ _ _ _ _ _ _ _ _ _ _ _ _ _ _ _ _ _ _ _ _ _ _ _ _ _ _ _ _ _ _ _ _ _ _ _ _ _ _ _ _ _ _ _ _ _ _ _ _ _ _ _ _ _ _ _ _ _ _ _ _ _ _ _ _ _ _ _ _ _ _ _ _ _ _ _ _ _ _ _ _ _ _ _ _ _ _ _ _ _ _ _ _ _ _ _ _ _ _ _ _ _ _ _ _ _ _ _ _ _ _ _ _ _ _ _ _ _ _ _ _ _ _ _ _ _ _ _ _ _
        · exact arm_burn HX.out HP.out HI.out HW.out H14.out H15.out N14.out N15.out HD.out hmd HM.out hK HN.out hq hM HNP.out.1 HNP.out.2 hj rfl hl hno hb _ _ _ _ _ _ _ _ _ _ _ _ _ _ _ _ _ _ _ _ _ _ _ _ _ _ _ _ _ _ _ _ _ _ _ _ _ _ _ _ _ _ _ _ _ _ _ _ _ _ _ _ _ _ _ _ _ _ _ _ _ _ _ _ _ _ _ _ _ _ _ _ _ _ _ _ _ _ _ _ _ _ _ _ _ _ _ _ _ _ _ _ _ _ _ _ _ _ _ _ _ _ _ _ _ _ _ _ _ _ _ _ _ _ _ _ _ _ _ _ _ _ _ _ _ _ _ _ _ _ _ _ _ _ _ _ _ _ _ _ _ _ _ _ _ _ _ _ _ _ _ _ _ _ _ _ _ _ _ _ _ _ _ _ _ _ _ _ _ _ _ _ _ _ _ _ _ _ _ _ _ _ _ _ _ _ _ _ _ _ _ _ _ _ _ _ _ _ _ _ _ _ _ _ _ _ _ _ _ _ _ _ _ _ _ _ _ _ _ _ _ _ _ _ _ _ _ _ _ _ _ _ _ _ _ _ _ _ _ _ _ _ _ _ _ _ _ _ _ _ _ _ _ _ _ _ _ _ _ _ _ _ _ _ _ _ _ _ _
    · exact arm_large HX.out HP.out HI.out HW.out H14.out H15.out N14.out N15.out HD.out hmd HM.out hK HN.out hq hM HNP.out.1 HNP.out.2 hj rfl (by omega) _ _ _ _ _ _ _ _ _ _ _ _ _ _ _ _ _ _ _ _ _ _ _ _ _ _ _ _ _ _ _ _ _ _ _ _ _ _ _ _ _ _ _ _ _ _ _ _ _ _ _ _ _ _ _ _ _ _ _ _ _ _ _ _ _ _ _ _ _ _ _ _ _ _ _ _ _ _ _ _ _ _ _ _ _ _ _ _ _ _ _ _ _ _ _ _ _ _ _ _ _ _ _ _ _ _ _ _ _ _ _ _ _ _ _ _ _ _ _ _ _ _ _ _ _ _ _ _ _ _ _ _ _ _ _ _ _ _ _ _ _ _ _ _ _ _ _ _ _ _ _ _ _ _ _ _ _ _ _ _ _ _ _ _ _ _ _ _ _ _ _ _ _ _ _ _ _ _ _ _ _ _ _ _ _ _ _ _ _ _ _ _ _ _ _ _ _ _ _ _ _ _ _ _ _ _ _ _ _ _ _ _ _ _ _ _ _ _ _ _ _ _ _ _ _ _ _ _ _ _ _ _ _ _ _ _ _ _ _ _ _ _ _ _ _ _ _ _ _ _ _ _ _ _ _ _ _ _ _ _ _ _ _ _ _ _ _ _ _
  have d1 := key _ _ e1
  by_cases e3 : kind = 3
  · subst e3
    rw [key 3 5 (by decide)]
    rcases hkk with rfl | ⟨k, hk, rfl⟩
    · exact arm_flip0 HX.out HP.out HI.out HW.out H14.out H15.out N14.out N15.out HD.out hmd HM.out hK HN.out hq hM HNP.out.1 HNP.out.2 hj d1 rfl rfl n1015 h15b _ _ _ _ _ _ _ _ _ _ _ _ _ _ _ _ _ _ _ _ _ _ _ _ _ _ _ _ _ _ _ _ _ _ _ _ _ _ _ _ _ _ _ _ _ _ _ _ _ _ _ _ _ _ _ _ _ _ _ _ _ _ _ _ _ _ _ _ _ _ _ _ _ _ _ _ _ _ _ _ _ _ _ _ _ _ _ _ _ _ _ _ _ _ _ _ _ _ _ _ _ _ _ _ _ _ _ _ _ _ _ _ _ _ _ _ _ _ _ _ _ _ _ _ _ _ _ _ _ _ _ _ _ _ _ _ _ _ _ _ _ _ _ _ _ _ _ _ _ _ _ _ _ _ _ _ _ _ _ _ _ _ _ _ _ _ _ _ _ _ _ _ _ _ _ _ _ _ _ _ _ _ _ _ _ _ _ _ _ _ _ _ _ _ _ _ _ _ _ _ _ _ _ _ _ _ _ _ _ _ _ _ _ _ _ _ _ _ _ _ _ _ _ _ _ _ _ _ _ _ _ _ _ _ _ _ _ _ _ _ _ _ _ _ _ _ _ _ _ _ _ _ _ _ _ _ _ _ _ _ _ _ _ _ _ _ _ _ _
    · exact arm_flipk HX.out HP.out HI.out HW.out H14.out H15.out N14.out N15.out HD.out hmd HM.out hK HN.out hq hM HNP.out.1 HNP.out.2 hj hk d1 rfl rfl n1015 h15b _ _ _ _ _ _ _ _ _ _ _ _ _ _ _ _ _ _ _ _ _ _ _ _ _ _ _ _ _ _ _ _ _ _ _ _ _ _ _ _ _ _ _ _ _ _ _ _ _ _ _ _ _ _ _ _ _ _ _ _ _ _ _ _ _ _ _ _ _ _ _ _ _ _ _ _ _ _ _ _ _ _ _ _ _ _ _ _ _ _ _ _ _ _ _ _ _ _ _ _ _ _ _ _ _ _ _ _ _ _ _ _ _ _ _ _ _ _ _ _ _ _ _ _ _ _ _ _ _ _ _ _ _ _ _ _ _ _ _ _ _ _ _ _ _ _ _ _ _ _ _ _ _ _ _ _ _ _ _ _ _ _ _ _ _ _ _ _ _ _ _ _ _ _ _ _ _ _ _ _ _ _ _ _ _ _ _ _ _ _ _ _ _ _ _ _ _ _ _ _ _ _ _ _ _ _ _ _ _ _ _ _ _ _ _ _ _ _ _ _ _ _ _ _ _ _ _ _ _ _ _ _ _ _ _ _ _ _ _ _ _ _ _ _ _ _ _ _ _ _ _ _ _ _ _ _ _ _ _ _ _ _ _ _ _ _ _ _ _
  have d3 := key _ _ e3
  by_cases e4 : kind = 4
  · subst e4
    rw [key 4 5 (by decide)]
    exact arm_limit HX.out HP.out HI.out HW.out H14.out H15.out N14.out N15.out HD.out hmd HM.out hK HN.out hq hM HNP.out.1 HNP.out.2 hj d1 rfl d3 rfl _ _ _ _ _ _ _ _ _ _ _ _ _ _ _ _ _ _ _ _ _ _ _ _ _ _ _ _ _ _ _ _ _ _ _ _ _ _ _ _ _ _ _ _ _ _ _ _ _ _ _ _ _ _ _ _ _ _ _ _ _ _ _ _ _ _ _ _ _ _ _ _ _ _ _ _ _ _ _ _ _ _ _ _ _ _ _ _ _ _ _ _ _ _ _ _ _ _ _ _ _ _ _ _ _ _ _ _ _ _ _ _ _ _ _ _ _ _ _ _ _ _ _ _ _ _ _ _ _ _ _ _ _ _ _ _ _ _ _ _ _ _ _ _ _ _ _ _ _ _ _ _ _ _ _ _ _ _ _ _ _ _ _ _ _ _ _ _ _ _ _ _ _ _ _ _ _ _ _ _ _ _ _ _ _ _ _ _ _ _ _ _ _ _ _ _ _ _ _ _ _ _ _ _ _ _ _ _ _ _ _ _ _ _ _ _ _ _ _ _ _ _ _ _ _ _ _ _ _ _ _ _ _ _ _ _ _ _ _ _ _ _ _ _ _ _ _ _ _ _ _ _ _ _ _ _ _ _ _ _ _ _ _ _ _ _ _ _ _
  have d4 := key _ _ e4
  rcases hkk with rfl | ⟨k, hk, rfl⟩
  · exact arm_none HX.out HP.out HI.out HW.out H14.out H15.out N14.out N15.out HD.out hmd HM.out hK HN.out hq hM HNP.out.1 HNP.out.2 hj d1 rfl d3 d4 rfl _ _ _ _ _ _ _ _ _ _ _ _ _ _ _ _ _ _ _ _ _ _ _ _ _ _ _ _ _ _ _ _ _ _ _ _ _ _ _ _ _ _ _ _ _ _ _ _ _ _ _ _ _ _ _ _ _ _ _ _ _ _ _ _ _ _ _ _ _ _ _ _ _ _ _ _ _ _ _ _ _ _ _ _ _ _ _ _ _ _ _ _ _ _ _ _ _ _ _ _ _ _ _ _ _ _ _ _ _ _ _ _ _ _ _ _ _ _ _ _ _ _ _ _ _ _ _ _ _ _ _ _ _ _ _ _ _ _ _ _ _ _ _ _ _ _ _ _ _ _ _ _ _ _ _ _ _ _ _ _ _ _ _ _ _ _ _ _ _ _ _ _ _ _ _ _ _ _ _ _ _ _ _ _ _ _ _ _ _ _ _ _ _ _ _ _ _ _ _ _ _ _ _ _ _ _ _ _ _ _ _ _ _ _ _ _ _ _ _ _ _ _ _ _ _ _ _ _ _ _ _ _ _ _ _ _ _ _ _ _ _ _ _ _ _ _ _ _ _ _ _ _ _ _ _ _ _ _ _ _ _ _ _ _ _ _ _ _ _
  by_cases e2 : kind = 2
  · subst e2
    rw [key 2 5 (by decide)]
    cases hp : hasP P (M[k]).1
    · exact arm_freed HX.out HP.out HI.out HW.out H14.out H15.out N14.out N15.out HD.out hmd HM.out hK HN.out hq hM HNP.out.1 HNP.out.2 hj hk d1 rfl hp _ _ _ _ _ _ _ _ _ _ _ _ _ _ _ _ _ _ _ _ _ _ _ _ _ _ _ _ _ _ _ _ _ _ _ _ _ _ _ _ _ _ _ _ _ _ _ _ _ _ _ _ _ _ _ _ _ _ _ _ _ _ _ _ _ _ _ _ _ _ _ _ _ _ _ _ _ _ _ _ _ _ _ _ _ _ _ _ _ _ _ _ _ _ _ _ _ _ _ _ _ _ _ _ _ _ _ _ _ _ _ _ _ _ _ _ _ _ _ _ _ _ _ _ _ _ _ _ _ _ _ _ _ _ _ _ _ _ _ _ _ _ _ _ _ _ _ _ _ _ _ _ _ _ _ _ _ _ _ _ _ _ _ _ _ _ _ _ _ _ _ _ _ _ _ _ _ _ _ _ _ _ _ _ _ _ _ _ _ _ _ _ _ _ _ _ _ _ _ _ _ _ _ _ _ _ _ _ _ _ _ _ _ _ _ _ _ _ _ _ _ _ _ _ _ _ _ _ _ _ _ _ _ _ _ _ _ _ _ _ _ _ _ _ _ _ _ _ _ _ _ _ _ _ _ _ _ _ _ _ _ _ _ _ _ _ _ _ _
    · exact arm_parted HX.out HP.out HI.out HW.out H14.out H15.out N14.out N15.out HD.out hmd HM.out hK HN.out hq hM HNP.out.1 HNP.out.2 hj hk d1 rfl hp _ _ _ _ _ _ _ _ _ _ _ _ _ _ _ _ _ _ _ _ _ _ _ _ _ _ _ _ _ _ _ _ _ _ _ _ _ _ _ _ _ _ _ _ _ _ _ _ _ _ _ _ _ _ _ _ _ _ _ _ _ _ _ _ _ _ _ _ _ _ _ _ _ _ _ _ _ _ _ _ _ _ _ _ _ _ _ _ _ _ _ _ _ _ _ _ _ _ _ _ _ _ _ _ _ _ _ _ _ _ _ _ _ _ _ _ _ _ _ _ _ _ _ _ _ _ _ _ _ _ _ _ _ _ _ _ _ _ _ _ _ _ _ _ _ _ _ _ _ _ _ _ _ _ _ _ _ _ _ _ _ _ _ _ _ _ _ _ _ _ _ _ _ _ _ _ _ _ _ _ _ _ _ _ _ _ _ _ _ _ _ _ _ _ _ _ _ _ _ _ _ _ _ _ _ _ _ _ _ _ _ _ _ _ _ _ _ _ _ _ _ _ _ _ _ _ _ _ _ _ _ _ _ _ _ _ _ _ _ _ _ _ _ _ _ _ _ _ _ _ _ _ _ _ _ _ _ _ _ _ _ _ _ _ _ _ _ _ _
  have d2 := key _ _ e2
  by_cases e6 : kind = 6
  · subst e6
    rw [key 6 5 (by decide)]
    exact arm_read HX.out HP.out HI.out HW.out H14.out H15.out N14.out N15.out HD.out hmd HM.out hK HN.out hq hM HNP.out.1 HNP.out.2 hj hk d1 d2 d3 d4 rfl _ _ _ _ _ _ _ _ _ _ _ _ _ _ _ _ _ _ _ _ _ _ _ _ _ _ _ _ _ _ _ _ _ _ _ _ _ _ _ _ _ _ _ _ _ _ _ _ _ _ _ _ _ _ _ _ _ _ _ _ _ _ _ _ _ _ _ _ _ _ _ _ _ _ _ _ _ _ _ _ _ _ _ _ _ _ _ _ _ _ _ _ _ _ _ _ _ _ _ _ _ _ _ _ _ _ _ _ _ _ _ _ _ _ _ _ _ _ _ _ _ _ _ _ _ _ _ _ _ _ _ _ _ _ _ _ _ _ _ _ _ _ _ _ _ _ _ _ _ _ _ _ _ _ _ _ _ _ _ _ _ _ _ _ _ _ _ _ _ _ _ _ _ _ _ _ _ _ _ _ _ _ _ _ _ _ _ _ _ _ _ _ _ _ _ _ _ _ _ _ _ _ _ _ _ _ _ _ _ _ _ _ _ _ _ _ _ _ _ _ _ _ _ _ _ _ _ _ _ _ _ _ _ _ _ _ _ _ _ _ _ _ _ _ _ _ _ _ _ _ _ _ _ _ _ _ _ _ _ _ _ _ _ _ _ _ _ _ _
  · exact arm_use HX.out HP.out HI.out HW.out H14.out H15.out N14.out N15.out HD.out hmd HM.out hK HN.out hq hM HNP.out.1 HNP.out.2 hj hk d1 d2 d3 d4 (key _ _ e6) _ _ _ _ _ _ _ _ _ _ _ _ _ _ _ _ _ _ _ _ _ _ _ _ _ _ _ _ _ _ _ _ _ _ _ _ _ _ _ _ _ _ _ _ _ _ _ _ _ _ _ _ _ _ _ _ _ _ _ _ _ _ _ _ _ _ _ _ _ _ _ _ _ _ _ _ _ _ _ _ _ _ _ _ _ _ _ _ _ _ _ _ _ _ _ _ _ _ _ _ _ _ _ _ _ _ _ _ _ _ _ _ _ _ _ _ _ _ _ _ _ _ _ _ _ _ _ _ _ _ _ _ _ _ _ _ _ _ _ _ _ _ _ _ _ _ _ _ _ _ _ _ _ _ _ _ _ _ _ _ _ _ _ _ _ _ _ _ _ _ _ _ _ _ _ _ _ _ _ _ _ _ _ _ _ _ _ _ _ _ _ _ _ _ _ _ _ _ _ _ _ _ _ _ _ _ _ _ _ _ _ _ _ _ _ _ _ _ _ _ _ _ _ _ _ _ _ _ _ _ _ _ _ _ _ _ _ _ _ _ _ _ _ _ _ _ _ _ _ _ _ _ _ _ _ _ _ _ _ _ _ _ _ _ _ _ _ _ _
set_option maxRecDepth 1000000 in
set_option maxHeartbeats 4000000 in
theorem round_any {pb : Nat} {vn vp : Value} {acts : List AcV} (hQ : Nx Q w v0 v2 v3 v7 v9 v29 v30 v31 v32 v33 v34 v35 v36 v37 v38 v39 v40 v41 v42 v43 v44 v45 v46 v47 v48 v49 v50 v51 v52 v53 A nA cA n db b10 j) (hS : AcS w wr db n b10 vn vp pb j)
    (hr : Sl 4 AcV.enc w w.heap.size A nA acts) (hok : ∀ x ∈ acts, x.ok w) (hj : j < 80) (hjn : j < nA) (u4 u14 u15 u16 u17 u18 u19 u20 u21 u22 u23 u24 u25 u26 u27 u28 u54 u55 u56 u57 u58 u59 u60 u61 u62 u63 u64 u65 u66 u67 u68 u69 u70 u71 u72 u73 u74 u75 u76 u77 u78 u79 u80 u81 u82 u83 u84 u85 u86 u87 u88 u89 u90 u91 u92 u93 u94 u95 u96 u97 u98 u99 u100 u101 u102 u103 u104 u105 u106 u107 u108 u109 u110 u111 u112 u113 u114 u115 u116 u117 u118 u119 u120 u121 u122 u123 u124 u125 u126 u127 u128 u129 u130 u131 u132 u133 u134 u135 u136 u137 u138 u139 u140 u141 u142 u143 u144 u145 u146 u147 u148 u149 u150 u151 u152 u153 u154 u155 u156 u157 u158 u159 u160 u161 u162 u163 u164 u165 u166 u167 u168 u169 u170 u171 u172 u173 u174 u175 u176 u177 u178 u179 u180 u181 u182 u183 u184 u185 u186 u187 u188 u189 u190 u191 u192 u193 u194 u195 u196 u197 u198 u199 u200 u201 u202 u203 u204 u205 u206 u207 u208 u209 u210 u211 u212 u213 u214 u215 u216 u217 u218 u219 u220 u221 u222 u223 u224 u225 u226 u227 u228 u229 u230 u231 u232 u233 u234 u235 u236 u237 u238 u239 u240 u241 u242 u243 u244 u245 u246 u247 u248 u249 u250 u251 u252 u253 u254 u255 u256 u257 u258 u259 u260 u261 u262 u263 u264 u265 u266 u267 u268 u269 u270 u271 u272 u273 u274 u275 u276 u277 u278 u279 u280 u281 u282 u283 u284 u285 u286 u287 u288 u289 u290 u291 u292 u293 u294 u295 u296 u297 u298 u299 u300 u301 u302 u303 u304 u305 u306 u307 u308 u309 u310 : Value) :
    Code.wp Try.prog (Bd 0) Q { tmps := #[v0, .slice A nA cA, v2, v3, u4, .int .i64 (n : Int), .pointer (some ⟨db, 0, none⟩), v7, .pointer (some ⟨pb, 0, none⟩), v9, .pointer (some ⟨b10, 0, none⟩), vn, vp, .int .i64 (j : Int), u14, u15, u16, u17, u18, u19, u20, u21, u22, u23, u24, u25, u26, u27, u28, v29, v30, v31, v32, v33, v34, v35, v36, v37, v38, v39, v40, v41, v42, v43, v44, v45, v46, v47, v48, v49, v50, v51, v52, v53, u54, u55, u56, u57, u58, u59, u60, u61, u62, u63, u64, u65, u66, u67, u68, u69, u70, u71, u72, u73, u74, u75, u76, u77, u78, u79, u80, u81, u82, u83, u84, u85, u86, u87, u88, u89, u90, u91, u92, u93, u94, u95, u96, u97, u98, u99, u100, u101, u102, u103, u104, u105, u106, u107, u108, u109, u110, u111, u112, u113, u114, u115, u116, u117, u118, u119, u120, u121, u122, u123, u124, u125, u126, u127, u128, u129, u130, u131, u132, u133, u134, u135, u136, u137, u138, u139, u140, u141, u142, u143, u144, u145, u146, u147, u148, u149, u150, u151, u152, u153, u154, u155, u156, u157, u158, u159, u160, u161, u162, u163, u164, u165, u166, u167, u168, u169, u170, u171, u172, u173, u174, u175, u176, u177, u178, u179, u180, u181, u182, u183, u184, u185, u186, u187, u188, u189, u190, u191, u192, u193, u194, u195, u196, u197, u198, u199, u200, u201, u202, u203, u204, u205, u206, u207, u208, u209, u210, u211, u212, u213, u214, u215, u216, u217, u218, u219, u220, u221, u222, u223, u224, u225, u226, u227, u228, u229, u230, u231, u232, u233, u234, u235, u236, u237, u238, u239, u240, u241, u242, u243, u244, u245, u246, u247, u248, u249, u250, u251, u252, u253, u254, u255, u256, u257, u258, u259, u260, u261, u262, u263, u264, u265, u266, u267, u268, u269, u270, u271, u272, u273, u274, u275, u276, u277, u278, u279, u280, u281, u282, u283, u284, u285, u286, u287, u288, u289, u290, u291, u292, u293, u294, u295, u296, u297, u298, u299, u300, u301, u302, u303, u304, u305, u306, u307, u308, u309, u310], defers := [] } wr := by
  have HX := hide hQ
  obtain ⟨F, sb, left, S, L, N, q, r, frm, st, vs, M, R, P, hp, hi, hw, h1, h2, h3, h4, h5⟩ := hS
  obtain ⟨An, cn, rfl, hcn⟩ := own_slice hw.rn
  obtain ⟨Ap, cp, rfl, -⟩ := own_slice hw.rp
  obtain ⟨As, cs, rfl, -⟩ := own_slice hw.rs
  have hl := hr.len
  have hok1 := hok _ (List.getElem_mem (show j < acts.length by omega))
  obtain ⟨b, o, rfl, zb, hc⟩ := Sl.at hr AcV.enc_len (by omega) (by omega)
  have hc0 := hc j (by omega) 0 _ rfl
  have hc1 := hc j (by omega) 1 _ rfl
  have hc2 := hc j (by omega) 2 _ rfl
  have hc3 := hc j (by omega) 3 _ rfl
  obtain ⟨⟨kind, K, Ad, md, cd, data, mask⟩, ha⟩ : ∃ a, acts[j] = a := ⟨_, rfl⟩
  rw [ha] at hc0 hc1 hc2 hc3 hok1
  have c0 : wr.cell? ⟨b, o + j * 4, none⟩ = some (.int .i64 kind) := (hw.below.cell (p := ⟨b, o + j * 4, none⟩) zb).trans hc0
  have c1 : wr.cell? ⟨b, o + j * 4 + 1, none⟩ = some (.int .i64 K) := (hw.below.cell (p := ⟨b, o + j * 4 + 1, none⟩) zb).trans hc1
  have c2 : wr.cell? ⟨b, o + j * 4 + 2, none⟩ = some (.slice Ad md cd) := (hw.below.cell (p := ⟨b, o + j * 4 + 2, none⟩) zb).trans hc2
  have c3 : wr.cell? ⟨b, o + j * 4 + 3, none⟩ = some (.int .u64 mask) := (hw.below.cell (p := ⟨b, o + j * 4 + 3, none⟩) zb).trans hc3
  have zw : b < wr.heap.size := Nat.lt_of_lt_of_le zb hw.below.size
  obtain ⟨hK, hm, hd, hmd⟩ := hok1
  simp only at hK hm hd hmd
  have HM := hide hm
  have HD := hide hd
  have HP := hide hp
  have HI := hide hi
  have HW := hide hw
  have HH := hide (And.intro h1 (And.intro h2 (And.intro h3 (And.intro h4 h5))))
  have k10 := hw.box.cell; have f10 := hw.box.frozen; have z10 := hw.box.lt
  obtain ⟨mn, hmn⟩ : ∃ m, M.length = m := ⟨_, rfl⟩
  have HMN := hide hmn
  rw [hmn] at h3 ⊢
  clear hQ hp hi hw hm hd hc hc0 hc1 hc2 hc3 hr hok ha hcn h1 h2 h4 h5 hl
  rw [show Bd 0 = Code.seq (Bc 0) (Code.seq (Bc 1) (Code.seq (Bc 2) (Code.seq (Bc 3) (Code.seq (Bc 4) (Bd 5))))) from rfl]
  conv => arg 2; arg 1; whnf
  conv => arg 2; arg 2; arg 1; whnf
  conv => arg 2; arg 2; arg 2; arg 1; whnf
  conv => arg 2; arg 2; arg 2; arg 2; arg 1; whnf
  conv => arg 2; arg 2; arg 2; arg 2; arg 2; arg 1; whnf
  have HB := hide (bal (bal (Below.refl wr.heap.size wr) (.cells #[.int .i64 kind, .int .i64 K, .slice Ad md cd, .int .u64 mask] TA)) (.cells #[.int .i64 (q : Int), .int .i64 (r : Int), .slice As P.length cs] TS))
  have HFL := hide HP.out.sec.lt
  have H15 := hide (show Blk ((wr.alloc (.cells #[.int .i64 kind, .int .i64 K, .slice Ad md cd, .int .u64 mask] TA)).alloc (.cells #[.int .i64 (q : Int), .int .i64 (r : Int), .slice As P.length cs] TS)) (wr.heap.size + 1) TS (stE q r As P.length cs) by
    have := Blk.new (wr.alloc (.cells #[.int .i64 kind, .int .i64 K, .slice Ad md cd, .int .u64 mask] TA)) TS (stE q r As P.length cs)
    rw [heap_al] at this
    exact this)
  by_cases hz : 0 < mn ∧ 0 ≤ K
  · obtain ⟨hz1, hz2⟩ := hz
    obtain ⟨k, hk⟩ : ∃ k : Nat, K.tmod mn = k := ⟨(K.tmod mn).toNat, by have := Int.tmod_nonneg (mn : Int) hz2; omega⟩
    have hkm : k < mn := by have := Int.tmod_lt_of_pos K (show (0 : Int) < mn by omega); omega
    have hz3 : (0 : Int) < mn := by omega
    go_wp2_with fail
    have hml := HMN.out
    subst hml
    exact arm_any HX.out (HP.out.below HB.out) HI.out (HW.out.later HB.out) ((Blk.new wr TA (acE kind K Ad md cd mask)).alloc _) H15.out (fun e => by have := HFL.out _ e; omega) (fun e => by have := HFL.out _ e; omega) HD.out hmd HM.out hK HH.out.1 HH.out.2.1 HH.out.2.2.1 HH.out.2.2.2.1 HH.out.2.2.2.2 hj (.inr ⟨k, hkm, rfl⟩) (by omega) (by have := HW.out.below.size; omega) _ _ _ _ _ _ _ _ _ _ _ _ _ _ _ _ _ _ _ _ _ _ _ _ _ _ _ _ _ _ _ _ _ _ _ _ _ _ _ _ _ _ _ _ _ _ _ _ _ _ _ _ _ _ _ _ _ _ _ _ _ _ _ _ _ _ _ _ _ _ _ _ _ _ _ _ _ _ _ _ _ _ _ _ _ _ _ _ _ _ _ _ _ _ _ _ _ _ _ _ _ _ _ _ _ _ _ _ _ _ _ _ _ _ _ _ _ _ _ _ _ _ _ _ _ _ _ _ _ _ _ _ _ _ _ _ _ _ _ _ _ _ _ _ _ _ _ _ _ _ _ _ _ _ _ _ _ _ _ _ _ _ _ _ _ _ _ _ _ _ _ _ _ _ _ _ _ _ _ _ _ _ _ _ _ _ _ _ _ _ _ _ _ _ _ _ _ _ _ _ _ _ _ _ _ _ _ _ _ _ _ _ _ _ _ _ _ _ _ _ _ _ _ _ _ _ _ _ _ _ _ _ _ _ _ _ _ _ _ _ _ _ _ _ _ _ _ _ _ _ _ _ _ _ _ _ _ _ _ _ _ _ _ _ _ _ _ _ _
  · by_cases h0 : mn = 0
    · subst h0
      go_wp2_with fail
      obtain rfl : M = [] := List.eq_nil_of_length_eq_zero HMN.out
      exact arm_any HX.out (HP.out.below HB.out) HI.out (HW.out.later HB.out) ((Blk.new wr TA (acE kind K Ad md cd mask)).alloc _) H15.out (fun e => by have := HFL.out _ e; omega) (fun e => by have := HFL.out _ e; omega) HD.out hmd HM.out hK HH.out.1 HH.out.2.1 HH.out.2.2.1 HH.out.2.2.2.1 HH.out.2.2.2.2 hj (.inl rfl) (by omega) (by have := HW.out.below.size; omega) _ _ _ _ _ _ _ _ _ _ _ _ _ _ _ _ _ _ _ _ _ _ _ _ _ _ _ _ _ _ _ _ _ _ _ _ _ _ _ _ _ _ _ _ _ _ _ _ _ _ _ _ _ _ _ _ _ _ _ _ _ _ _ _ _ _ _ _ _ _ _ _ _ _ _ _ _ _ _ _ _ _ _ _ _ _ _ _ _ _ _ _ _ _ _ _ _ _ _ _ _ _ _ _ _ _ _ _ _ _ _ _ _ _ _ _ _ _ _ _ _ _ _ _ _ _ _ _ _ _ _ _ _ _ _ _ _ _ _ _ _ _ _ _ _ _ _ _ _ _ _ _ _ _ _ _ _ _ _ _ _ _ _ _ _ _ _ _ _ _ _ _ _ _ _ _ _ _ _ _ _ _ _ _ _ _ _ _ _ _ _ _ _ _ _ _ _ _ _ _ _ _ _ _ _ _ _ _ _ _ _ _ _ _ _ _ _ _ _ _ _ _ _ _ _ _ _ _ _ _ _ _ _ _ _ _ _ _ _ _ _ _ _ _ _ _ _ _ _ _ _ _ _ _ _ _ _ _ _ _ _ _ _ _ _ _ _ _ _
    · have hz1 : 0 < mn := by omega
      have hz2 : ¬ 0 ≤ K := fun h => hz ⟨hz1, h⟩
      have hz3 : (0 : Int) < mn := by omega
      go_wp2_with fail
      have hml := HMN.out
      subst hml
      exact arm_any HX.out (HP.out.below HB.out) HI.out (HW.out.later HB.out) ((Blk.new wr TA (acE kind K Ad md cd mask)).alloc _) H15.out (fun e => by have := HFL.out _ e; omega) (fun e => by have := HFL.out _ e; omega) HD.out hmd HM.out hK HH.out.1 HH.out.2.1 HH.out.2.2.1 HH.out.2.2.2.1 HH.out.2.2.2.2 hj (.inl rfl) (by omega) (by have := HW.out.below.size; omega) _ _ _ _ _ _ _ _ _ _ _ _ _ _ _ _ _ _ _ _ _ _ _ _ _ _ _ _ _ _ _ _ _ _ _ _ _ _ _ _ _ _ _ _ _ _ _ _ _ _ _ _ _ _ _ _ _ _ _ _ _ _ _ _ _ _ _ _ _ _ _ _ _ _ _ _ _ _ _ _ _ _ _ _ _ _ _ _ _ _ _ _ _ _ _ _ _ _ _ _ _ _ _ _ _ _ _ _ _ _ _ _ _ _ _ _ _ _ _ _ _ _ _ _ _ _ _ _ _ _ _ _ _ _ _ _ _ _ _ _ _ _ _ _ _ _ _ _ _ _ _ _ _ _ _ _ _ _ _ _ _ _ _ _ _ _ _ _ _ _ _ _ _ _ _ _ _ _ _ _ _ _ _ _ _ _ _ _ _ _ _ _ _ _ _ _ _ _ _ _ _ _ _ _ _ _ _ _ _ _ _ _ _ _ _ _ _ _ _ _ _ _ _ _ _ _ _ _ _ _ _ _ _ _ _ _ _ _ _ _ _ _ _ _ _ _ _ _ _ _ _ _ _ _ _ _ _ _ _ _ _ _ _ _ _ _ _ _ _
end
end Go.Proofs.Ytddcmockdomonaa
