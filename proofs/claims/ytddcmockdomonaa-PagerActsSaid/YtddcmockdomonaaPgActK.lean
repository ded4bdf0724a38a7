/- PagerActs: a page is taken. -/
import Derived.Test.YtddcmockdomonaaPgActI
namespace Go.Proofs.Ytddcmockdomonaa
set_option linter.unusedSimpArgs false
set_option linter.unusedVariables false
open Go.RowKit
section
variable {Q : Exit → Act → World → Prop} {w wr : World} {v0 v2 v3 v7 v9 v29 v30 v31 v32 v33 v34 v35 v36 v37 v38 v39 v40 v41 v42 v43 v44 v45 v46 v47 v48 v49 v50 v51 v52 v53 : Value} {A : Option Addr} {nA cA n db b10 j : Nat}
set_option maxRecDepth 1000000 in
set_option maxHeartbeats 4000000 in
theorem arm_got {pb sb b14 b15 : Nat} {F : Nat → Prop} {left : Int} {S : Int → Cn} {L : List (Int × Cn)} {N q r : Nat} {frm : Int} {st : Cn} {kind K mask : Int} {Ad An As Ap : Option Addr} {md cd cn cs cp : Nat} {data : Cn} {M R P : PgL}
    (hQ : Nx Q w v0 v2 v3 v7 v9 v29 v30 v31 v32 v33 v34 v35 v36 v37 v38 v39 v40 v41 v42 v43 v44 v45 v46 v47 v48 v49 v50 v51 v52 v53 A nA cA n db b10 j) (hp : Pg wr F pb sb db n left S L N (q : Int) (r : Int) frm st) (hi : AcI n S L q r st M R P)
    (hw : AcW w wr F pb sb b10 q r (.slice An M.length cn) (.slice Ap R.length cp) (.slice As P.length cs) M R P) (h14 : Blk wr b14 TA (acE kind K Ad md cd mask)) (h15 : Blk wr b15 TS (stE q r As P.length cs)) (n14 : ¬ F b14) (n15 : ¬ F b15)
    (hd : RB w w.heap.size Ad md data) (hmd : md ≤ 140737488351232) (hm : 0 ≤ mask ∧ mask < 18446744073709551616) (hK : -9223372036854775808 ≤ K ∧ K < 9223372036854775808) (hN : N ≤ 2 * j) (hq : q ≤ j) (hM : M.length ≤ j) (hR : R.length ≤ j) (hP : P.length ≤ j) (hj : j < 80) {kk : Int} (e1 : (kind == 1) = true) (hsm : md ≤ 505) (hno : ¬ ∀ a, 2 ≤ a → ¬ isFree st a) (hbn : burnO false left = false)
    (u4 u18 u19 u20 u21 u22 u23 u24 u25 u26 u27 u28 u54 u55 u56 u57 u58 u59 u60 u61 u62 u63 u64 u65 u66 u67 u68 u69 u70 u71 u72 u73 u74 u75 u76 u77 u78 u79 u80 u81 u82 u83 u84 u85 u86 u87 u88 u89 u90 u91 u92 u93 u94 u95 u96 u97 u98 u99 u100 u101 u102 u103 u104 u105 u106 u107 u108 u109 u110 u111 u112 u113 u114 u115 u116 u117 u118 u119 u120 u121 u122 u123 u124 u125 u126 u127 u128 u129 u130 u131 u132 u133 u134 u135 u136 u137 u138 u139 u140 u141 u142 u143 u144 u145 u146 u147 u148 u149 u150 u151 u152 u153 u154 u155 u156 u157 u158 u159 u160 u161 u162 u163 u164 u165 u166 u167 u168 u169 u170 u171 u172 u173 u174 u175 u176 u177 u178 u179 u180 u181 u182 u183 u184 u185 u186 u187 u188 u189 u190 u191 u192 u193 u194 u195 u196 u197 u198 u199 u200 u201 u202 u203 u204 u205 u206 u207 u208 u209 u210 u211 u212 u213 u214 u215 u216 u217 u218 u219 u220 u221 u222 u223 u224 u225 u226 u227 u228 u229 u230 u231 u232 u233 u234 u235 u236 u237 u238 u239 u240 u241 u242 u243 u244 u245 u246 u247 u248 u249 u250 u251 u252 u253 u254 u255 u256 u257 u258 u259 u260 u261 u262 u263 u264 u265 u266 u267 u268 u269 u270 u271 u272 u273 u274 u275 u276 u277 u278 u279 u280 u281 u282 u283 u284 u285 u286 u287 u288 u289 u290 u291 u292 u293 u294 u295 u296 u297 u298 u299 u300 u301 u302 u303 u304 u305 u306 u307 u308 u309 u310 : Value) :
    Code.wp Try.prog (Bd 5) Q { tmps := #[v0, .slice A nA cA, v2, v3, u4, .int .i64 (n : Int), .pointer (some ⟨db, 0, none⟩), v7, .pointer (some ⟨pb, 0, none⟩), v9, .pointer (some ⟨b10, 0, none⟩), .slice An M.length cn, .slice Ap R.length cp, .int .i64 (j : Int), .pointer (some ⟨b14, 0, none⟩), .pointer (some ⟨b15, 0, none⟩), .bool false, .int .i64 kk, u18, u19, u20, u21, u22, u23, u24, u25, u26, u27, u28, v29, v30, v31, v32, v33, v34, v35, v36, v37, v38, v39, v40, v41, v42, v43, v44, v45, v46, v47, v48, v49, v50, v51, v52, v53, u54, u55, u56, u57, u58, u59, u60, u61, u62, u63, u64, u65, u66, u67, u68, u69, u70, u71, u72, u73, u74, u75, u76, u77, u78, u79, u80, u81, u82, u83, u84, u85, u86, u87, u88, u89, u90, u91, u92, u93, u94, u95, u96, u97, u98, u99, u100, u101, u102, u103, u104, u105, u106, u107, u108, u109, u110, u111, u112, u113, u114, u115, u116, u117, u118, u119, u120, u121, u122, u123, u124, u125, u126, u127, u128, u129, u130, u131, u132, u133, u134, u135, u136, u137, u138, u139, u140, u141, u142, u143, u144, u145, u146, u147, u148, u149, u150, u151, u152, u153, u154, u155, u156, u157, u158, u159, u160, u161, u162, u163, u164, u165, u166, u167, u168, u169, u170, u171, u172, u173, u174, u175, u176, u177, u178, u179, u180, u181, u182, u183, u184, u185, u186, u187, u188, u189, u190, u191, u192, u193, u194, u195, u196, u197, u198, u199, u200, u201, u202, u203, u204, u205, u206, u207, u208, u209, u210, u211, u212, u213, u214, u215, u216, u217, u218, u219, u220, u221, u222, u223, u224, u225, u226, u227, u228, u229, u230, u231, u232, u233, u234, u235, u236, u237, u238, u239, u240, u241, u242, u243, u244, u245, u246, u247, u248, u249, u250, u251, u252, u253, u254, u255, u256, u257, u258, u259, u260, u261, u262, u263, u264, u265, u266, u267, u268, u269, u270, u271, u272, u273, u274, u275, u276, u277, u278, u279, u280, u281, u282, u283, u284, u285, u286, u287, u288, u289, u290, u291, u292, u293, u294, u295, u296, u297, u298, u299, u300, u301, u302, u303, u304, u305, u306, u307, u308, u309, u310], defers := [] } wr := by
  have HX := hide hQ
  have HP := hide hp
  have HI := hide hi
  have HW := hide hw
  have H14 := hide h14
  have H15 := hide h15
  have N14 := hide n14
  have N15 := hide n15
  have HD := hide hd
  have HM := hide hm
  have HN := hide hN
  have HNP := hide (And.intro hR hP)
  have k14 := h14.cell; have f14 := h14.frozen; have z14 := h14.lt
  unfold acE at k14
  clear hQ hp hi hw h14 h15 n14 n15 hd hm hN hR hP
  obtain ⟨i0, hi0, hz0, hz1, hz2⟩ := info_parts u8_info
  obtain ⟨p0, hp0, yz0, yz1, yz2⟩ := info_parts page_info
  have d505 : decide ((505 : Int) < (md : Int)) = false := by simp; omega
  have HNO := hide hno
  have HBN := hide hbn
  have HML := hide hM
  obtain ⟨mn, hmn⟩ : ∃ m, M.length = m := ⟨_, rfl⟩
  obtain ⟨mr, hmr⟩ : ∃ m, R.length = m := ⟨_, rfl⟩
  have HMN := hide hmn
  have HMR := hide hmr
  obtain ⟨s, hs⟩ : ∃ s, ByteArray.mk data.toArray = s := ⟨_, rfl⟩
  have HSB := hide (show bstr data = .string s by unfold bstr; rw [hs])
  have hr1 : mn ≤ 100 := by omega
  have hr2 : mr ≤ 100 := by have := HNP.out; omega
  clear hno hbn hs hM
  rw [hmn] at HW ⊢
  rw [hmr] at HW ⊢
  clear hmn hmr
  rw [show Bd 5 = Code.seq (Bc 5) (Bd 6) from rfl]
  conv => arg 2; arg 1; whnf
  go_upto_region 28 with (first
    | (go_at_call 10; (refine (pnew_got HP2.out A2 md c2 data HO2.out hsm (by have := HN.out; omega) HNO.out HBN.out).mono ?_); rintro e w3 ⟨⟨a, F', rfl, ha2, han, hfr, hp, hg⟩, hf⟩; have HP3 := hide hp; have HW3 := hide (HW2.out.fr HP2.out hf hg HW2.out.hp HW2.out.hs); have hkk := HP2.out.keep hf (H14.out.below HB2.out H14.out.lt) (by decide) (by decide) N14.out; have H14c := hide hkk; have k3 := hkk.cell; have f3 := hkk.frozen; have z3 := hkk.lt; unfold acE at k3; have HFO := hide (HI.out.free_of ha2 han hfr); have HI3 := hide (HI.out.new (d := data) ha2 han HP.out.len hfr (by rw [HD.out.len]; exact hsm)); clear hp hg hf hkk hfr)
    | (at_builtin; (refine wpList_append_any _ rfl (.tmp 91) (.tmp 93) _ rfl wr.heap.size T8 i0 _ 1 1 Try.underlying33 hi0 hz0 hz1 hz2 rfl (by omega) _ 0 [] rfl (World.ownsRow_lit wr #[] 0 (Nat.le_refl _) (by unfold maxLen; omega) rfl) wr.heap.size Ad md cd (cs8 data) rfl (Reads.al (Nat.le_refl _) ((HD.out.below HW.out.below).more HW.out.below.size) _) (cs8_one data) (by unfold maxLen; omega) (by omega) (by simp) ?_); intro v2 w2 ho hg _; rw [List.nil_append, Nat.zero_add] at ho; have hb2 := below_lit hg; (obtain ⟨A2, c2, rfl, -⟩ := own_slice ho); have HB2 := hide hb2; have HO2 := hide (own_rb ho); have HP2 := hide (HP.out.below hb2); have HW2 := hide (HW.out.later hb2); have k2 := (H14.out.below hb2 H14.out.lt).cell; have f2 := (H14.out.below hb2 H14.out.lt).frozen; have z2 := (H14.out.below hb2 H14.out.lt).lt; unfold acE at k2; clear ho hg hb2))
  have da : decide ((a : Int) < 2) = false := by simp; omega
  have db' : decide ((n : Int) ≤ (a : Int)) = false := by simp; omega
  go_upto_region 19 with (first
    | (go_at_call 18; (refine (find_any Ap mr cp R a w4 (Sl.own HMR.out HMR.out rfl (by have := HW4.out.rp; exact this)) (by omega)).mono ?_); rintro e w5 ⟨⟨x5, rfl, hx⟩, hb⟩; rw [HFO.out.2.2] at hx; have HP5 := hide (HP4.out.below hb); have HW5 := hide (HW4.out.later hb); have hkk := H14d.out.below hb H14d.out.lt; have k5 := hkk.cell; have f5 := hkk.frozen; have z5 := hkk.lt; unfold acE at k5; have HC5 := hide (convert_any (c := cd) (w := w5) ((HD.out.below HW5.out.below).more HW5.out.below.size)); clear hb hkk k4 f4 z4)
    | (go_at_call 18; (refine (find_any An mn cn M a w3 (Sl.own HMN.out HMN.out rfl (by have := HW3.out.rn; exact this)) (by omega)).mono ?_); rintro e w4 ⟨⟨x4, rfl, hx⟩, hb⟩; rw [HFO.out.1] at hx; have HP4 := hide (HP3.out.below hb); have HW4 := hide (HW3.out.later hb); have hkk := H14c.out.below hb H14c.out.lt; have H14d := hide hkk; have k4 := hkk.cell; have f4 := hkk.frozen; have z4 := hkk.lt; unfold acE at k4; clear hb hkk k3 f3 z3))
  have hc5 := HC5.out
  rw [HSB.out] at hc5
  have HPE := hide (show pgE (a, data) = [.int .i64 (a : Int), .string s] by unfold pgE; rw [HSB.out])
  clear HC5
  go_wp2_with (at_builtin; (refine wpList_append_any _ rfl (.tmp 98) (.tmp 104) _ rfl w.heap.size TG p0 _ 2 24 Try.underlying47 hp0 yz0 yz1 yz2 rfl (by omega) (.slice An mn cn) mn (M.flatMap pgE) rfl (own_later (by have := HW5.out.rn; rw [HMN.out] at this; exact this) (al_below w5 _)) (w5.heap.size + 1) (some ⟨w5.heap.size, 0, none⟩) 1 1 [.int .i64 (a : Int), .string s] rfl (by have h := (Sl.of_blk (k := 2) (enc := pgE) (n := 1) (l := [(a, data)]) (Blk.new w5 TG #[.int .i64 (a : Int), .string s]) rfl (by rw [List.flatMap_cons, List.flatMap_nil, List.append_nil, HPE.out]) rfl).2; rw [List.flatMap_cons, List.flatMap_nil, List.append_nil, HPE.out] at h; simpa using h) (by intro u hu; simp at hu; rcases hu with rfl | rfl <;> rfl) (by unfold maxLen; omega) (by omega) (Nat.le_trans HW5.out.below.size (al_below w5 _).size) ?_); intro v6 w6 ho hg hor; have HP6 := hide ((HP5.out.below (al_below w5 _)).grown hg (fun e => own_blk_ne HW5.out.rn HP5.out.blk (by decide) e) (fun e => own_blk_ne HW5.out.rn HP5.out.sblk (by decide) e) HW5.out.fn); have HW6 := hide (AcW.now (M' := M ++ [(a, data)]) (HW5.out.later (al_below w5 _)) (fun j hj => Nat.lt_of_lt_of_le (HP5.out.sec.lt j hj) (al_below w5 _).size) (by rw [List.length_append, List.flatMap_append, List.flatMap_cons, List.flatMap_nil, List.append_nil, HPE.out, HMN.out]; exact ho) hg hor); clear ho hg hor)
  exact tail_up HX.out ⟨F', sb, _, S, _, _, q, r, _, _, _, _, R, P, HP6.out, HI3.out, HW6.out, by have := HN.out; omega, by omega, by rw [List.length_append]; have := HML.out; simp; omega, by have := HNP.out; omega, by have := HNP.out; omega⟩ hj _ _ _ _ _ _ _ _ _ _ _ _ _ _ _ _ _ _ _ _ _ _ _ _ _ _ _ _ _ _ _ _ _ _ _ _ _ _ _ _ _ _ _ _ _ _ _ _ _ _ _ _ _ _ _ _ _ _ _ _ _ _ _ _ _ _ _ _ _ _ _ _ _ _ _ _ _ _ _ _ _ _ _ _ _ _ _ _ _ _ _ _ _ _ _ _ _ _ _ _ _ _ _ _ _ _ _ _ _ _ _ _ _ _ _ _ _ _ _ _ _ _ _ _ _ _ _ _ _ _ _ _ _ _ _ _ _ _ _ _ _ _ _ _ _ _ _ _ _ _ _ _ _ _ _ _ _ _ _ _ _ _ _ _ _ _ _ _ _ _ _ _ _ _ _ _ _ _ _ _ _ _ _ _ _ _ _ _ _ _ _ _ _ _ _ _ _ _ _ _ _ _ _ _ _ _ _ _ _ _ _ _ _ _ _ _ _ _ _ _ _ _ _ _ _ _ _ _ _ _ _ _ _ _ _ _ _ _ _ _ _ _ _ _ _ _ _ _ _ _ _ _ _ _ _ _ _ _ _ _ _ _ _ _ _ _ _ _ _ _ _ _
end
end Go.Proofs.Ytddcmockdomonaa
