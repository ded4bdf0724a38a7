/- PagerActs: a page is freed. -/
import Derived.Test.YtddcmockdomonaaPgActK
namespace Go.Proofs.Ytddcmockdomonaa
set_option linter.unusedSimpArgs false
set_option linter.unusedVariables false
open Go.RowKit
section
variable {Q : Exit → Act → World → Prop} {w wr : World} {v0 v2 v3 v7 v9 v29 v30 v31 v32 v33 v34 v35 v36 v37 v38 v39 v40 v41 v42 v43 v44 v45 v46 v47 v48 v49 v50 v51 v52 v53 : Value} {A : Option Addr} {nA cA n db b10 j : Nat}
set_option maxRecDepth 1000000 in
set_option maxHeartbeats 4000000 in
theorem arm_freed {pb sb b14 b15 : Nat} {F : Nat → Prop} {left : Int} {S : Int → Cn} {L : List (Int × Cn)} {N q r : Nat} {frm : Int} {st : Cn} {kind K mask : Int} {Ad An As Ap : Option Addr} {md cd cn cs cp : Nat} {data : Cn} {M R P : PgL}
    (hQ : Nx Q w v0 v2 v3 v7 v9 v29 v30 v31 v32 v33 v34 v35 v36 v37 v38 v39 v40 v41 v42 v43 v44 v45 v46 v47 v48 v49 v50 v51 v52 v53 A nA cA n db b10 j) (hp : Pg wr F pb sb db n left S L N (q : Int) (r : Int) frm st) (hi : AcI n S L q r st M R P)
    (hw : AcW w wr F pb sb b10 q r (.slice An M.length cn) (.slice Ap R.length cp) (.slice As P.length cs) M R P) (h14 : Blk wr b14 TA (acE kind K Ad md cd mask)) (h15 : Blk wr b15 TS (stE q r As P.length cs)) (n14 : ¬ F b14) (n15 : ¬ F b15)
    (hd : RB w w.heap.size Ad md data) (hmd : md ≤ 140737488351232) (hm : 0 ≤ mask ∧ mask < 18446744073709551616) (hK : -9223372036854775808 ≤ K ∧ K < 9223372036854775808) (hN : N ≤ 2 * j) (hq : q ≤ j) (hM : M.length ≤ j) (hR : R.length ≤ j) (hP : P.length ≤ j) (hj : j < 80) {k : Nat} (hk : k < M.length) (e1 : (kind == 1) = false) (e2 : (kind == 2) = true) (hold : hasP P (M[k]).1 = false)
    (u4 u18 u19 u20 u21 u22 u23 u24 u25 u26 u27 u28 u54 u55 u56 u57 u58 u59 u60 u61 u62 u63 u64 u65 u66 u67 u68 u69 u70 u71 u72 u73 u74 u75 u76 u77 u78 u79 u80 u81 u82 u83 u84 u85 u86 u87 u88 u89 u90 u91 u92 u93 u94 u95 u96 u97 u98 u99 u100 u101 u102 u103 u104 u105 u106 u107 u108 u109 u110 u111 u112 u113 u114 u115 u116 u117 u118 u119 u120 u121 u122 u123 u124 u125 u126 u127 u128 u129 u130 u131 u132 u133 u134 u135 u136 u137 u138 u139 u140 u141 u142 u143 u144 u145 u146 u147 u148 u149 u150 u151 u152 u153 u154 u155 u156 u157 u158 u159 u160 u161 u162 u163 u164 u165 u166 u167 u168 u169 u170 u171 u172 u173 u174 u175 u176 u177 u178 u179 u180 u181 u182 u183 u184 u185 u186 u187 u188 u189 u190 u191 u192 u193 u194 u195 u196 u197 u198 u199 u200 u201 u202 u203 u204 u205 u206 u207 u208 u209 u210 u211 u212 u213 u214 u215 u216 u217 u218 u219 u220 u221 u222 u223 u224 u225 u226 u227 u228 u229 u230 u231 u232 u233 u234 u235 u236 u237 u238 u239 u240 u241 u242 u243 u244 u245 u246 u247 u248 u249 u250 u251 u252 u253 u254 u255 u256 u257 u258 u259 u260 u261 u262 u263 u264 u265 u266 u267 u268 u269 u270 u271 u272 u273 u274 u275 u276 u277 u278 u279 u280 u281 u282 u283 u284 u285 u286 u287 u288 u289 u290 u291 u292 u293 u294 u295 u296 u297 u298 u299 u300 u301 u302 u303 u304 u305 u306 u307 u308 u309 u310 : Value) :
    Code.wp Try.prog (Bd 5) Q { tmps := #[v0, .slice A nA cA, v2, v3, u4, .int .i64 (n : Int), .pointer (some ⟨db, 0, none⟩), v7, .pointer (some ⟨pb, 0, none⟩), v9, .pointer (some ⟨b10, 0, none⟩), .slice An M.length cn, .slice Ap R.length cp, .int .i64 (j : Int), .pointer (some ⟨b14, 0, none⟩), .pointer (some ⟨b15, 0, none⟩), .bool false, .int .i64 (k : Int), u18, u19, u20, u21, u22, u23, u24, u25, u26, u27, u28, v29, v30, v31, v32, v33, v34, v35, v36, v37, v38, v39, v40, v41, v42, v43, v44, v45, v46, v47, v48, v49, v50, v51, v52, v53, u54, u55, u56, u57, u58, u59, u60, u61, u62, u63, u64, u65, u66, u67, u68, u69, u70, u71, u72, u73, u74, u75, u76, u77, u78, u79, u80, u81, u82, u83, u84, u85, u86, u87, u88, u89, u90, u91, u92, u93, u94, u95, u96, u97, u98, u99, u100, u101, u102, u103, u104, u105, u106, u107, u108, u109, u110, u111, u112, u113, u114, u115, u116, u117, u118, u119, u120, u121, u122, u123, u124, u125, u126, u127, u128, u129, u130, u131, u132, u133, u134, u135, u136, u137, u138, u139, u140, u141, u142, u143, u144, u145, u146, u147, u148, u149, u150, u151, u152, u153, u154, u155, u156, u157, u158, u159, u160, u161, u162, u163, u164, u165, u166, u167, u168, u169, u170, u171, u172, u173, u174, u175, u176, u177, u178, u179, u180, u181, u182, u183, u184, u185, u186, u187, u188, u189, u190, u191, u192, u193, u194, u195, u196, u197, u198, u199, u200, u201, u202, u203, u204, u205, u206, u207, u208, u209, u210, u211, u212, u213, u214, u215, u216, u217, u218, u219, u220, u221, u222, u223, u224, u225, u226, u227, u228, u229, u230, u231, u232, u233, u234, u235, u236, u237, u238, u239, u240, u241, u242, u243, u244, u245, u246, u247, u248, u249, u250, u251, u252, u253, u254, u255, u256, u257, u258, u259, u260, u261, u262, u263, u264, u265, u266, u267, u268, u269, u270, u271, u272, u273, u274, u275, u276, u277, u278, u279, u280, u281, u282, u283, u284, u285, u286, u287, u288, u289, u290, u291, u292, u293, u294, u295, u296, u297, u298, u299, u300, u301, u302, u303, u304, u305, u306, u307, u308, u309, u310], defers := [] } wr := by
  have HX := hide hQ
  have HP := hide hp
  have HI := hide hi
  have HW := hide hw
  have H14 := hide h14
  have H15 := hide h15
  have N14 := hide n14
  have N15 := hide n15
  have HD := hide hd
  have HM := hide hm
  have HN := hide hN
  have HNP := hide (And.intro hR hP)
  have k14 := h14.cell; have f14 := h14.frozen; have z14 := h14.lt
  unfold acE at k14
  clear hQ hp hi hw h14 h15 n14 n15 hd hm hN hR hP
  obtain ⟨p0, hp0, yz0, yz1, yz2⟩ := info_parts page_info
  have HFR := hide (HI.out.free HP.out.len hk)
  have HPX := hide (HI.out.m _ (List.getElem_mem hk)).1
  have HAN := hide (show ∀ ad, An = some ad → ad.block ≠ b14 from fun ad e h => own_blk_ne HW.out.rn H14.out (by decide) (by rw [e, ← h]; rfl))
  obtain ⟨b, o, rfl, zb, c0, c1⟩ := HW.out.page hk
  obtain ⟨⟨x, d⟩, hx⟩ : ∃ x, M[k] = x := ⟨_, rfl⟩
  rw [hx] at c0 c1 hold HFR HPX
  simp only at c0 c1 hold HPX
  have HOLD := hide hold
  rw [hold] at HFR
  obtain ⟨s, hs⟩ : ∃ s, ByteArray.mk d.toArray = s := ⟨_, rfl⟩
  have HSB := hide (show bstr d = .string s by unfold bstr; rw [hs])
  rw [HSB.out] at c1
  obtain ⟨mn, hmn⟩ : ∃ m, M.length = m := ⟨_, rfl⟩
  obtain ⟨mr, hmr⟩ : ∃ m, R.length = m := ⟨_, rfl⟩
  obtain ⟨ms, hms⟩ : ∃ m, P.length = m := ⟨_, rfl⟩
  have HMN := hide hmn
  have HMR := hide hmr
  have HMS := hide hms
  have hr1 : mn ≤ 80 := by omega
  have hr2 : mr ≤ 80 := by have := HNP.out; omega
  have hr3 : ms ≤ 80 := by have := HNP.out; omega
  rw [hmn] at HW ⊢
  rw [hmr] at HW ⊢
  rw [hms] at HW
  have hkn : k < mn := by omega
  have HCN := hide (show mn ≤ cn by rcases HW.out.rn.2 with ⟨e, -⟩ | ⟨_, _, _, e, _, _, h, _⟩ <;> (injection e with e1 e2 e3; omega))
  have hml := hM
  rw [hmn] at hml
  have k10 := HW.out.box.cell; have f10 := HW.out.box.frozen; have z10 := HW.out.box.lt
  have HPE := hide (show pgE (x, d) = [.int .i64 (x : Int), .string s] by unfold pgE; rw [HSB.out])
  obtain ⟨rm, hrm⟩ : ∃ rm, roomN st = rm := ⟨_, rfl⟩
  obtain ⟨rm2, hrm2⟩ : ∃ rm2, roomN (updN freeU st (x : Int)) = rm2 := ⟨_, rfl⟩
  have HRM := hide hrm
  have HRM2 := hide hrm2
  have hrr : rm2 = rm + (if false then 0 else 1) := by rw [← hrm, ← hrm2]; exact HFR.out.2
  have hrl : rm ≤ 65536 := by have := cnt_le (fun x => x.toNat == 0) st; rw [← cnt_room, hrm, HP.out.len] at this; have := HP.out.hn; omega
  simp only [if_true, Bool.false_eq_true, if_false] at hrr
  have HEK := hide (show (M.eraseIdx k).length = mn - 1 by rw [List.length_eraseIdx, hmn, if_pos hkn])
  subst hrr
  clear hM hk hx hs hmn hmr hms hold hrm hrm2
  rw [show Bd 5 = Code.seq (Bc 5) (Bd 6) from rfl]
  conv => arg 2; arg 1; whnf
  go_wp2_with (first
    | (go_at_call 14; (refine (proom HP5.out).mono ?_); rw [HRM2.out]; rintro e w6 ⟨rfl, hb⟩; have HP6 := hide (HP5.out.below hb); have HW6 := hide (HW5.out.later hb); clear hb)
    | (go_at_call 19; (refine (without_any (some ⟨b, o, none⟩) mn cn M k w4 (Sl.own HMN.out HMN.out rfl (by have := HW4.out.rn; exact this)) (by omega) hkn HCN.out).mono ?_); rintro e w5 ⟨⟨v5, rfl, ho⟩, hb⟩; have HP5 := hide (HP4.out.below hb); (obtain ⟨A5, c5, rfl, -⟩ := own_slice ho); have HW5 := hide (HW4.out.fresh (M' := M.eraseIdx k) hb HP4.out.sec.lt (by rw [HEK.out]; exact ho)); have HK5 := hide (HK4.out.below hb HK4.out.lt); have k5 := HK5.out.cell; have f5 := HK5.out.frozen; have z5 := HK5.out.lt; clear ho hb)
    | (go_at_call 15; (refine (pfree_ok (HP3.out.below (al_below w3 _)) (some ⟨w3.heap.size, 0, none⟩) 1 1 [(x : Int)] (NB.one w3 (x : Int)) (by decide) (far_new HP3.out.sblk.lt) (by unfold allPg; rw [List.all_cons, HPX.out]; rfl)).mono ?_); rintro e w4 ⟨rfl, hp, hf⟩; have HP4 := hide (show Pg w4 F pb sb db n left S L N (q : Int) (r : Int) frm (updN freeU st (x : Int)) from hp); have HW4 := hide ((HW3.out.later (al_below w3 _)).fr (HP3.out.below (al_below w3 _)) (fr_sb hf) (Grw.refl F _) HW3.out.hp HW3.out.hs); have HK4 := hide (hf.blk (HK3.out.alloc _) (fun e => by have := HP.out.sblk.lt; omega)); clear hp hf)
    | (go_at_call 14; (refine (proom HP2.out).mono ?_); rw [HRM.out]; rintro e w3 ⟨rfl, hb⟩; have HP3 := hide (HP2.out.below hb); have HW3 := hide (HW2.out.later hb); have HK3 := hide (HK2.out.below hb HK2.out.lt); have k3 := HK3.out.cell; have f3 := HK3.out.frozen; have z3 := HK3.out.lt; clear hb)
    | (go_at_call 18; (refine (find_any As ms cs P x _ (Sl.own HMS.out HMS.out rfl (by have := (HW.out.later (al_below wr (.cells #[.int .i64 (x : Int), .string s] TG))).rs; exact this)) (by omega)).mono ?_); rintro e w2 ⟨⟨x2, rfl, hx2⟩, hb⟩; rw [HOLD.out] at hx2; have HP2 := hide ((HP.out.below (al_below wr _)).below hb); have HW2 := hide ((HW.out.later (al_below wr _)).later hb); have HK2 := hide ((Blk.new wr TG #[.int .i64 (x : Int), .string s]).below hb (by simp)); clear hb))
  exact tail_up HX.out ⟨F, sb, left, S, L, N, q, r, frm, _, _, _, _, P, HP6.out, (by have := HFR.out.1; rw [if_neg (by decide)] at this; exact this), HW6.out, by have := HN.out; omega, by omega, by rw [HEK.out]; omega, by have := HNP.out; omega, by have := HNP.out; omega⟩ hj _ _ _ _ _ _ _ _ _ _ _ _ _ _ _ _ _ _ _ _ _ _ _ _ _ _ _ _ _ _ _ _ _ _ _ _ _ _ _ _ _ _ _ _ _ _ _ _ _ _ _ _ _ _ _ _ _ _ _ _ _ _ _ _ _ _ _ _ _ _ _ _ _ _ _ _ _ _ _ _ _ _ _ _ _ _ _ _ _ _ _ _ _ _ _ _ _ _ _ _ _ _ _ _ _ _ _ _ _ _ _ _ _ _ _ _ _ _ _ _ _ _ _ _ _ _ _ _ _ _ _ _ _ _ _ _ _ _ _ _ _ _ _ _ _ _ _ _ _ _ _ _ _ _ _ _ _ _ _ _ _ _ _ _ _ _ _ _ _ _ _ _ _ _ _ _ _ _ _ _ _ _ _ _ _ _ _ _ _ _ _ _ _ _ _ _ _ _ _ _ _ _ _ _ _ _ _ _ _ _ _ _ _ _ _ _ _ _ _ _ _ _ _ _ _ _ _ _ _ _ _ _ _ _ _ _ _ _ _ _ _ _ _ _ _ _ _ _ _ _ _ _ _ _ _ _ _ _ _ _ _ _ _ _ _ _ _ _ _ _ _ _
set_option maxRecDepth 1000000 in
set_option maxHeartbeats 4000000 in
theorem arm_parted {pb sb b14 b15 : Nat} {F : Nat → Prop} {left : Int} {S : Int → Cn} {L : List (Int × Cn)} {N q r : Nat} {frm : Int} {st : Cn} {kind K mask : Int} {Ad An As Ap : Option Addr} {md cd cn cs cp : Nat} {data : Cn} {M R P : PgL}
    (hQ : Nx Q w v0 v2 v3 v7 v9 v29 v30 v31 v32 v33 v34 v35 v36 v37 v38 v39 v40 v41 v42 v43 v44 v45 v46 v47 v48 v49 v50 v51 v52 v53 A nA cA n db b10 j) (hp : Pg wr F pb sb db n left S L N (q : Int) (r : Int) frm st) (hi : AcI n S L q r st M R P)
    (hw : AcW w wr F pb sb b10 q r (.slice An M.length cn) (.slice Ap R.length cp) (.slice As P.length cs) M R P) (h14 : Blk wr b14 TA (acE kind K Ad md cd mask)) (h15 : Blk wr b15 TS (stE q r As P.length cs)) (n14 : ¬ F b14) (n15 : ¬ F b15)
    (hd : RB w w.heap.size Ad md data) (hmd : md ≤ 140737488351232) (hm : 0 ≤ mask ∧ mask < 18446744073709551616) (hK : -9223372036854775808 ≤ K ∧ K < 9223372036854775808) (hN : N ≤ 2 * j) (hq : q ≤ j) (hM : M.length ≤ j) (hR : R.length ≤ j) (hP : P.length ≤ j) (hj : j < 80) {k : Nat} (hk : k < M.length) (e1 : (kind == 1) = false) (e2 : (kind == 2) = true) (hold : hasP P (M[k]).1 = true)
    (u4 u18 u19 u20 u21 u22 u23 u24 u25 u26 u27 u28 u54 u55 u56 u57 u58 u59 u60 u61 u62 u63 u64 u65 u66 u67 u68 u69 u70 u71 u72 u73 u74 u75 u76 u77 u78 u79 u80 u81 u82 u83 u84 u85 u86 u87 u88 u89 u90 u91 u92 u93 u94 u95 u96 u97 u98 u99 u100 u101 u102 u103 u104 u105 u106 u107 u108 u109 u110 u111 u112 u113 u114 u115 u116 u117 u118 u119 u120 u121 u122 u123 u124 u125 u126 u127 u128 u129 u130 u131 u132 u133 u134 u135 u136 u137 u138 u139 u140 u141 u142 u143 u144 u145 u146 u147 u148 u149 u150 u151 u152 u153 u154 u155 u156 u157 u158 u159 u160 u161 u162 u163 u164 u165 u166 u167 u168 u169 u170 u171 u172 u173 u174 u175 u176 u177 u178 u179 u180 u181 u182 u183 u184 u185 u186 u187 u188 u189 u190 u191 u192 u193 u194 u195 u196 u197 u198 u199 u200 u201 u202 u203 u204 u205 u206 u207 u208 u209 u210 u211 u212 u213 u214 u215 u216 u217 u218 u219 u220 u221 u222 u223 u224 u225 u226 u227 u228 u229 u230 u231 u232 u233 u234 u235 u236 u237 u238 u239 u240 u241 u242 u243 u244 u245 u246 u247 u248 u249 u250 u251 u252 u253 u254 u255 u256 u257 u258 u259 u260 u261 u262 u263 u264 u265 u266 u267 u268 u269 u270 u271 u272 u273 u274 u275 u276 u277 u278 u279 u280 u281 u282 u283 u284 u285 u286 u287 u288 u289 u290 u291 u292 u293 u294 u295 u296 u297 u298 u299 u300 u301 u302 u303 u304 u305 u306 u307 u308 u309 u310 : Value) :
    Code.wp Try.prog (Bd 5) Q { tmps := #[v0, .slice A nA cA, v2, v3, u4, .int .i64 (n : Int), .pointer (some ⟨db, 0, none⟩), v7, .pointer (some ⟨pb, 0, none⟩), v9, .pointer (some ⟨b10, 0, none⟩), .slice An M.length cn, .slice Ap R.length cp, .int .i64 (j : Int), .pointer (some ⟨b14, 0, none⟩), .pointer (some ⟨b15, 0, none⟩), .bool false, .int .i64 (k : Int), u18, u19, u20, u21, u22, u23, u24, u25, u26, u27, u28, v29, v30, v31, v32, v33, v34, v35, v36, v37, v38, v39, v40, v41, v42, v43, v44, v45, v46, v47, v48, v49, v50, v51, v52, v53, u54, u55, u56, u57, u58, u59, u60, u61, u62, u63, u64, u65, u66, u67, u68, u69, u70, u71, u72, u73, u74, u75, u76, u77, u78, u79, u80, u81, u82, u83, u84, u85, u86, u87, u88, u89, u90, u91, u92, u93, u94, u95, u96, u97, u98, u99, u100, u101, u102, u103, u104, u105, u106, u107, u108, u109, u110, u111, u112, u113, u114, u115, u116, u117, u118, u119, u120, u121, u122, u123, u124, u125, u126, u127, u128, u129, u130, u131, u132, u133, u134, u135, u136, u137, u138, u139, u140, u141, u142, u143, u144, u145, u146, u147, u148, u149, u150, u151, u152, u153, u154, u155, u156, u157, u158, u159, u160, u161, u162, u163, u164, u165, u166, u167, u168, u169, u170, u171, u172, u173, u174, u175, u176, u177, u178, u179, u180, u181, u182, u183, u184, u185, u186, u187, u188, u189, u190, u191, u192, u193, u194, u195, u196, u197, u198, u199, u200, u201, u202, u203, u204, u205, u206, u207, u208, u209, u210, u211, u212, u213, u214, u215, u216, u217, u218, u219, u220, u221, u222, u223, u224, u225, u226, u227, u228, u229, u230, u231, u232, u233, u234, u235, u236, u237, u238, u239, u240, u241, u242, u243, u244, u245, u246, u247, u248, u249, u250, u251, u252, u253, u254, u255, u256, u257, u258, u259, u260, u261, u262, u263, u264, u265, u266, u267, u268, u269, u270, u271, u272, u273, u274, u275, u276, u277, u278, u279, u280, u281, u282, u283, u284, u285, u286, u287, u288, u289, u290, u291, u292, u293, u294, u295, u296, u297, u298, u299, u300, u301, u302, u303, u304, u305, u306, u307, u308, u309, u310], defers := [] } wr := by
  have HX := hide hQ
  have HP := hide hp
  have HI := hide hi
  have HW := hide hw
  have H14 := hide h14
  have H15 := hide h15
  have N14 := hide n14
  have N15 := hide n15
  have HD := hide hd
  have HM := hide hm
  have HN := hide hN
  have HNP := hide (And.intro hR hP)
  have k14 := h14.cell; have f14 := h14.frozen; have z14 := h14.lt
  unfold acE at k14
  clear hQ hp hi hw h14 h15 n14 n15 hd hm hN hR hP
  obtain ⟨p0, hp0, yz0, yz1, yz2⟩ := info_parts page_info
  have HFR := hide (HI.out.free HP.out.len hk)
  have HPX := hide (HI.out.m _ (List.getElem_mem hk)).1
  have HAN := hide (show ∀ ad, An = some ad → ad.block ≠ b14 from fun ad e h => own_blk_ne HW.out.rn H14.out (by decide) (by rw [e, ← h]; rfl))
  obtain ⟨b, o, rfl, zb, c0, c1⟩ := HW.out.page hk
  obtain ⟨⟨x, d⟩, hx⟩ : ∃ x, M[k] = x := ⟨_, rfl⟩
  rw [hx] at c0 c1 hold HFR HPX
  simp only at c0 c1 hold HPX
  have HOLD := hide hold
  rw [hold] at HFR
  obtain ⟨s, hs⟩ : ∃ s, ByteArray.mk d.toArray = s := ⟨_, rfl⟩
  have HSB := hide (show bstr d = .string s by unfold bstr; rw [hs])
  rw [HSB.out] at c1
  obtain ⟨mn, hmn⟩ : ∃ m, M.length = m := ⟨_, rfl⟩
  obtain ⟨mr, hmr⟩ : ∃ m, R.length = m := ⟨_, rfl⟩
  obtain ⟨ms, hms⟩ : ∃ m, P.length = m := ⟨_, rfl⟩
  have HMN := hide hmn
  have HMR := hide hmr
  have HMS := hide hms
  have hr1 : mn ≤ 80 := by omega
  have hr2 : mr ≤ 80 := by have := HNP.out; omega
  have hr3 : ms ≤ 80 := by have := HNP.out; omega
  rw [hmn] at HW ⊢
  rw [hmr] at HW ⊢
  rw [hms] at HW
  have hkn : k < mn := by omega
  have HCN := hide (show mn ≤ cn by rcases HW.out.rn.2 with ⟨e, -⟩ | ⟨_, _, _, e, _, _, h, _⟩ <;> (injection e with e1 e2 e3; omega))
  have hml := hM
  rw [hmn] at hml
  have k10 := HW.out.box.cell; have f10 := HW.out.box.frozen; have z10 := HW.out.box.lt
  have HPE := hide (show pgE (x, d) = [.int .i64 (x : Int), .string s] by unfold pgE; rw [HSB.out])
  obtain ⟨rm, hrm⟩ : ∃ rm, roomN st = rm := ⟨_, rfl⟩
  obtain ⟨rm2, hrm2⟩ : ∃ rm2, roomN (updN freeU st (x : Int)) = rm2 := ⟨_, rfl⟩
  have HRM := hide hrm
  have HRM2 := hide hrm2
  have hrr : rm2 = rm + (if true then 0 else 1) := by rw [← hrm, ← hrm2]; exact HFR.out.2
  have hrl : rm ≤ 65536 := by have := cnt_le (fun x => x.toNat == 0) st; rw [← cnt_room, hrm, HP.out.len] at this; have := HP.out.hn; omega
  simp only [if_true, Bool.false_eq_true, if_false] at hrr
  have HEK := hide (show (M.eraseIdx k).length = mn - 1 by rw [List.length_eraseIdx, hmn, if_pos hkn])
  subst hrr
  clear hM hk hx hs hmn hmr hms hold hrm hrm2
  rw [show Bd 5 = Code.seq (Bc 5) (Bd 6) from rfl]
  conv => arg 2; arg 1; whnf
  have d9 : ((rm2 : Int) == (rm2 : Int) + 1) = false := by simp; omega
  go_wp2_with (first
    | (go_at_call 14; (refine (proom HP6.out).mono ?_); rw [HRM2.out]; rintro e w7 ⟨rfl, hb⟩; have HP7 := hide (HP6.out.below hb); have HW7 := hide (HW6.out.later hb); clear hb)
    | (at_builtin; (refine wpList_append_any _ rfl (.tmp 180) (.tmp 182) _ rfl w.heap.size TG p0 _ 2 24 Try.underlying47 hp0 yz0 yz1 yz2 rfl (by omega) (.slice Ap mr cp) mr (R.flatMap pgE) rfl (own_later (by have := HW5.out.rp; rw [HMR.out] at this; exact this) (al_below w5 _)) (w5.heap.size + 1) (some ⟨w5.heap.size, 0, none⟩) 1 1 [.int .i64 (x : Int), .string s] rfl (by have h := (Sl.of_blk (k := 2) (enc := pgE) (n := 1) (l := [(x, d)]) (Blk.new w5 TG #[.int .i64 (x : Int), .string s]) rfl (by rw [List.flatMap_cons, List.flatMap_nil, List.append_nil, HPE.out]) rfl).2; rw [List.flatMap_cons, List.flatMap_nil, List.append_nil, HPE.out] at h; simpa using h) (by intro u hu; simp at hu; rcases hu with rfl | rfl <;> rfl) (by unfold maxLen; omega) (by omega) (Nat.le_trans HW5.out.below.size (al_below w5 _).size) ?_); intro v6 w6 ho hg hor; have HP6 := hide ((HP5.out.below (al_below w5 _)).grown hg (fun e => own_blk_ne HW5.out.rp HP5.out.blk (by decide) e) (fun e => own_blk_ne HW5.out.rp HP5.out.sblk (by decide) e) HW5.out.fp); have HW6 := hide (AcW.part (R' := R ++ [(x, d)]) (HW5.out.later (al_below w5 _)) (fun j hj => Nat.lt_of_lt_of_le (HP5.out.sec.lt j hj) (al_below w5 _).size) (by rw [List.length_append, List.flatMap_append, List.flatMap_cons, List.flatMap_nil, List.append_nil, HPE.out, HMR.out]; exact ho) hg hor); clear ho hg hor)
    | (go_at_call 19; (refine (without_any (some ⟨b, o, none⟩) mn cn M k w4 (Sl.own HMN.out HMN.out rfl (by have := HW4.out.rn; exact this)) (by omega) hkn HCN.out).mono ?_); rintro e w5 ⟨⟨v5, rfl, ho⟩, hb⟩; have HP5 := hide (HP4.out.below hb); (obtain ⟨A5, c5, rfl, -⟩ := own_slice ho); have HW5 := hide (HW4.out.fresh (M' := M.eraseIdx k) hb HP4.out.sec.lt (by rw [HEK.out]; exact ho)); have HK5 := hide (HK4.out.below hb HK4.out.lt); have k5 := HK5.out.cell; have f5 := HK5.out.frozen; have z5 := HK5.out.lt; clear ho hb)
    | (go_at_call 15; (refine (pfree_ok (HP3.out.below (al_below w3 _)) (some ⟨w3.heap.size, 0, none⟩) 1 1 [(x : Int)] (NB.one w3 (x : Int)) (by decide) (far_new HP3.out.sblk.lt) (by unfold allPg; rw [List.all_cons, HPX.out]; rfl)).mono ?_); rintro e w4 ⟨rfl, hp, hf⟩; have HP4 := hide (show Pg w4 F pb sb db n left S L N (q : Int) (r : Int) frm (updN freeU st (x : Int)) from hp); have HW4 := hide ((HW3.out.later (al_below w3 _)).fr (HP3.out.below (al_below w3 _)) (fr_sb hf) (Grw.refl F _) HW3.out.hp HW3.out.hs); have HK4 := hide (hf.blk (HK3.out.alloc _) (fun e => by have := HP.out.sblk.lt; omega)); clear hp hf)
    | (go_at_call 14; (refine (proom HP2.out).mono ?_); rw [HRM.out]; rintro e w3 ⟨rfl, hb⟩; have HP3 := hide (HP2.out.below hb); have HW3 := hide (HW2.out.later hb); have HK3 := hide (HK2.out.below hb HK2.out.lt); have k3 := HK3.out.cell; have f3 := HK3.out.frozen; have z3 := HK3.out.lt; clear hb)
    | (go_at_call 18; (refine (find_any As ms cs P x _ (Sl.own HMS.out HMS.out rfl (by have := (HW.out.later (al_below wr (.cells #[.int .i64 (x : Int), .string s] TG))).rs; exact this)) (by omega)).mono ?_); rintro e w2 ⟨⟨x2, rfl, hx2⟩, hb⟩; rw [HOLD.out] at hx2; have HP2 := hide ((HP.out.below (al_below wr _)).below hb); have HW2 := hide ((HW.out.later (al_below wr _)).later hb); have HK2 := hide ((Blk.new wr TG #[.int .i64 (x : Int), .string s]).below hb (by simp)); clear hb))
  exact tail_up HX.out ⟨F, sb, left, S, L, N, q, r, frm, _, _, _, _, P, HP7.out, (by have := HFR.out.1; simp only [if_true] at this; exact this), HW7.out, by have := HN.out; omega, by omega, by rw [HEK.out]; omega, by rw [List.length_append]; have := HNP.out; simp; omega, by have := HNP.out; omega⟩ hj _ _ _ _ _ _ _ _ _ _ _ _ _ _ _ _ _ _ _ _ _ _ _ _ _ _ _ _ _ _ _ _ _ _ _ _ _ _ _ _ _ _ _ _ _ _ _ _ _ _ _ _ _ _ _ _ _ _ _ _ _ _ _ _ _ _ _ _ _ _ _ _ _ _ _ _ _ _ _ _ _ _ _ _ _ _ _ _ _ _ _ _ _ _ _ _ _ _ _ _ _ _ _ _ _ _ _ _ _ _ _ _ _ _ _ _ _ _ _ _ _ _ _ _ _ _ _ _ _ _ _ _ _ _ _ _ _ _ _ _ _ _ _ _ _ _ _ _ _ _ _ _ _ _ _ _ _ _ _ _ _ _ _ _ _ _ _ _ _ _ _ _ _ _ _ _ _ _ _ _ _ _ _ _ _ _ _ _ _ _ _ _ _ _ _ _ _ _ _ _ _ _ _ _ _ _ _ _ _ _ _ _ _ _ _ _ _ _ _ _ _ _ _ _ _ _ _ _ _ _ _ _ _ _ _ _ _ _ _ _ _ _ _ _ _ _ _ _ _ _ _ _ _ _ _ _ _ _ _ _ _ _ _ _ _ _ _ _ _ _ _ _
end
end Go.Proofs.Ytddcmockdomonaa
