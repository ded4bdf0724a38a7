/- PagerActs: a crash, and what is there behind it. -/
import Derived.Test.YtddcmockdomonaaPgActE
namespace Go.Proofs.Ytddcmockdomonaa
set_option linter.unusedSimpArgs false
set_option linter.unusedVariables false
open Go.RowKit
abbrev TA : TypeId := 51
def acE (kind k : Int) (A : Option Addr) (m c : Nat) (mask : Int) : Array Value := #[.int .i64 kind, .int .i64 k, .slice A m c, .int .u64 mask]
/-- What must be known of the sure list when the disk crashes. -/
structure DnW (w wr : World) (F : Nat → Prop) (b10 : Nat) (vs : Value) (Z : PgL) : Prop where
  rs : wr.ownsRow w.heap.size TG 2 vs Z.length (Z.flatMap pgE)
  fs : ∀ g, vs.ownBlock = some g → ¬ F g
  nb : ¬ F b10
  below : Below w.heap.size w wr
  low : ∀ j, F j → w.heap.size ≤ j
  hb : w.heap.size ≤ b10
section
variable {w wr w1 w2 w3 : World} {F : Nat → Prop} {b10 : Nat} {vs : Value} {Z : PgL} {cs : Array Value}
theorem DnW.again (h : DnW w wr F b10 vs Z) (hf : Fr F wr w1) : DnW w w1 F b10 vs Z :=
  { h with
    rs := row_fr h.rs hf h.fs
    below := h.below.trans (hf.below h.below.size h.low) }
theorem DnW.set (h : DnW w w1 F b10 vs Z) (hB : Blk w1 b10 TS cs) (hg : w1.grownBy w2 (some b10)) : DnW w w2 F b10 vs Z :=
  { h with
    rs := row_keep h.rs (fun g e => hg.block g (own_lt h.rs g e) (fun e' => own_blk_ne h.rs hB (by decide) (e.trans e')))
    below := h.below.grown hg h.below.size (fun k e => by injection e with e; rw [← e]; exact h.hb) }
theorem DnW.done {pb sb q r : Nat} {vn : Value} (h : DnW w w2 F b10 vs Z) (hB : Blk w2 b10 TS #[.int .i64 (q : Int), .int .i64 (r : Int), vs]) (hb : Below w2.heap.size w2 w3) (hr : w3.ownsRow w2.heap.size TG 2 vn Z.length (Z.flatMap pgE)) (hlt : ∀ j, F j → j < w2.heap.size) (h1 : w.heap.size ≤ pb) (h2 : w.heap.size ≤ sb) : AcW w w3 F pb sb b10 q r vn (.slice none 0 0) vs Z [] Z where
  rn := own_base hr h.below.size
  rp := ⟨rfl, .inl ⟨rfl, rfl⟩⟩
  rs := own_later h.rs hb
  fn := fun g e hF => by have := (hr.lt g e).1; have := hlt g hF; omega
  fp := fun g e => by simp [Value.ownBlock] at e
  fs := h.fs
  np := fun g e e' => by simp [Value.ownBlock] at e'
  ns := fun g e e' => by have := (hr.lt g e).1; have := own_lt h.rs g e'; omega
  ps := fun g e => by simp [Value.ownBlock] at e
  box := hB.below hb hB.lt
  nb := h.nb
  below := h.below.trans (hb.mono h.below.size)
  low := h.low
  hp := h1
  hs := h2
  hb := h.hb
end
theorem lit_zero (l : PgL) : ([] ++ l.flatMap pgE) = l.flatMap pgE := List.nil_append _
section
variable {Q : Exit → Act → World → Prop} {w wr : World} {v0 v2 v3 v7 v9 v29 v30 v31 v32 v33 v34 v35 v36 v37 v38 v39 v40 v41 v42 v43 v44 v45 v46 v47 v48 v49 v50 v51 v52 v53 : Value} {A : Option Addr} {nA cA n db b10 j : Nat}
set_option maxRecDepth 1000000 in
set_option maxHeartbeats 4000000 in
theorem tail_next (v8 vn vp : Value) {b14 b15 : Nat} {F : Nat → Prop} {out : Bool} {left : Int} {S : Int → Cn} {L : List (Int × Cn)} {N q r q1 r1 : Nat} {kind K mask : Int} {Ad A1 An : Option Addr} {md cd m1 c1 cn : Nat} {Z : PgL}
    (hQ : Nx Q w v0 v2 v3 v7 v9 v29 v30 v31 v32 v33 v34 v35 v36 v37 v38 v39 v40 v41 v42 v43 v44 v45 v46 v47 v48 v49 v50 v51 v52 v53 A nA cA n db b10 j) (hs : Sec wr F db out left (n : Int) S L N) (hN : N ≤ 2 * (j + 1)) (h4 : 4 ≤ n) (hm : 0 ≤ mask ∧ mask < 18446744073709551616)
    (h14 : Blk wr b14 TA (acE kind K Ad md cd mask)) (h15 : Blk wr b15 TS (stE q r An Z.length cn)) (h10 : Blk wr b10 TS (stE q1 r1 A1 m1 c1)) (hr : RI n (lastS (maskT mask) S L) q r) (hq : q ≤ j + 1)
    (hZ : ∀ p ∈ Z, pgB n (p.1 : Int) = true ∧ p.2.length ≤ 505 ∧ lastS (maskT mask) S L (p.1 : Int) = sealC 2 p.2) (hnd : (Z.map Prod.fst).Nodup) (hzl : Z.length ≤ j + 1)
    (hw : DnW w wr F b10 (.slice An Z.length cn) Z) (hj : j < 80) (u4 u17 u18 u19 u20 u21 u22 u23 u24 u25 u26 u27 u28 u54 u55 u56 u57 u58 u59 u60 u61 u62 u63 u64 u65 u66 u67 u68 u69 u70 u71 u72 u73 u74 u75 u76 u77 u78 u79 u80 u81 u82 u83 u84 u85 u86 u87 u88 u89 u90 u91 u92 u93 u94 u95 u96 u97 u98 u99 u100 u101 u102 u103 u104 u105 u106 u107 u108 u109 u110 u111 u112 u113 u114 u115 u116 u117 u118 u119 u120 u121 u122 u123 u124 u125 u126 u127 u128 u129 u130 u131 u132 u133 u134 u135 u136 u137 u138 u139 u140 u141 u142 u143 u144 u145 u146 u147 u148 u149 u150 u151 u152 u153 u154 u155 u156 u157 u158 u159 u160 u161 u162 u163 u164 u165 u166 u167 u168 u169 u170 u171 u172 u173 u174 u175 u176 u177 u178 u179 u180 u181 u182 u183 u184 u185 u186 u187 u188 u189 u190 u191 u192 u193 u194 u195 u196 u197 u198 u199 u200 u201 u202 u203 u204 u205 u206 u207 u208 u209 u210 u211 u212 u213 u214 u215 u216 u217 u218 u219 u220 u221 u222 u223 u224 u225 u226 u227 u228 u229 u230 u231 u232 u233 u234 u235 u236 u237 u238 u239 u240 u241 u242 u243 u244 u245 u246 u247 u248 u249 u250 u251 u252 u253 u254 u255 u256 u257 u258 u259 u260 u261 u262 u263 u264 u265 u266 u267 u268 u269 u270 u271 u272 u273 u274 u275 u276 u277 u278 u279 u280 u281 u282 u283 u284 u285 u286 u287 u288 u289 u290 u291 u292 u293 u294 u295 u296 u297 u298 u299 u300 u301 u302 u303 u304 u305 u306 u307 u308 u309 u310 : Value) :
    Code.wp Try.prog (Bd 6) Q { tmps := #[v0, .slice A nA cA, v2, v3, u4, .int .i64 (n : Int), .pointer (some ⟨db, 0, none⟩), v7, v8, v9, .pointer (some ⟨b10, 0, none⟩), vn, vp, .int .i64 (j : Int), .pointer (some ⟨b14, 0, none⟩), .pointer (some ⟨b15, 0, none⟩), .bool true, u17, u18, u19, u20, u21, u22, u23, u24, u25, u26, u27, u28, v29, v30, v31, v32, v33, v34, v35, v36, v37, v38, v39, v40, v41, v42, v43, v44, v45, v46, v47, v48, v49, v50, v51, v52, v53, u54, u55, u56, u57, u58, u59, u60, u61, u62, u63, u64, u65, u66, u67, u68, u69, u70, u71, u72, u73, u74, u75, u76, u77, u78, u79, u80, u81, u82, u83, u84, u85, u86, u87, u88, u89, u90, u91, u92, u93, u94, u95, u96, u97, u98, u99, u100, u101, u102, u103, u104, u105, u106, u107, u108, u109, u110, u111, u112, u113, u114, u115, u116, u117, u118, u119, u120, u121, u122, u123, u124, u125, u126, u127, u128, u129, u130, u131, u132, u133, u134, u135, u136, u137, u138, u139, u140, u141, u142, u143, u144, u145, u146, u147, u148, u149, u150, u151, u152, u153, u154, u155, u156, u157, u158, u159, u160, u161, u162, u163, u164, u165, u166, u167, u168, u169, u170, u171, u172, u173, u174, u175, u176, u177, u178, u179, u180, u181, u182, u183, u184, u185, u186, u187, u188, u189, u190, u191, u192, u193, u194, u195, u196, u197, u198, u199, u200, u201, u202, u203, u204, u205, u206, u207, u208, u209, u210, u211, u212, u213, u214, u215, u216, u217, u218, u219, u220, u221, u222, u223, u224, u225, u226, u227, u228, u229, u230, u231, u232, u233, u234, u235, u236, u237, u238, u239, u240, u241, u242, u243, u244, u245, u246, u247, u248, u249, u250, u251, u252, u253, u254, u255, u256, u257, u258, u259, u260, u261, u262, u263, u264, u265, u266, u267, u268, u269, u270, u271, u272, u273, u274, u275, u276, u277, u278, u279, u280, u281, u282, u283, u284, u285, u286, u287, u288, u289, u290, u291, u292, u293, u294, u295, u296, u297, u298, u299, u300, u301, u302, u303, u304, u305, u306, u307, u308, u309, u310], defers := [] } wr := by
  obtain ⟨i0, hi0, hz0, hz1, hz2⟩ := info_parts page_info
  have HX := hide hQ
  have HS := hide hs
  have HW := hide hw
  have HR := hide hr
  have HZ := hide hZ
  have HND := hide hnd
  have HM := hide hm
  have HN := hide hN
  obtain ⟨S', hS'⟩ : ∃ S', lastS (maskT mask) S L = S' := ⟨_, rfl⟩
  rw [hS'] at HR HZ
  have HS' := hide hS'
  have k14 := h14.cell; have f14 := h14.frozen; have z14 := h14.lt
  have k15 := h15.cell; have f15 := h15.frozen; have z15 := h15.lt
  have k10 := h10.cell; have f10 := h10.frozen; have z10 := h10.lt
  have HB10 := hide h10
  have HFL := hide hs.lt
  obtain ⟨m, hm'⟩ : ∃ m, Z.length = m := ⟨_, rfl⟩
  have HLZ := hide hm'
  rw [hm'] at HW hzl
  (try rw [hm'] at k15)
  (try rw [hm'] at k10 HB10)
  unfold acE at k14
  unfold stE at k15 k10
  clear hQ hs hw hr hZ hnd hm hN hS' h14 h15 h10 hm'
  conv => arg 2; whnf
  go_upto_region 67 with (first
    | (go_at_call 21; (refine (again_next wr HS.out (by have := HN.out; omega) h4 mask HM.out HS'.out q1 r1 q r A1 m1 c1 An m cn Z HR.out  (by omega) (Sl.own HLZ.out HLZ.out rfl (by have := HW.out.rs; exact this)) (by omega) (fun ad e => ⟨own_lt HW.out.rs ad.block (by rw [e]; rfl), HW.out.fs ad.block (by rw [e]; rfl)⟩) HZ.out HND.out).mono ?_); rintro e w1 ⟨⟨pb, sb, rfl, hpb, hsb, hp⟩, hf⟩; have HP1 := hide hp; have HW1 := hide (HW.out.again hf); have HB1 := hide (hf.blk HB10.out HW.out.nb); have HPB := hide (Nat.le_trans HW.out.below.size hpb); have HSB := hide (Nat.le_trans HW.out.below.size hsb); clear hp hf hpb hsb k10 f10 z10 k14 f14 z14 k15 f15 z15; unfold stE; have k1 := HB1.out.cell; unfold stE at k1; have f1 := HB1.out.frozen; have z1 := HB1.out.lt))
  have HG2 := hide (((gby_set w1 b10 0 (.int .i64 (q : Int))).trans (gby_set _ b10 1 (.int .i64 (r : Int)))).trans (gby_set _ b10 2 (.slice An m cn)))
  have HB2 := hide (((HB1.out.set_ 0 (.int .i64 (q : Int))).set_ 1 (.int .i64 (r : Int))).set_ 2 (.slice An m cn))
  have HP2 := hide (HP1.out.grown HG2.out (fun e => Blk.ne_ HB1.out HP1.out.blk (by decide) (by injection e)) (fun e => Blk.ne_ HB1.out HP1.out.sblk (by decide) (by injection e)) (fun g e => by injection e with e; rw [← e]; exact HW1.out.nb))
  have HW2 := hide (HW1.out.set HB1.out HG2.out)
  obtain ⟨w2, hw2⟩ : ∃ w2, ((w1.setCell ⟨b10, 0, none⟩ (.int .i64 (q : Int))).setCell ⟨b10, 1, none⟩ (.int .i64 (r : Int))).setCell ⟨b10, 2, none⟩ (.slice An m cn) = w2 := ⟨_, rfl⟩
  rw [hw2] at HB2 HP2 HW2 ⊢
  have HBX := hide (show Blk w2 b10 TS #[.int .i64 (q : Int), .int .i64 (r : Int), .slice An m cn] from HB2.out)
  have k2 := HBX.out.cell; have f2 := HBX.out.frozen; have z2 := HBX.out.lt
  have HI2 := hide (AcI.fresh HR.out HZ.out HND.out)
  clear HP1 HW1 HB1 HG2 HB2 k1 f1 z1 hw2
  go_wp2_with (first
    | (go_at_call 22; (refine (intact_any w4 HP4.out A3 m c3 Z (Sl.own HLZ.out HLZ.out rfl (by have := HW4.out.rn; exact this)) (by omega) (fun ad e => (HW4.out.pf HP4.out).1 ad.block (by rw [e]; rfl)) HI2.out.m).mono ?_); rintro e w5 ⟨rfl, hp, hf⟩; have HP5 := hide hp; have HW5 := hide (HW4.out.fr HP4.out hf (Grw.refl F w4) HW4.out.hp HW4.out.hs); clear hp hf)
    | (go_at_call 12; (refine (proot HP3.out).mono ?_); rintro e w4 ⟨rfl, hb⟩; have HP4 := hide (HP3.out.below hb); have HW4 := hide (HW3.out.later hb); have k4 := HW4.out.box.cell; have f4 := HW4.out.box.frozen; have z4 := HW4.out.box.lt; clear hb)
    | (at_builtin; (refine wpList_append_any _ rfl (.tmp 286) (.tmp 288) _ rfl w2.heap.size TG i0 _ 2 24 Try.underlying47 hi0 hz0 hz1 hz2 rfl (by omega) _ 0 [] rfl (World.ownsRow_lit w2 #[] 0 (Nat.le_refl _) (by unfold maxLen; omega) rfl) w2.heap.size An m cn (Z.flatMap pgE) rfl (Reads.al (Nat.le_refl _) (Sl.own (n := m) HLZ.out HLZ.out rfl (by have := HW2.out.rs; exact this)).2 _) (pgE_one _) (by unfold maxLen; omega) (by omega) (by simp) ?_); intro v3 w3 ho hg _; rw [List.nil_append, Nat.zero_add] at ho; have hb3 := below_lit hg; (obtain ⟨A3, c3, rfl, -⟩ := own_slice ho); have HW3 := hide (HW2.out.done HBX.out hb3 (by rw [HLZ.out]; exact ho) HP2.out.sec.lt HPB.out HSB.out); have HP3 := hide (HP2.out.below hb3); clear ho hg hb3))
  exact HX.out _ _ _ _ _ _ _ _ _ _ _ _ _ _ _ _ _ _ _ _ _ _ _ _ _ _ _ _ _ _ _ _ _ _ _ _ _ _ _ _ _ _ _ _ _ _ _ _ _ _ _ _ _ _ _ _ _ _ _ _ _ _ _ _ _ _ _ _ _ _ _ _ _ _ _ _ _ _ _ _ _ _ _ _ _ _ _ _ _ _ _ _ _ _ _ _ _ _ _ _ _ _ _ _ _ _ _ _ _ _ _ _ _ _ _ _ _ _ _ _ _ _ _ _ _ _ _ _ _ _ _ _ _ _ _ _ _ _ _ _ _ _ _ _ _ _ _ _ _ _ _ _ _ _ _ _ _ _ _ _ _ _ _ _ _ _ _ _ _ _ _ _ _ _ _ _ _ _ _ _ _ _ _ _ _ _ _ _ _ _ _ _ _ _ _ _ _ _ _ _ _ _ _ _ _ _ _ _ _ _ _ _ _ _ _ _ _ _ _ _ _ _ _ _ _ _ _ _ _ _ _ _ _ _ _ _ _ _ _ _ _ _ _ _ _ _ _ _ _ _ _ _ _ _ _ _ _ _ _ _ _ _ _ _ _ _ _ _ _ _ _ _ _ _ _ _ _ ⟨F, sb, 0, S', [], N, q, r, 0, usedSt n Z, .slice An m cn, Z, [], Z, HP5.out, HI2.out, HW5.out, HN.out, hq, by rw [HLZ.out]; exact hzl, Nat.zero_le _, by rw [HLZ.out]; exact hzl⟩
set_option maxRecDepth 1000000 in
set_option maxHeartbeats 4000000 in
theorem tail_sure (v8 vn vp : Value) {b14 b15 : Nat} {F : Nat → Prop} {out : Bool} {left : Int} {S : Int → Cn} {L : List (Int × Cn)} {N q r q1 r1 : Nat} {kind K mask : Int} {Ad A1 An : Option Addr} {md cd m1 c1 cn : Nat} {Z : PgL}
    (hQ : Nx Q w v0 v2 v3 v7 v9 v29 v30 v31 v32 v33 v34 v35 v36 v37 v38 v39 v40 v41 v42 v43 v44 v45 v46 v47 v48 v49 v50 v51 v52 v53 A nA cA n db b10 j) (hs : Sec wr F db out left (n : Int) S L N) (hN : N ≤ 2 * (j + 1)) (h4 : 4 ≤ n) (hm : 0 ≤ mask ∧ mask < 18446744073709551616)
    (h14 : Blk wr b14 TA (acE kind K Ad md cd mask)) (h15 : Blk wr b15 TS (stE q1 r1 A1 m1 c1)) (h10 : Blk wr b10 TS (stE q r An Z.length cn)) (hqq : q ≠ q1)(hr : RI n (lastS (maskT mask) S L) q r) (hq : q ≤ j + 1)
    (hZ : ∀ p ∈ Z, pgB n (p.1 : Int) = true ∧ p.2.length ≤ 505 ∧ lastS (maskT mask) S L (p.1 : Int) = sealC 2 p.2) (hnd : (Z.map Prod.fst).Nodup) (hzl : Z.length ≤ j + 1)
    (hw : DnW w wr F b10 (.slice An Z.length cn) Z) (hj : j < 80) (u4 u17 u18 u19 u20 u21 u22 u23 u24 u25 u26 u27 u28 u54 u55 u56 u57 u58 u59 u60 u61 u62 u63 u64 u65 u66 u67 u68 u69 u70 u71 u72 u73 u74 u75 u76 u77 u78 u79 u80 u81 u82 u83 u84 u85 u86 u87 u88 u89 u90 u91 u92 u93 u94 u95 u96 u97 u98 u99 u100 u101 u102 u103 u104 u105 u106 u107 u108 u109 u110 u111 u112 u113 u114 u115 u116 u117 u118 u119 u120 u121 u122 u123 u124 u125 u126 u127 u128 u129 u130 u131 u132 u133 u134 u135 u136 u137 u138 u139 u140 u141 u142 u143 u144 u145 u146 u147 u148 u149 u150 u151 u152 u153 u154 u155 u156 u157 u158 u159 u160 u161 u162 u163 u164 u165 u166 u167 u168 u169 u170 u171 u172 u173 u174 u175 u176 u177 u178 u179 u180 u181 u182 u183 u184 u185 u186 u187 u188 u189 u190 u191 u192 u193 u194 u195 u196 u197 u198 u199 u200 u201 u202 u203 u204 u205 u206 u207 u208 u209 u210 u211 u212 u213 u214 u215 u216 u217 u218 u219 u220 u221 u222 u223 u224 u225 u226 u227 u228 u229 u230 u231 u232 u233 u234 u235 u236 u237 u238 u239 u240 u241 u242 u243 u244 u245 u246 u247 u248 u249 u250 u251 u252 u253 u254 u255 u256 u257 u258 u259 u260 u261 u262 u263 u264 u265 u266 u267 u268 u269 u270 u271 u272 u273 u274 u275 u276 u277 u278 u279 u280 u281 u282 u283 u284 u285 u286 u287 u288 u289 u290 u291 u292 u293 u294 u295 u296 u297 u298 u299 u300 u301 u302 u303 u304 u305 u306 u307 u308 u309 u310 : Value) :
    Code.wp Try.prog (Bd 6) Q { tmps := #[v0, .slice A nA cA, v2, v3, u4, .int .i64 (n : Int), .pointer (some ⟨db, 0, none⟩), v7, v8, v9, .pointer (some ⟨b10, 0, none⟩), vn, vp, .int .i64 (j : Int), .pointer (some ⟨b14, 0, none⟩), .pointer (some ⟨b15, 0, none⟩), .bool true, u17, u18, u19, u20, u21, u22, u23, u24, u25, u26, u27, u28, v29, v30, v31, v32, v33, v34, v35, v36, v37, v38, v39, v40, v41, v42, v43, v44, v45, v46, v47, v48, v49, v50, v51, v52, v53, u54, u55, u56, u57, u58, u59, u60, u61, u62, u63, u64, u65, u66, u67, u68, u69, u70, u71, u72, u73, u74, u75, u76, u77, u78, u79, u80, u81, u82, u83, u84, u85, u86, u87, u88, u89, u90, u91, u92, u93, u94, u95, u96, u97, u98, u99, u100, u101, u102, u103, u104, u105, u106, u107, u108, u109, u110, u111, u112, u113, u114, u115, u116, u117, u118, u119, u120, u121, u122, u123, u124, u125, u126, u127, u128, u129, u130, u131, u132, u133, u134, u135, u136, u137, u138, u139, u140, u141, u142, u143, u144, u145, u146, u147, u148, u149, u150, u151, u152, u153, u154, u155, u156, u157, u158, u159, u160, u161, u162, u163, u164, u165, u166, u167, u168, u169, u170, u171, u172, u173, u174, u175, u176, u177, u178, u179, u180, u181, u182, u183, u184, u185, u186, u187, u188, u189, u190, u191, u192, u193, u194, u195, u196, u197, u198, u199, u200, u201, u202, u203, u204, u205, u206, u207, u208, u209, u210, u211, u212, u213, u214, u215, u216, u217, u218, u219, u220, u221, u222, u223, u224, u225, u226, u227, u228, u229, u230, u231, u232, u233, u234, u235, u236, u237, u238, u239, u240, u241, u242, u243, u244, u245, u246, u247, u248, u249, u250, u251, u252, u253, u254, u255, u256, u257, u258, u259, u260, u261, u262, u263, u264, u265, u266, u267, u268, u269, u270, u271, u272, u273, u274, u275, u276, u277, u278, u279, u280, u281, u282, u283, u284, u285, u286, u287, u288, u289, u290, u291, u292, u293, u294, u295, u296, u297, u298, u299, u300, u301, u302, u303, u304, u305, u306, u307, u308, u309, u310], defers := [] } wr := by
  obtain ⟨i0, hi0, hz0, hz1, hz2⟩ := info_parts page_info
  have HX := hide hQ
  have HS := hide hs
  have HW := hide hw
  have HR := hide hr
  have HZ := hide hZ
  have HND := hide hnd
  have HM := hide hm
  have HN := hide hN
  obtain ⟨S', hS'⟩ : ∃ S', lastS (maskT mask) S L = S' := ⟨_, rfl⟩
  rw [hS'] at HR HZ
  have HS' := hide hS'
  have k14 := h14.cell; have f14 := h14.frozen; have z14 := h14.lt
  have k15 := h15.cell; have f15 := h15.frozen; have z15 := h15.lt
  have k10 := h10.cell; have f10 := h10.frozen; have z10 := h10.lt
  have HB10 := hide h10
  have HFL := hide hs.lt
  obtain ⟨m, hm'⟩ : ∃ m, Z.length = m := ⟨_, rfl⟩
  have HLZ := hide hm'
  rw [hm'] at HW hzl
  (try rw [hm'] at k15)
  (try rw [hm'] at k10 HB10)
  unfold acE at k14
  unfold stE at k15 k10
  clear hQ hs hw hr hZ hnd hm hN hS' h14 h15 h10 hm'
  conv => arg 2; whnf
  go_upto_region 67 with (first
    | (go_at_call 21; (refine (again_sure wr HS.out (by have := HN.out; omega) h4 mask HM.out HS'.out q1 r1 q r A1 m1 c1 An m cn Z HR.out hqq (by omega) (Sl.own HLZ.out HLZ.out rfl (by have := HW.out.rs; exact this)) (by omega) (fun ad e => ⟨own_lt HW.out.rs ad.block (by rw [e]; rfl), HW.out.fs ad.block (by rw [e]; rfl)⟩) HZ.out HND.out).mono ?_); rintro e w1 ⟨⟨pb, sb, rfl, hpb, hsb, hp⟩, hf⟩; have HP1 := hide hp; have HW1 := hide (HW.out.again hf); have HB1 := hide (hf.blk HB10.out HW.out.nb); have HPB := hide (Nat.le_trans HW.out.below.size hpb); have HSB := hide (Nat.le_trans HW.out.below.size hsb); clear hp hf hpb hsb k10 f10 z10 k14 f14 z14 k15 f15 z15; unfold stE; have k1 := HB1.out.cell; unfold stE at k1; have f1 := HB1.out.frozen; have z1 := HB1.out.lt))
  have HG2 := hide (((gby_set w1 b10 0 (.int .i64 (q : Int))).trans (gby_set _ b10 1 (.int .i64 (r : Int)))).trans (gby_set _ b10 2 (.slice An m cn)))
  have HB2 := hide (((HB1.out.set_ 0 (.int .i64 (q : Int))).set_ 1 (.int .i64 (r : Int))).set_ 2 (.slice An m cn))
  have HP2 := hide (HP1.out.grown HG2.out (fun e => Blk.ne_ HB1.out HP1.out.blk (by decide) (by injection e)) (fun e => Blk.ne_ HB1.out HP1.out.sblk (by decide) (by injection e)) (fun g e => by injection e with e; rw [← e]; exact HW1.out.nb))
  have HW2 := hide (HW1.out.set HB1.out HG2.out)
  obtain ⟨w2, hw2⟩ : ∃ w2, ((w1.setCell ⟨b10, 0, none⟩ (.int .i64 (q : Int))).setCell ⟨b10, 1, none⟩ (.int .i64 (r : Int))).setCell ⟨b10, 2, none⟩ (.slice An m cn) = w2 := ⟨_, rfl⟩
  rw [hw2] at HB2 HP2 HW2 ⊢
  have HBX := hide (show Blk w2 b10 TS #[.int .i64 (q : Int), .int .i64 (r : Int), .slice An m cn] from HB2.out)
  have k2 := HBX.out.cell; have f2 := HBX.out.frozen; have z2 := HBX.out.lt
  have HI2 := hide (AcI.fresh HR.out HZ.out HND.out)
  clear HP1 HW1 HB1 HG2 HB2 k1 f1 z1 hw2
  go_wp2_with (first
    | (go_at_call 22; (refine (intact_any w4 HP4.out A3 m c3 Z (Sl.own HLZ.out HLZ.out rfl (by have := HW4.out.rn; exact this)) (by omega) (fun ad e => (HW4.out.pf HP4.out).1 ad.block (by rw [e]; rfl)) HI2.out.m).mono ?_); rintro e w5 ⟨rfl, hp, hf⟩; have HP5 := hide hp; have HW5 := hide (HW4.out.fr HP4.out hf (Grw.refl F w4) HW4.out.hp HW4.out.hs); clear hp hf)
    | (go_at_call 12; (refine (proot HP3.out).mono ?_); rintro e w4 ⟨rfl, hb⟩; have HP4 := hide (HP3.out.below hb); have HW4 := hide (HW3.out.later hb); have k4 := HW4.out.box.cell; have f4 := HW4.out.box.frozen; have z4 := HW4.out.box.lt; clear hb)
    | (at_builtin; (refine wpList_append_any _ rfl (.tmp 286) (.tmp 288) _ rfl w2.heap.size TG i0 _ 2 24 Try.underlying47 hi0 hz0 hz1 hz2 rfl (by omega) _ 0 [] rfl (World.ownsRow_lit w2 #[] 0 (Nat.le_refl _) (by unfold maxLen; omega) rfl) w2.heap.size An m cn (Z.flatMap pgE) rfl (Reads.al (Nat.le_refl _) (Sl.own (n := m) HLZ.out HLZ.out rfl (by have := HW2.out.rs; exact this)).2 _) (pgE_one _) (by unfold maxLen; omega) (by omega) (by simp) ?_); intro v3 w3 ho hg _; rw [List.nil_append, Nat.zero_add] at ho; have hb3 := below_lit hg; (obtain ⟨A3, c3, rfl, -⟩ := own_slice ho); have HW3 := hide (HW2.out.done HBX.out hb3 (by rw [HLZ.out]; exact ho) HP2.out.sec.lt HPB.out HSB.out); have HP3 := hide (HP2.out.below hb3); clear ho hg hb3))
  exact HX.out _ _ _ _ _ _ _ _ _ _ _ _ _ _ _ _ _ _ _ _ _ _ _ _ _ _ _ _ _ _ _ _ _ _ _ _ _ _ _ _ _ _ _ _ _ _ _ _ _ _ _ _ _ _ _ _ _ _ _ _ _ _ _ _ _ _ _ _ _ _ _ _ _ _ _ _ _ _ _ _ _ _ _ _ _ _ _ _ _ _ _ _ _ _ _ _ _ _ _ _ _ _ _ _ _ _ _ _ _ _ _ _ _ _ _ _ _ _ _ _ _ _ _ _ _ _ _ _ _ _ _ _ _ _ _ _ _ _ _ _ _ _ _ _ _ _ _ _ _ _ _ _ _ _ _ _ _ _ _ _ _ _ _ _ _ _ _ _ _ _ _ _ _ _ _ _ _ _ _ _ _ _ _ _ _ _ _ _ _ _ _ _ _ _ _ _ _ _ _ _ _ _ _ _ _ _ _ _ _ _ _ _ _ _ _ _ _ _ _ _ _ _ _ _ _ _ _ _ _ _ _ _ _ _ _ _ _ _ _ _ _ _ _ _ _ _ _ _ _ _ _ _ _ _ _ _ _ _ _ _ _ _ _ _ _ _ _ _ _ _ _ _ _ _ _ _ _ ⟨F, sb, 0, S', [], N, q, r, 0, usedSt n Z, .slice An m cn, Z, [], Z, HP5.out, HI2.out, HW5.out, HN.out, hq, by rw [HLZ.out]; exact hzl, Nat.zero_le _, by rw [HLZ.out]; exact hzl⟩
end
end Go.Proofs.Ytddcmockdomonaa
