/- PagerActs: a flip: the memory. -/
import Derived.Test.YtddcmockdomonaaPgActL
import Derived.Test.YtddcmockdomonaaRegW
import Derived.BigRegion
namespace Go.Proofs.Ytddcmockdomonaa
set_option linter.unusedSimpArgs false
set_option linter.unusedVariables false
open Go.RowKit
/-- The list of the state that is flipped to. -/
structure NxR (w wr : World) (F : Nat → Prop) (vn vx : Value) (M : PgL) : Prop where
  nr : wr.ownsRow w.heap.size TG 2 vx M.length (M.flatMap pgE)
  nf : ∀ g, vx.ownBlock = some g → ¬ F g
  nn : ∀ g, vn.ownBlock = some g → vx.ownBlock ≠ some g
section
variable {w wr w' : World} {F F' : Nat → Prop} {pb sb b10 b15 q r db n : Nat} {vn vp vs vx : Value} {M R P : PgL} {left : Int} {S : Int → Cn} {L : List (Int × Cn)} {N : Nat} {frm : Int} {st : Cn} {cs : Array Value}
theorem AcW.set15 (h : AcW w wr F pb sb b10 q r vn vp vs M R P) (hB : Blk wr b15 TS cs) (hg : wr.grownBy w' (some b15)) (hne : b10 ≠ b15) (hge : w.heap.size ≤ b15) : AcW w w' F pb sb b10 q r vn vp vs M R P :=
  { h with
    rn := row_keep h.rn (fun g e => hg.block g (own_lt h.rn g e) (fun e' => own_blk_ne h.rn hB (by decide) (e.trans e')))
    rp := row_keep h.rp (fun g e => hg.block g (own_lt h.rp g e) (fun e' => own_blk_ne h.rp hB (by decide) (e.trans e')))
    rs := row_keep h.rs (fun g e => hg.block g (own_lt h.rs g e) (fun e' => own_blk_ne h.rs hB (by decide) (e.trans e')))
    box := h.box.grown hg (fun e => hne (by injection e))
    below := h.below.grown hg h.below.size (fun k e => by injection e with e; rw [← e]; exact hge) }
theorem NxR.set (h : NxR w wr F vn vx M) (hB : Blk wr b15 TS cs) (hg : wr.grownBy w' (some b15)) : NxR w w' F vn vx M :=
  { h with nr := row_keep h.nr (fun g e => hg.block g (own_lt h.nr g e) (fun e' => own_blk_ne h.nr hB (by decide) (e.trans e'))) }
theorem NxR.fr (h : NxR w wr F vn vx M) (hp : Pg wr F pb sb db n left S L N (q : Int) (r : Int) frm st) (hf : Fr (PF F pb sb) wr w') (hg : Grw F wr F') : NxR w w' F' vn vx M where
  nr := row_fr h.nr hf (fun g e h' => by
    rcases h' with h' | rfl | rfl
    · exact h.nf g e h'
    · exact own_blk_ne h.nr hp.blk (by decide) e
    · exact own_blk_ne h.nr hp.sblk (by decide) e)
  nf := fun g e hF => (hg g hF).elim (h.nf g e) (fun h' => by have := own_lt h.nr g e; omega)
  nn := h.nn
theorem NxR.dn (h : NxR w wr F vn vx M) (hw : AcW w wr F pb sb b10 q r vn vp vs M R P) : DnW w wr F b10 vx M := ⟨h.nr, h.nf, hw.nb, hw.below, hw.low, hw.hb⟩
theorem AcW.flipped {q' r' : Nat} (h : AcW w wr F pb sb b10 q r vn vp vs M R P) (hx : NxR w wr F vn vx M) (hg : wr.grownBy w' (some b10)) (hB : Blk w' b10 TS #[.int .i64 (q' : Int), .int .i64 (r' : Int), vx]) : AcW w w' F pb sb b10 q' r' vn (.slice none 0 0) vx M [] M where
  rn := row_keep h.rn (fun g e => hg.block g (own_lt h.rn g e) (fun e' => own_blk_ne h.rn h.box (by decide) (e.trans e')))
  rp := ⟨rfl, .inl ⟨rfl, rfl⟩⟩
  rs := row_keep hx.nr (fun g e => hg.block g (own_lt hx.nr g e) (fun e' => own_blk_ne hx.nr h.box (by decide) (e.trans e')))
  fn := h.fn
  fp := fun g e => by simp [Value.ownBlock] at e
  fs := hx.nf
  np := fun g e e' => by simp [Value.ownBlock] at e'
  ns := hx.nn
  ps := fun g e => by simp [Value.ownBlock] at e
  box := hB
  nb := h.nb
  below := h.below.grown hg h.below.size (fun k e => by injection e with e; rw [← e]; exact h.hb)
  low := h.low
  hp := h.hp
  hs := h.hs
  hb := h.hb
end
/-- What Flip answers, as a number. -/
def FlipC (w : World) (F : Nat → Prop) (pb sb db n : Nat) (left : Int) (S : Int → Cn) (L : List (Int × Cn)) (N : Nat) (q : Nat) (frm : Int) (st : Cn) (r : Nat) (c : Int) (w' : World) : Prop :=
  (c = 15 ∧ ∃ F' left' S' L', Sec w' F' db true left' (n : Int) S' L' (N + 1) ∧ Grw F w F' ∧
    ((S' = S ∧ L' = L) ∨ (S' = lastS allT S L ∧ (L' = [] ∨ L' = [((((q + 1) % 2 : Nat) : Int), rootC (q + 1) r)])))) ∨
  (c = 0 ∧ ∃ F', Pg w' F' pb sb db n (burnL (burnL (burnL left))) (upd (lastS allT S L) ((q + 1) % 2 : Nat) (rootC (q + 1) r)) [] (N + 1) ((q + 1 : Nat) : Int) r frm (st.map flipU) ∧ Grw F w F')
theorem pflip_c {w : World} {F : Nat → Prop} {pb sb db n q : Nat} {left : Int} {S : Int → Cn} {L : List (Int × Cn)} {N : Nat} {root frm : Int} {st : Cn} (h : Pg w F pb sb db n left S L N ((q : Nat) : Int) root frm st) (hN : N < 100000) (hq : q + 1 < 4000000000) (r : Nat) (hok : rootOk n st r = true) :
    Calls Try.prog 11 #[.pointer (some ⟨pb, 0, none⟩), .int .i64 r] w fun e w' => (∃ c : Int, e = .returned (.int .i64 c) ∧ FlipC w F pb sb db n left S L N q frm st r c w') ∧ Fr (PF F pb sb) w w' := by
  refine (pflip_any h hN hq r hok).mono ?_
  rintro e w' ⟨hR, hf⟩
  rcases hR with ⟨_, rfl, h⟩ | ⟨rfl, h⟩
  · exact ⟨⟨15, rfl, .inl ⟨rfl, h⟩⟩, hf⟩
  · exact ⟨⟨0, rfl, .inr ⟨rfl, h⟩⟩, hf⟩
def Fl3 (wr w' : World) (b15 q mn : Nat) (M : PgL) : Prop :=
  ∃ A' c' w2, Below wr.heap.size wr w2 ∧ w2.ownsRow wr.heap.size TG 2 (.slice A' mn c') mn (M.flatMap pgE) ∧ w' = ((w2.setCell ⟨b15, 0, none⟩ (.int .i64 ((q : Int) + 1))).setCell ⟨b15, 1, none⟩ (.int .i64 0)).setCell ⟨b15, 2, none⟩ (.slice A' mn c')
theorem fl3_state {w wr w1 : World} {F : Nat → Prop} {pb sb b10 b15 q r db n : Nat} {An : Option Addr} {mn cn : Nat} {vp vs : Value} {M R P : PgL} {left : Int} {S : Int → Cn} {L : List (Int × Cn)} {N : Nat} {frm : Int} {st : Cn} {A0 : Option Addr} {m0 c0 q0 r0 : Nat}
    (hp : Pg wr F pb sb db n left S L N (q : Int) (r : Int) frm st) (hw : AcW w wr F pb sb b10 q r (.slice An mn cn) vp vs M R P) (h15 : Blk wr b15 TS (stE q0 r0 A0 m0 c0)) (n15 : ¬ F b15) (hne : b10 ≠ b15) (hge : w.heap.size ≤ b15) (hmn : M.length = mn) (h : Fl3 wr w1 b15 q mn M) :
    ∃ A' c', Pg w1 F pb sb db n left S L N (q : Int) (r : Int) frm st ∧ AcW w w1 F pb sb b10 q r (.slice An mn cn) vp vs M R P ∧ Blk w1 b15 TS (stE (q + 1) 0 A' mn c') ∧ NxR w w1 F (.slice An mn cn) (.slice A' mn c') M ∧ ∀ b t c, Blk wr b t c → b ≠ b15 → Blk w1 b t c := by
  obtain ⟨A', c', w2, hb, ho, rfl⟩ := h
  have h15' := h15.below hb h15.lt
  have hg := ((gby_set w2 b15 0 (.int .i64 ((q : Int) + 1))).trans (gby_set _ b15 1 (.int .i64 0))).trans (gby_set _ b15 2 (.slice A' mn c'))
  have hp2 := hp.below hb
  have hw2 := hw.later hb
  refine ⟨A', c', hp2.grown hg (fun e => Blk.ne_ h15' hp2.blk (by decide) (by injection e)) (fun e => Blk.ne_ h15' hp2.sblk (by decide) (by injection e)) (fun g e => by injection e with e; rw [← e]; exact n15), hw2.set15 h15' hg hne hge, ?_, ?_, ?_⟩
  · exact ((h15'.set_ 0 (.int .i64 ((q : Int) + 1))).set_ 1 (.int .i64 0)).set_ 2 (.slice A' mn c')
  · refine NxR.set ⟨?_, fun g e hF => ?_, fun g e e' => ?_⟩ h15' hg
    · rw [hmn]; exact own_base ho hw.below.size
    · have := (ho.lt g e).1; have := hp.sec.lt g hF; omega
    · have := own_lt hw.rn g e; have := (ho.lt g e').1; omega
  · intro b t c hbk hb15
    exact (hbk.below hb hbk.lt).grown hg (fun e => hb15 (by injection e))
section
variable {Q : Exit → Act → World → Prop} {w wr : World} {v0 v2 v3 v7 v9 v29 v30 v31 v32 v33 v34 v35 v36 v37 v38 v39 v40 v41 v42 v43 v44 v45 v46 v47 v48 v49 v50 v51 v52 v53 : Value} {A : Option Addr} {nA cA n db b10 j : Nat}
theorem pflip_c0 {w : World} {F : Nat → Prop} {pb sb db n q : Nat} {left : Int} {S : Int → Cn} {L : List (Int × Cn)} {N : Nat} {root frm : Int} {st : Cn} (h : Pg w F pb sb db n left S L N ((q : Nat) : Int) root frm st) (hN : N < 100000) (hq : q + 1 < 4000000000) :
    Calls Try.prog 11 #[.pointer (some ⟨pb, 0, none⟩), .int .i64 0] w fun e w' => (∃ c : Int, e = .returned (.int .i64 c) ∧ FlipC w F pb sb db n left S L N q frm st 0 c w') ∧ Fr (PF F pb sb) w w' := pflip_c h hN hq 0 rfl
set_option maxRecDepth 1000000 in
set_option maxHeartbeats 4000000 in
theorem arm_flip0 {pb sb b14 b15 : Nat} {F : Nat → Prop} {left : Int} {S : Int → Cn} {L : List (Int × Cn)} {N q r : Nat} {frm : Int} {st : Cn} {kind K mask : Int} {Ad An As Ap : Option Addr} {md cd cn cs cp : Nat} {data : Cn} {M R P : PgL}
    (hQ : Nx Q w v0 v2 v3 v7 v9 v29 v30 v31 v32 v33 v34 v35 v36 v37 v38 v39 v40 v41 v42 v43 v44 v45 v46 v47 v48 v49 v50 v51 v52 v53 A nA cA n db b10 j) (hp : Pg wr F pb sb db n left S L N (q : Int) (r : Int) frm st) (hi : AcI n S L q r st M R P)
    (hw : AcW w wr F pb sb b10 q r (.slice An M.length cn) (.slice Ap R.length cp) (.slice As P.length cs) M R P) (h14 : Blk wr b14 TA (acE kind K Ad md cd mask)) (h15 : Blk wr b15 TS (stE q r As P.length cs)) (n14 : ¬ F b14) (n15 : ¬ F b15)
    (hd : RB w w.heap.size Ad md data) (hmd : md ≤ 140737488351232) (hm : 0 ≤ mask ∧ mask < 18446744073709551616) (hK : -9223372036854775808 ≤ K ∧ K < 9223372036854775808) (hN : N ≤ 2 * j) (hq : q ≤ j) (hM : M.length ≤ j) (hR : R.length ≤ j) (hP : P.length ≤ j) (hj : j < 80) (e1 : (kind == 1) = false) (e2 : (kind == 2) = false) (e3 : (kind == 3) = true) (n1015 : b10 ≠ b15) (h15b : w.heap.size ≤ b15)
    (u4 u18 u19 u20 u21 u22 u23 u24 u25 u26 u27 u28 u54 u55 u56 u57 u58 u59 u60 u61 u62 u63 u64 u65 u66 u67 u68 u69 u70 u71 u72 u73 u74 u75 u76 u77 u78 u79 u80 u81 u82 u83 u84 u85 u86 u87 u88 u89 u90 u91 u92 u93 u94 u95 u96 u97 u98 u99 u100 u101 u102 u103 u104 u105 u106 u107 u108 u109 u110 u111 u112 u113 u114 u115 u116 u117 u118 u119 u120 u121 u122 u123 u124 u125 u126 u127 u128 u129 u130 u131 u132 u133 u134 u135 u136 u137 u138 u139 u140 u141 u142 u143 u144 u145 u146 u147 u148 u149 u150 u151 u152 u153 u154 u155 u156 u157 u158 u159 u160 u161 u162 u163 u164 u165 u166 u167 u168 u169 u170 u171 u172 u173 u174 u175 u176 u177 u178 u179 u180 u181 u182 u183 u184 u185 u186 u187 u188 u189 u190 u191 u192 u193 u194 u195 u196 u197 u198 u199 u200 u201 u202 u203 u204 u205 u206 u207 u208 u209 u210 u211 u212 u213 u214 u215 u216 u217 u218 u219 u220 u221 u222 u223 u224 u225 u226 u227 u228 u229 u230 u231 u232 u233 u234 u235 u236 u237 u238 u239 u240 u241 u242 u243 u244 u245 u246 u247 u248 u249 u250 u251 u252 u253 u254 u255 u256 u257 u258 u259 u260 u261 u262 u263 u264 u265 u266 u267 u268 u269 u270 u271 u272 u273 u274 u275 u276 u277 u278 u279 u280 u281 u282 u283 u284 u285 u286 u287 u288 u289 u290 u291 u292 u293 u294 u295 u296 u297 u298 u299 u300 u301 u302 u303 u304 u305 u306 u307 u308 u309 u310 : Value) :
    Code.wp Try.prog (Bd 5) Q { tmps := #[v0, .slice A nA cA, v2, v3, u4, .int .i64 (n : Int), .pointer (some ⟨db, 0, none⟩), v7, .pointer (some ⟨pb, 0, none⟩), v9, .pointer (some ⟨b10, 0, none⟩), .slice An M.length cn, .slice Ap R.length cp, .int .i64 (j : Int), .pointer (some ⟨b14, 0, none⟩), .pointer (some ⟨b15, 0, none⟩), .bool false, .int .i64 (-1), u18, u19, u20, u21, u22, u23, u24, u25, u26, u27, u28, v29, v30, v31, v32, v33, v34, v35, v36, v37, v38, v39, v40, v41, v42, v43, v44, v45, v46, v47, v48, v49, v50, v51, v52, v53, u54, u55, u56, u57, u58, u59, u60, u61, u62, u63, u64, u65, u66, u67, u68, u69, u70, u71, u72, u73, u74, u75, u76, u77, u78, u79, u80, u81, u82, u83, u84, u85, u86, u87, u88, u89, u90, u91, u92, u93, u94, u95, u96, u97, u98, u99, u100, u101, u102, u103, u104, u105, u106, u107, u108, u109, u110, u111, u112, u113, u114, u115, u116, u117, u118, u119, u120, u121, u122, u123, u124, u125, u126, u127, u128, u129, u130, u131, u132, u133, u134, u135, u136, u137, u138, u139, u140, u141, u142, u143, u144, u145, u146, u147, u148, u149, u150, u151, u152, u153, u154, u155, u156, u157, u158, u159, u160, u161, u162, u163, u164, u165, u166, u167, u168, u169, u170, u171, u172, u173, u174, u175, u176, u177, u178, u179, u180, u181, u182, u183, u184, u185, u186, u187, u188, u189, u190, u191, u192, u193, u194, u195, u196, u197, u198, u199, u200, u201, u202, u203, u204, u205, u206, u207, u208, u209, u210, u211, u212, u213, u214, u215, u216, u217, u218, u219, u220, u221, u222, u223, u224, u225, u226, u227, u228, u229, u230, u231, u232, u233, u234, u235, u236, u237, u238, u239, u240, u241, u242, u243, u244, u245, u246, u247, u248, u249, u250, u251, u252, u253, u254, u255, u256, u257, u258, u259, u260, u261, u262, u263, u264, u265, u266, u267, u268, u269, u270, u271, u272, u273, u274, u275, u276, u277, u278, u279, u280, u281, u282, u283, u284, u285, u286, u287, u288, u289, u290, u291, u292, u293, u294, u295, u296, u297, u298, u299, u300, u301, u302, u303, u304, u305, u306, u307, u308, u309, u310], defers := [] } wr := by
  have HX := hide hQ
  have HP := hide hp
  have HI := hide hi
  have HW := hide hw
  have H14 := hide h14
  have H15 := hide h15
  have N14 := hide n14
  have N15 := hide n15
  have HD := hide hd
  have HM := hide hm
  have HN := hide hN
  have HNP := hide (And.intro hR hP)
  have k14 := h14.cell; have f14 := h14.frozen; have z14 := h14.lt
  unfold acE at k14
  clear hQ hp hi hw h14 h15 n14 n15 hd hm hN hR hP
  obtain ⟨p0, hp0, yz0, yz1, yz2⟩ := info_parts page_info
  obtain ⟨mn, hmn⟩ : ∃ m, M.length = m := ⟨_, rfl⟩
  have HMN := hide hmn
  have hr1 : mn ≤ 80 := by omega
  have hml := hM
  rw [hmn] at hml
  rw [hmn] at HW ⊢
  have H15F := hide (HP.out.sec.lt)
  clear hM hmn
  rw [show Bd 5 = Code.seq (Bc 5) (Bd 6) from rfl]
  conv => arg 2; arg 1; whnf
  go_upto_region 42 with fail
  refine wp_region_stageW (by kernel_rfl) (by kernel_rfl) 311 3
    [⟨some 195, false, 0, 3, fun _ v _ => v = .pointer (some ⟨b10, 0, none⟩)⟩,
     ⟨some 196, false, 0, 2, fun _ v _ => v = .int .i64 (q : Int)⟩,
     ⟨some 197, false, 0, 3, fun _ v _ => v = .int .i64 ((q : Int) + 1)⟩,
     ⟨some 198, true, 0, 0, fun st v w' => st = 1 → ∃ g, v = .slice (some ⟨g, 0, none⟩) 0 0 ∧ w'.ownsRow wr.heap.size TG 2 v 0 [] ∧ wr.heap.size ≤ g⟩,
     ⟨some 199, false, 0, 1, fun _ v _ => v = .slice An mn cn⟩,
     ⟨some 200, true, 1, 1, fun st v w' => st = 2 → w'.ownsRow wr.heap.size TG 2 v mn (M.flatMap pgE)⟩,
     ⟨some 201, false, 2, 2, fun st v w' => st = 2 → ∃ A' c', v = .agg #[.int .i64 ((q : Int) + 1), .int .i64 0, .slice A' mn c'] ∧ w'.ownsRow wr.heap.size TG 2 (.slice A' mn c') mn (M.flatMap pgE)⟩,
     ⟨none, true, 2, 2, fun _ _ _ => True⟩] (fun st w' => (st ≤ 2 → Below wr.heap.size wr w') ∧ (st = 3 → Fl3 wr w' b15 q mn M)) (fun _ _ _ => True) [195, 196, 197, 198, 199, 200, 201] rfl (by kernel_rfl) rfl ?g0 ?keep ?steps ?fin
  case keep =>
    intro e he s v w w' hm hlo hsM ht hv
    simp only [List.mem_cons, List.not_mem_nil, or_false] at he
    rcases he with rfl | rfl | rfl | rfl | rfl | rfl | rfl | rfl
    all_goals first | exact hv | (intro h3; have := hm rfl; simp only [] at this; omega) | (intro h3; simp only [] at hlo; omega) | (exfalso; dsimp only at hlo; omega) | (intro h3; exfalso; have := hm rfl; dsimp only at this; omega)
  case steps =>
    refine ⟨?_, ?_, ?_, ?_, ?_, ?_, ?_, ?_, trivial⟩
    · intro st hlo hhi ac w3 hg hG hd ho K hK
      dsimp only at hlo hhi hG hK
      rw [if_pos (by rfl)]
      have k10 := hg.kp 10 (by simp)
      (try simp [Act.eval] at k10)
      go_simp
      exact hK _ rfl
    · intro st hlo hhi ac w3 hg hG hd ho K hK
      dsimp only at hlo hhi hG hK
      rw [if_pos (by rfl)]
      have kk := (HW.out.box.below (hG.1 hhi) HW.out.box.lt)
      have k0 := kk.cell 0
      have zz := kk.lt
      simp at k0
      clear kk
      have f0 := hd ⟨0, .data⟩ (by simp) rfl _ rfl _ rfl
      (try simp [Act.eval] at f0)
      go_simp
      exact hK _ rfl
    · intro st hlo hhi ac w3 hg hG hd ho K hK
      dsimp only at hlo hhi hG hK
      rw [if_pos (by rfl)]
      have f1 := hd ⟨1, .data⟩ (by simp) rfl _ rfl _ rfl
      simp [Act.eval] at f1
      go_simp
      exact hK _ (by rw [wrap_small (by omega) (by omega)])
    · intro ac w3 hg hG hd ho K hK
      dsimp only [Nat.zero_add, Nat.reduceAdd] at hG hK
      rw [if_pos (by rfl)]
      have hb3 := hG.1 (by decide)
      go_simp
      exact hK (.slice (some ⟨w3.heap.size, 0, none⟩) 0 0) _ trivial (And.intro (fun _ => bal hb3 _) (fun h => absurd h (by decide))) (fun _ => ⟨_, rfl, own_base (World.ownsRow_lit w3 #[] 0 (Nat.le_refl _) (by unfold maxLen; omega) rfl) hb3.size, hb3.size⟩)
    · intro st hlo hhi ac w3 hg hG hd ho K hK
      dsimp only at hlo hhi hG hK
      rw [if_pos (by rfl)]
      exact op_move _ rfl (hK _ (hg.kp 11 (by simp)))
    · intro ac w3 hg hG hd ho K hK
      dsimp only [Nat.zero_add, Nat.reduceAdd] at hG hK
      rw [if_pos (by rfl)]
      have f4 := hd ⟨4, .data⟩ (by simp) rfl _ rfl _ rfl
      obtain ⟨g, f3, ho3, hg3⟩ := hd ⟨3, .data⟩ (by simp) rfl _ rfl _ rfl rfl
      have hb3 := hG.1 (by decide)
      have HW3 := hide (HW.out.later hb3)
      (refine wp_append_any _ (.tmp 198) (.tmp 199) _ rfl wr.heap.size TG p0 _ 2 24 Try.underlying47 hp0 yz0 yz1 yz2 rfl (by omega) _ 0 [] rfl ho3 w3.heap.size An mn cn (M.flatMap pgE) f4 ((Sl.own HMN.out HMN.out rfl (by have := HW3.out.rn; exact this)).2) (pgE_one _) (by unfold maxLen; omega) (by omega) hb3.size ?_)
      intro v4 w4 ho4 hg4 _
      rw [List.nil_append, Nat.zero_add] at ho4
      refine hK v4 w4 trivial (And.intro (fun _ => hb3.grown hg4 hb3.size (fun k e => by rw [f3] at e; simp [Value.ownBlock] at e; omega)) (fun h => absurd h (by decide))) (fun _ => ho4)
    · intro st hlo hhi ac w3 hg hG hd ho K hK
      dsimp only at hlo hhi hG hK
      rw [if_pos (by rfl)]
      have hst : st = 2 := by omega
      subst hst
      have f2 := hd ⟨2, .data⟩ (by simp) rfl _ rfl _ rfl
      have f5 := hd ⟨5, .data⟩ (by simp) rfl _ rfl _ rfl rfl
      obtain ⟨A5, c5, e5, -⟩ := own_slice f5
      rw [e5] at f5
      have HF5 := hide f5
      clear f5
      simp [Act.eval] at f2 e5
      go_simp
      exact hK _ (fun _ => ⟨A5, c5, rfl, HF5.out⟩)
    · intro ac w3 hg hG hd ho K hK
      dsimp only [Nat.zero_add, Nat.reduceAdd] at hG hK
      rw [if_pos (by rfl)]
      obtain ⟨A6, c6, f6, ho6⟩ := hd ⟨6, .data⟩ (by simp) rfl _ rfl _ rfl rfl
      have hb3 := hG.1 (by decide)
      have k15 := hg.kp 15 (by simp)
      have kk := H15.out.below hb3 H15.out.lt
      unfold stE at kk
      have kc := kk.cell
      have kf := kk.frozen
      have kz := kk.lt
      have HO6 := hide ho6
      have HB3 := hide hb3
      clear ho6 hb3 kk hG
      simp [Act.eval] at f6 k15
      go_simp
      exact hK undef _ trivial (And.intro (fun h => absurd h (by decide)) (fun _ => ⟨A6, c6, w3, HB3.out, HO6.out, rfl⟩)) trivial
  case g0 => exact And.intro (fun _ => (Below.refl _ _).drew) (fun h => absurd h (by decide))
  case fin =>
    intro f w1 hG hall
    obtain ⟨A', c', hp1, hw1, hb1, hx1, hk1⟩ := fl3_state HP.out HW.out H15.out N15.out n1015 h15b HMN.out (hG.2 rfl)
    have H1P := hide hp1
    have H1W := hide hw1
    have H1B := hide hb1
    have H1X := hide hx1
    have H114 := hide (hk1 b14 TA _ H14.out (Blk.ne_ H14.out H15.out (by decide)))
    clear hG hall hp1 hw1 hb1 hx1 hk1
    simp only [fillF, List.map_cons, List.map_nil, List.foldl_cons, List.foldl_nil, Act.put, List.setIfInBounds_toArray, List.set_cons_zero, List.set_cons_succ]
    have k1 := H1B.out.cell; have f1 := H1B.out.frozen; have z1 := H1B.out.lt
    unfold stE at k1
    go_upto_region 46 with (go_at_call 11; (refine (pflip_c0 H1P.out (by have := HN.out; omega) (by omega)).mono ?_); rintro e w3 ⟨⟨c, rfl, hc⟩, hf⟩; have HF3 := hide hf; clear hf)
    clear k1 f1 z1
    have hml2 := HMN.out
    subst hml2
    rcases hc with ⟨rfl, F', left', S', L', hs, hg, hcs⟩ | ⟨rfl, F', hp, hg⟩
    · have HS3 := hide hs
      have HW3 := hide (H1W.out.fr H1P.out HF3.out hg H1W.out.hp H1W.out.hs)
      have HX3 := hide (H1X.out.fr H1P.out HF3.out hg)
      have HB3 := hide (H1P.out.keep HF3.out H1B.out (by decide) (by decide) N15.out)
      have H143 := hide (H1P.out.keep HF3.out H114.out (by decide) (by decide) N14.out)
      have hcut := HI.out.cut HP.out.len (by omega) (by omega) (.inl rfl) (maskT mask) hcs
      clear hs hg hcs HF3
      go_wp2_with fail
      rcases hcut with hc | hc
      · exact tail_sure _ _ _ HX.out HS3.out (by have := HN.out; omega) HP.out.h4 HM.out H143.out HB3.out HW3.out.box (by omega) hc.1 (by omega) hc.2 HI.out.np (by have := HNP.out; omega) HW3.out.dn hj _ _ _ _ _ _ _ _ _ _ _ _ _ _ _ _ _ _ _ _ _ _ _ _ _ _ _ _ _ _ _ _ _ _ _ _ _ _ _ _ _ _ _ _ _ _ _ _ _ _ _ _ _ _ _ _ _ _ _ _ _ _ _ _ _ _ _ _ _ _ _ _ _ _ _ _ _ _ _ _ _ _ _ _ _ _ _ _ _ _ _ _ _ _ _ _ _ _ _ _ _ _ _ _ _ _ _ _ _ _ _ _ _ _ _ _ _ _ _ _ _ _ _ _ _ _ _ _ _ _ _ _ _ _ _ _ _ _ _ _ _ _ _ _ _ _ _ _ _ _ _ _ _ _ _ _ _ _ _ _ _ _ _ _ _ _ _ _ _ _ _ _ _ _ _ _ _ _ _ _ _ _ _ _ _ _ _ _ _ _ _ _ _ _ _ _ _ _ _ _ _ _ _ _ _ _ _ _ _ _ _ _ _ _ _ _ _ _ _ _ _ _ _ _ _ _ _ _ _ _ _ _ _ _ _ _ _ _ _ _ _ _ _ _ _ _ _ _ _ _ _ _ _ _ _ _ _ _ _ _ _ _ _ _ _ _ _ _ _ _
      · exact tail_next _ _ _ HX.out HS3.out (by have := HN.out; omega) HP.out.h4 HM.out H143.out HB3.out HW3.out.box hc.1 (by omega) hc.2 HI.out.nm (by omega) (HX3.out.dn HW3.out) hj _ _ _ _ _ _ _ _ _ _ _ _ _ _ _ _ _ _ _ _ _ _ _ _ _ _ _ _ _ _ _ _ _ _ _ _ _ _ _ _ _ _ _ _ _ _ _ _ _ _ _ _ _ _ _ _ _ _ _ _ _ _ _ _ _ _ _ _ _ _ _ _ _ _ _ _ _ _ _ _ _ _ _ _ _ _ _ _ _ _ _ _ _ _ _ _ _ _ _ _ _ _ _ _ _ _ _ _ _ _ _ _ _ _ _ _ _ _ _ _ _ _ _ _ _ _ _ _ _ _ _ _ _ _ _ _ _ _ _ _ _ _ _ _ _ _ _ _ _ _ _ _ _ _ _ _ _ _ _ _ _ _ _ _ _ _ _ _ _ _ _ _ _ _ _ _ _ _ _ _ _ _ _ _ _ _ _ _ _ _ _ _ _ _ _ _ _ _ _ _ _ _ _ _ _ _ _ _ _ _ _ _ _ _ _ _ _ _ _ _ _ _ _ _ _ _ _ _ _ _ _ _ _ _ _ _ _ _ _ _ _ _ _ _ _ _ _ _ _ _ _ _ _ _ _ _ _ _ _ _ _ _ _ _ _ _ _ _ _ _
    · have HP3 := hide hp
      have HW3 := hide (H1W.out.fr H1P.out HF3.out hg H1W.out.hp H1W.out.hs)
      have HX3 := hide (H1X.out.fr H1P.out HF3.out hg)
      have HB3 := hide (H1P.out.keep HF3.out H1B.out (by decide) (by decide) N15.out)
      have HI3 := hide (HI.out.flip HP.out.len (by omega) (by omega) (.inl rfl))
      clear hp hg HF3
      have k3 := HB3.out.cell; have f3 := HB3.out.frozen; have z3 := HB3.out.lt
      unfold stE at k3
      have k10 := HW3.out.box.cell; have f10 := HW3.out.box.frozen; have z10 := HW3.out.box.lt
      go_upto_region 51 with fail
      have hg4 := ((gby_set w3 b10 0 (.int .i64 ((q : Int) + 1))).trans (gby_set _ b10 1 (.int .i64 0))).trans (gby_set _ b10 2 (.slice A' M.length c'))
      have HB4 := hide (((HW3.out.box.set_ 0 (.int .i64 ((q : Int) + 1))).set_ 1 (.int .i64 0)).set_ 2 (.slice A' M.length c'))
      have HP4 := hide (HP3.out.grown hg4 (fun e => Blk.ne_ HW3.out.box HP3.out.blk (by decide) (by injection e)) (fun e => Blk.ne_ HW3.out.box HP3.out.sblk (by decide) (by injection e)) (fun g e => by injection e with e; rw [← e]; exact HW3.out.nb))
      have HW4 := hide (AcW.flipped (q' := q + 1) (r' := 0) HW3.out HX3.out hg4 HB4.out)
      clear hg4 k3 f3 z3 k10 f10 z10
      go_wp2_with fail
      exact tail_up HX.out ⟨F', sb, _, _, _, _, q + 1, 0, frm, _, _, M, [], M, HP4.out, HI3.out, HW4.out, by have := HN.out; omega, by omega, by omega, Nat.zero_le _, by omega⟩ hj _ _ _ _ _ _ _ _ _ _ _ _ _ _ _ _ _ _ _ _ _ _ _ _ _ _ _ _ _ _ _ _ _ _ _ _ _ _ _ _ _ _ _ _ _ _ _ _ _ _ _ _ _ _ _ _ _ _ _ _ _ _ _ _ _ _ _ _ _ _ _ _ _ _ _ _ _ _ _ _ _ _ _ _ _ _ _ _ _ _ _ _ _ _ _ _ _ _ _ _ _ _ _ _ _ _ _ _ _ _ _ _ _ _ _ _ _ _ _ _ _ _ _ _ _ _ _ _ _ _ _ _ _ _ _ _ _ _ _ _ _ _ _ _ _ _ _ _ _ _ _ _ _ _ _ _ _ _ _ _ _ _ _ _ _ _ _ _ _ _ _ _ _ _ _ _ _ _ _ _ _ _ _ _ _ _ _ _ _ _ _ _ _ _ _ _ _ _ _ _ _ _ _ _ _ _ _ _ _ _ _ _ _ _ _ _ _ _ _ _ _ _ _ _ _ _ _ _ _ _ _ _ _ _ _ _ _ _ _ _ _ _ _ _ _ _ _ _ _ _ _ _ _ _ _ _ _ _ _ _ _ _ _ _ _ _ _ _ _ _ _ _
set_option maxRecDepth 1000000 in
set_option maxHeartbeats 4000000 in
theorem arm_flipk {pb sb b14 b15 : Nat} {F : Nat → Prop} {left : Int} {S : Int → Cn} {L : List (Int × Cn)} {N q r : Nat} {frm : Int} {st : Cn} {kind K mask : Int} {Ad An As Ap : Option Addr} {md cd cn cs cp : Nat} {data : Cn} {M R P : PgL}
    (hQ : Nx Q w v0 v2 v3 v7 v9 v29 v30 v31 v32 v33 v34 v35 v36 v37 v38 v39 v40 v41 v42 v43 v44 v45 v46 v47 v48 v49 v50 v51 v52 v53 A nA cA n db b10 j) (hp : Pg wr F pb sb db n left S L N (q : Int) (r : Int) frm st) (hi : AcI n S L q r st M R P)
    (hw : AcW w wr F pb sb b10 q r (.slice An M.length cn) (.slice Ap R.length cp) (.slice As P.length cs) M R P) (h14 : Blk wr b14 TA (acE kind K Ad md cd mask)) (h15 : Blk wr b15 TS (stE q r As P.length cs)) (n14 : ¬ F b14) (n15 : ¬ F b15)
    (hd : RB w w.heap.size Ad md data) (hmd : md ≤ 140737488351232) (hm : 0 ≤ mask ∧ mask < 18446744073709551616) (hK : -9223372036854775808 ≤ K ∧ K < 9223372036854775808) (hN : N ≤ 2 * j) (hq : q ≤ j) (hM : M.length ≤ j) (hR : R.length ≤ j) (hP : P.length ≤ j) (hj : j < 80) {k : Nat} (hk : k < M.length) (e1 : (kind == 1) = false) (e2 : (kind == 2) = false) (e3 : (kind == 3) = true) (n1015 : b10 ≠ b15) (h15b : w.heap.size ≤ b15)
    (u4 u18 u19 u20 u21 u22 u23 u24 u25 u26 u27 u28 u54 u55 u56 u57 u58 u59 u60 u61 u62 u63 u64 u65 u66 u67 u68 u69 u70 u71 u72 u73 u74 u75 u76 u77 u78 u79 u80 u81 u82 u83 u84 u85 u86 u87 u88 u89 u90 u91 u92 u93 u94 u95 u96 u97 u98 u99 u100 u101 u102 u103 u104 u105 u106 u107 u108 u109 u110 u111 u112 u113 u114 u115 u116 u117 u118 u119 u120 u121 u122 u123 u124 u125 u126 u127 u128 u129 u130 u131 u132 u133 u134 u135 u136 u137 u138 u139 u140 u141 u142 u143 u144 u145 u146 u147 u148 u149 u150 u151 u152 u153 u154 u155 u156 u157 u158 u159 u160 u161 u162 u163 u164 u165 u166 u167 u168 u169 u170 u171 u172 u173 u174 u175 u176 u177 u178 u179 u180 u181 u182 u183 u184 u185 u186 u187 u188 u189 u190 u191 u192 u193 u194 u195 u196 u197 u198 u199 u200 u201 u202 u203 u204 u205 u206 u207 u208 u209 u210 u211 u212 u213 u214 u215 u216 u217 u218 u219 u220 u221 u222 u223 u224 u225 u226 u227 u228 u229 u230 u231 u232 u233 u234 u235 u236 u237 u238 u239 u240 u241 u242 u243 u244 u245 u246 u247 u248 u249 u250 u251 u252 u253 u254 u255 u256 u257 u258 u259 u260 u261 u262 u263 u264 u265 u266 u267 u268 u269 u270 u271 u272 u273 u274 u275 u276 u277 u278 u279 u280 u281 u282 u283 u284 u285 u286 u287 u288 u289 u290 u291 u292 u293 u294 u295 u296 u297 u298 u299 u300 u301 u302 u303 u304 u305 u306 u307 u308 u309 u310 : Value) :
    Code.wp Try.prog (Bd 5) Q { tmps := #[v0, .slice A nA cA, v2, v3, u4, .int .i64 (n : Int), .pointer (some ⟨db, 0, none⟩), v7, .pointer (some ⟨pb, 0, none⟩), v9, .pointer (some ⟨b10, 0, none⟩), .slice An M.length cn, .slice Ap R.length cp, .int .i64 (j : Int), .pointer (some ⟨b14, 0, none⟩), .pointer (some ⟨b15, 0, none⟩), .bool false, .int .i64 (k : Int), u18, u19, u20, u21, u22, u23, u24, u25, u26, u27, u28, v29, v30, v31, v32, v33, v34, v35, v36, v37, v38, v39, v40, v41, v42, v43, v44, v45, v46, v47, v48, v49, v50, v51, v52, v53, u54, u55, u56, u57, u58, u59, u60, u61, u62, u63, u64, u65, u66, u67, u68, u69, u70, u71, u72, u73, u74, u75, u76, u77, u78, u79, u80, u81, u82, u83, u84, u85, u86, u87, u88, u89, u90, u91, u92, u93, u94, u95, u96, u97, u98, u99, u100, u101, u102, u103, u104, u105, u106, u107, u108, u109, u110, u111, u112, u113, u114, u115, u116, u117, u118, u119, u120, u121, u122, u123, u124, u125, u126, u127, u128, u129, u130, u131, u132, u133, u134, u135, u136, u137, u138, u139, u140, u141, u142, u143, u144, u145, u146, u147, u148, u149, u150, u151, u152, u153, u154, u155, u156, u157, u158, u159, u160, u161, u162, u163, u164, u165, u166, u167, u168, u169, u170, u171, u172, u173, u174, u175, u176, u177, u178, u179, u180, u181, u182, u183, u184, u185, u186, u187, u188, u189, u190, u191, u192, u193, u194, u195, u196, u197, u198, u199, u200, u201, u202, u203, u204, u205, u206, u207, u208, u209, u210, u211, u212, u213, u214, u215, u216, u217, u218, u219, u220, u221, u222, u223, u224, u225, u226, u227, u228, u229, u230, u231, u232, u233, u234, u235, u236, u237, u238, u239, u240, u241, u242, u243, u244, u245, u246, u247, u248, u249, u250, u251, u252, u253, u254, u255, u256, u257, u258, u259, u260, u261, u262, u263, u264, u265, u266, u267, u268, u269, u270, u271, u272, u273, u274, u275, u276, u277, u278, u279, u280, u281, u282, u283, u284, u285, u286, u287, u288, u289, u290, u291, u292, u293, u294, u295, u296, u297, u298, u299, u300, u301, u302, u303, u304, u305, u306, u307, u308, u309, u310], defers := [] } wr := by
  have HX := hide hQ
  have HP := hide hp
  have HI := hide hi
  have HW := hide hw
  have H14 := hide h14
  have H15 := hide h15
  have N14 := hide n14
  have N15 := hide n15
  have HD := hide hd
  have HM := hide hm
  have HN := hide hN
  have HNP := hide (And.intro hR hP)
  have k14 := h14.cell; have f14 := h14.frozen; have z14 := h14.lt
  unfold acE at k14
  clear hQ hp hi hw h14 h15 n14 n15 hd hm hN hR hP
  have HPX := hide (HI.out.m _ (List.getElem_mem hk)).1
  have HRO := hide (HI.out.rootOk hk)
  obtain ⟨x, hx⟩ : ∃ x, (M[k]).1 = x := ⟨_, rfl⟩
  have HXX := hide (show ∀ hh : k < M.length, (M[k]).1 = x from fun _ => hx)
  rw [hx] at HPX HRO
  have hxn : x < 65536 := by have := (pg_iff.1 HPX.out).2; have := HP.out.hn; omega
  have HKM := hide hk
  clear hx hk
  obtain ⟨p0, hp0, yz0, yz1, yz2⟩ := info_parts page_info
  obtain ⟨mn, hmn⟩ : ∃ m, M.length = m := ⟨_, rfl⟩
  have HMN := hide hmn
  have hr1 : mn ≤ 80 := by omega
  have hml := hM
  rw [hmn] at hml
  rw [hmn] at HW ⊢
  have H15F := hide (HP.out.sec.lt)
  clear hM hmn
  rw [show Bd 5 = Code.seq (Bc 5) (Bd 6) from rfl]
  conv => arg 2; arg 1; whnf
  go_upto_region 42 with fail
  refine wp_region_stageW (by kernel_rfl) (by kernel_rfl) 311 3
    [⟨some 195, false, 0, 3, fun _ v _ => v = .pointer (some ⟨b10, 0, none⟩)⟩,
     ⟨some 196, false, 0, 2, fun _ v _ => v = .int .i64 (q : Int)⟩,
     ⟨some 197, false, 0, 3, fun _ v _ => v = .int .i64 ((q : Int) + 1)⟩,
     ⟨some 198, true, 0, 0, fun st v w' => st = 1 → ∃ g, v = .slice (some ⟨g, 0, none⟩) 0 0 ∧ w'.ownsRow wr.heap.size TG 2 v 0 [] ∧ wr.heap.size ≤ g⟩,
     ⟨some 199, false, 0, 1, fun _ v _ => v = .slice An mn cn⟩,
     ⟨some 200, true, 1, 1, fun st v w' => st = 2 → w'.ownsRow wr.heap.size TG 2 v mn (M.flatMap pgE)⟩,
     ⟨some 201, false, 2, 2, fun st v w' => st = 2 → ∃ A' c', v = .agg #[.int .i64 ((q : Int) + 1), .int .i64 0, .slice A' mn c'] ∧ w'.ownsRow wr.heap.size TG 2 (.slice A' mn c') mn (M.flatMap pgE)⟩,
     ⟨none, true, 2, 2, fun _ _ _ => True⟩] (fun st w' => (st ≤ 2 → Below wr.heap.size wr w') ∧ (st = 3 → Fl3 wr w' b15 q mn M)) (fun _ _ _ => True) [195, 196, 197, 198, 199, 200, 201] rfl (by kernel_rfl) rfl ?g0 ?keep ?steps ?fin
  case keep =>
    intro e he s v w w' hm hlo hsM ht hv
    simp only [List.mem_cons, List.not_mem_nil, or_false] at he
    rcases he with rfl | rfl | rfl | rfl | rfl | rfl | rfl | rfl
    all_goals first | exact hv | (intro h3; have := hm rfl; simp only [] at this; omega) | (intro h3; simp only [] at hlo; omega) | (exfalso; dsimp only at hlo; omega) | (intro h3; exfalso; have := hm rfl; dsimp only at this; omega)
  case steps =>
    refine ⟨?_, ?_, ?_, ?_, ?_, ?_, ?_, ?_, trivial⟩
    · intro st hlo hhi ac w3 hg hG hd ho K hK
      dsimp only at hlo hhi hG hK
      rw [if_pos (by rfl)]
      have k10 := hg.kp 10 (by simp)
      (try simp [Act.eval] at k10)
      go_simp
      exact hK _ rfl
    · intro st hlo hhi ac w3 hg hG hd ho K hK
      dsimp only at hlo hhi hG hK
      rw [if_pos (by rfl)]
      have kk := (HW.out.box.below (hG.1 hhi) HW.out.box.lt)
      have k0 := kk.cell 0
      have zz := kk.lt
      simp at k0
      clear kk
      have f0 := hd ⟨0, .data⟩ (by simp) rfl _ rfl _ rfl
      (try simp [Act.eval] at f0)
      go_simp
      exact hK _ rfl
    · intro st hlo hhi ac w3 hg hG hd ho K hK
      dsimp only at hlo hhi hG hK
      rw [if_pos (by rfl)]
      have f1 := hd ⟨1, .data⟩ (by simp) rfl _ rfl _ rfl
      simp [Act.eval] at f1
      go_simp
      exact hK _ (by rw [wrap_small (by omega) (by omega)])
    · intro ac w3 hg hG hd ho K hK
      dsimp only [Nat.zero_add, Nat.reduceAdd] at hG hK
      rw [if_pos (by rfl)]
      have hb3 := hG.1 (by decide)
      go_simp
      exact hK (.slice (some ⟨w3.heap.size, 0, none⟩) 0 0) _ trivial (And.intro (fun _ => bal hb3 _) (fun h => absurd h (by decide))) (fun _ => ⟨_, rfl, own_base (World.ownsRow_lit w3 #[] 0 (Nat.le_refl _) (by unfold maxLen; omega) rfl) hb3.size, hb3.size⟩)
    · intro st hlo hhi ac w3 hg hG hd ho K hK
      dsimp only at hlo hhi hG hK
      rw [if_pos (by rfl)]
      exact op_move _ rfl (hK _ (hg.kp 11 (by simp)))
    · intro ac w3 hg hG hd ho K hK
      dsimp only [Nat.zero_add, Nat.reduceAdd] at hG hK
      rw [if_pos (by rfl)]
      have f4 := hd ⟨4, .data⟩ (by simp) rfl _ rfl _ rfl
      obtain ⟨g, f3, ho3, hg3⟩ := hd ⟨3, .data⟩ (by simp) rfl _ rfl _ rfl rfl
      have hb3 := hG.1 (by decide)
      have HW3 := hide (HW.out.later hb3)
      (refine wp_append_any _ (.tmp 198) (.tmp 199) _ rfl wr.heap.size TG p0 _ 2 24 Try.underlying47 hp0 yz0 yz1 yz2 rfl (by omega) _ 0 [] rfl ho3 w3.heap.size An mn cn (M.flatMap pgE) f4 ((Sl.own HMN.out HMN.out rfl (by have := HW3.out.rn; exact this)).2) (pgE_one _) (by unfold maxLen; omega) (by omega) hb3.size ?_)
      intro v4 w4 ho4 hg4 _
      rw [List.nil_append, Nat.zero_add] at ho4
      refine hK v4 w4 trivial (And.intro (fun _ => hb3.grown hg4 hb3.size (fun k e => by rw [f3] at e; simp [Value.ownBlock] at e; omega)) (fun h => absurd h (by decide))) (fun _ => ho4)
    · intro st hlo hhi ac w3 hg hG hd ho K hK
      dsimp only at hlo hhi hG hK
      rw [if_pos (by rfl)]
      have hst : st = 2 := by omega
      subst hst
      have f2 := hd ⟨2, .data⟩ (by simp) rfl _ rfl _ rfl
      have f5 := hd ⟨5, .data⟩ (by simp) rfl _ rfl _ rfl rfl
      obtain ⟨A5, c5, e5, -⟩ := own_slice f5
      rw [e5] at f5
      have HF5 := hide f5
      clear f5
      simp [Act.eval] at f2 e5
      go_simp
      exact hK _ (fun _ => ⟨A5, c5, rfl, HF5.out⟩)
    · intro ac w3 hg hG hd ho K hK
      dsimp only [Nat.zero_add, Nat.reduceAdd] at hG hK
      rw [if_pos (by rfl)]
      obtain ⟨A6, c6, f6, ho6⟩ := hd ⟨6, .data⟩ (by simp) rfl _ rfl _ rfl rfl
      have hb3 := hG.1 (by decide)
      have k15 := hg.kp 15 (by simp)
      have kk := H15.out.below hb3 H15.out.lt
      unfold stE at kk
      have kc := kk.cell
      have kf := kk.frozen
      have kz := kk.lt
      have HO6 := hide ho6
      have HB3 := hide hb3
      clear ho6 hb3 kk hG
      simp [Act.eval] at f6 k15
      go_simp
      exact hK undef _ trivial (And.intro (fun h => absurd h (by decide)) (fun _ => ⟨A6, c6, w3, HB3.out, HO6.out, rfl⟩)) trivial
  case g0 => exact And.intro (fun _ => (Below.refl _ _).drew) (fun h => absurd h (by decide))
  case fin =>
    intro f w1 hG hall
    obtain ⟨A', c', hp1, hw1, hb1, hx1, hk1⟩ := fl3_state HP.out HW.out H15.out N15.out n1015 h15b HMN.out (hG.2 rfl)
    have H1P := hide hp1
    have H1W := hide hw1
    have H1B := hide hb1
    have H1X := hide hx1
    have H114 := hide (hk1 b14 TA _ H14.out (Blk.ne_ H14.out H15.out (by decide)))
    clear hG hall hp1 hw1 hb1 hx1 hk1
    simp only [fillF, List.map_cons, List.map_nil, List.foldl_cons, List.foldl_nil, Act.put, List.setIfInBounds_toArray, List.set_cons_zero, List.set_cons_succ]
    have k1 := H1B.out.cell; have f1 := H1B.out.frozen; have z1 := H1B.out.lt
    unfold stE at k1
    obtain ⟨b, o, rfl, zb, hjl, c0, -⟩ := PL.at_ (Sl.own (n := mn) HMN.out HMN.out rfl (by have := H1W.out.rn; exact this)) (j := k) (by rw [← HMN.out]; exact HKM.out)
    rw [HXX.out hjl] at c0
    have hkn : k < mn := by rw [← HMN.out]; exact hjl
    clear hjl
    go_upto_region 45 with fail
    have hg2 := gby_set w1 b15 1 (.int .i64 (x : Int))
    have H2P := hide (H1P.out.grown hg2 (fun e => Blk.ne_ H1B.out H1P.out.blk (by decide) (by injection e)) (fun e => Blk.ne_ H1B.out H1P.out.sblk (by decide) (by injection e)) (fun g e => by injection e with e; rw [← e]; exact N15.out))
    have H2W := hide (H1W.out.set15 H1B.out hg2 n1015 h15b)
    have H2X := hide (H1X.out.set H1B.out hg2)
    have H214 := hide (H114.out.grown hg2 (fun e => Blk.ne_ H114.out H1B.out (by decide) (by injection e)))
    have H2B := hide (show Blk (w1.setCell ⟨b15, 1, none⟩ (.int .i64 (x : Int))) b15 TS (stE (q + 1) x A' mn c') from H1B.out.set_ 1 (.int .i64 (x : Int)))
    obtain ⟨w2, hw2⟩ : ∃ w2, w1.setCell ⟨b15, 1, none⟩ (.int .i64 (x : Int)) = w2 := ⟨_, rfl⟩
    rw [hw2] at H2P H2W H2X H214 H2B ⊢
    clear hg2 hw2 k1 f1 z1 c0 zb H1P H1W H1X H114 H1B
    have k2 := H2B.out.cell; have f2 := H2B.out.frozen; have z2 := H2B.out.lt
    unfold stE at k2
    go_upto_region 46 with (go_at_call 11; (refine (pflip_c H2P.out (by have := HN.out; omega) (by omega) x HRO.out).mono ?_); rintro e w3 ⟨⟨c, rfl, hc⟩, hf⟩; have HF3 := hide hf; clear hf)
    clear k2 f2 z2
    have hml2 := HMN.out
    subst hml2
    rcases hc with ⟨rfl, F', left', S', L', hs, hg, hcs⟩ | ⟨rfl, F', hp, hg⟩
    · have HS3 := hide hs
      have HW3 := hide (H2W.out.fr H2P.out HF3.out hg H2W.out.hp H2W.out.hs)
      have HX3 := hide (H2X.out.fr H2P.out HF3.out hg)
      have HB3 := hide (H2P.out.keep HF3.out H2B.out (by decide) (by decide) N15.out)
      have H143 := hide (H2P.out.keep HF3.out H214.out (by decide) (by decide) N14.out)
      have hcut := HI.out.cut HP.out.len (by omega) (by omega) (.inr HPX.out) (maskT mask) hcs
      clear hs hg hcs HF3
      go_wp2_with fail
      rcases hcut with hc | hc
      · exact tail_sure _ _ _ HX.out HS3.out (by have := HN.out; omega) HP.out.h4 HM.out H143.out HB3.out HW3.out.box (by omega) hc.1 (by omega) hc.2 HI.out.np (by have := HNP.out; omega) HW3.out.dn hj _ _ _ _ _ _ _ _ _ _ _ _ _ _ _ _ _ _ _ _ _ _ _ _ _ _ _ _ _ _ _ _ _ _ _ _ _ _ _ _ _ _ _ _ _ _ _ _ _ _ _ _ _ _ _ _ _ _ _ _ _ _ _ _ _ _ _ _ _ _ _ _ _ _ _ _ _ _ _ _ _ _ _ _ _ _ _ _ _ _ _ _ _ _ _ _ _ _ _ _ _ _ _ _ _ _ _ _ _ _ _ _ _ _ _ _ _ _ _ _ _ _ _ _ _ _ _ _ _ _ _ _ _ _ _ _ _ _ _ _ _ _ _ _ _ _ _ _ _ _ _ _ _ _ _ _ _ _ _ _ _ _ _ _ _ _ _ _ _ _ _ _ _ _ _ _ _ _ _ _ _ _ _ _ _ _ _ _ _ _ _ _ _ _ _ _ _ _ _ _ _ _ _ _ _ _ _ _ _ _ _ _ _ _ _ _ _ _ _ _ _ _ _ _ _ _ _ _ _ _ _ _ _ _ _ _ _ _ _ _ _ _ _ _ _ _ _ _ _ _ _ _ _ _ _ _ _ _ _ _ _ _ _ _ _ _ _ _ _ _
      · exact tail_next _ _ _ HX.out HS3.out (by have := HN.out; omega) HP.out.h4 HM.out H143.out HB3.out HW3.out.box hc.1 (by omega) hc.2 HI.out.nm (by omega) (HX3.out.dn HW3.out) hj _ _ _ _ _ _ _ _ _ _ _ _ _ _ _ _ _ _ _ _ _ _ _ _ _ _ _ _ _ _ _ _ _ _ _ _ _ _ _ _ _ _ _ _ _ _ _ _ _ _ _ _ _ _ _ _ _ _ _ _ _ _ _ _ _ _ _ _ _ _ _ _ _ _ _ _ _ _ _ _ _ _ _ _ _ _ _ _ _ _ _ _ _ _ _ _ _ _ _ _ _ _ _ _ _ _ _ _ _ _ _ _ _ _ _ _ _ _ _ _ _ _ _ _ _ _ _ _ _ _ _ _ _ _ _ _ _ _ _ _ _ _ _ _ _ _ _ _ _ _ _ _ _ _ _ _ _ _ _ _ _ _ _ _ _ _ _ _ _ _ _ _ _ _ _ _ _ _ _ _ _ _ _ _ _ _ _ _ _ _ _ _ _ _ _ _ _ _ _ _ _ _ _ _ _ _ _ _ _ _ _ _ _ _ _ _ _ _ _ _ _ _ _ _ _ _ _ _ _ _ _ _ _ _ _ _ _ _ _ _ _ _ _ _ _ _ _ _ _ _ _ _ _ _ _ _ _ _ _ _ _ _ _ _ _ _ _ _ _ _
    · have HP3 := hide hp
      have HW3 := hide (H2W.out.fr H2P.out HF3.out hg H2W.out.hp H2W.out.hs)
      have HX3 := hide (H2X.out.fr H2P.out HF3.out hg)
      have HB3 := hide (H2P.out.keep HF3.out H2B.out (by decide) (by decide) N15.out)
      have HI3 := hide (HI.out.flip HP.out.len (by omega) (by omega) (.inr HPX.out))
      clear hp hg HF3
      have k3 := HB3.out.cell; have f3 := HB3.out.frozen; have z3 := HB3.out.lt
      unfold stE at k3
      have k10 := HW3.out.box.cell; have f10 := HW3.out.box.frozen; have z10 := HW3.out.box.lt
      go_upto_region 51 with fail
      have hg4 := ((gby_set w3 b10 0 (.int .i64 ((q : Int) + 1))).trans (gby_set _ b10 1 (.int .i64 (x : Int)))).trans (gby_set _ b10 2 (.slice A' M.length c'))
      have HB4 := hide (((HW3.out.box.set_ 0 (.int .i64 ((q : Int) + 1))).set_ 1 (.int .i64 (x : Int))).set_ 2 (.slice A' M.length c'))
      have HP4 := hide (HP3.out.grown hg4 (fun e => Blk.ne_ HW3.out.box HP3.out.blk (by decide) (by injection e)) (fun e => Blk.ne_ HW3.out.box HP3.out.sblk (by decide) (by injection e)) (fun g e => by injection e with e; rw [← e]; exact HW3.out.nb))
      have HW4 := hide (AcW.flipped (q' := q + 1) (r' := x) HW3.out HX3.out hg4 HB4.out)
      clear hg4 k3 f3 z3 k10 f10 z10
      go_wp2_with fail
      exact tail_up HX.out ⟨F', sb, _, _, _, _, q + 1, x, frm, _, _, M, [], M, HP4.out, HI3.out, HW4.out, by have := HN.out; omega, by omega, by omega, Nat.zero_le _, by omega⟩ hj _ _ _ _ _ _ _ _ _ _ _ _ _ _ _ _ _ _ _ _ _ _ _ _ _ _ _ _ _ _ _ _ _ _ _ _ _ _ _ _ _ _ _ _ _ _ _ _ _ _ _ _ _ _ _ _ _ _ _ _ _ _ _ _ _ _ _ _ _ _ _ _ _ _ _ _ _ _ _ _ _ _ _ _ _ _ _ _ _ _ _ _ _ _ _ _ _ _ _ _ _ _ _ _ _ _ _ _ _ _ _ _ _ _ _ _ _ _ _ _ _ _ _ _ _ _ _ _ _ _ _ _ _ _ _ _ _ _ _ _ _ _ _ _ _ _ _ _ _ _ _ _ _ _ _ _ _ _ _ _ _ _ _ _ _ _ _ _ _ _ _ _ _ _ _ _ _ _ _ _ _ _ _ _ _ _ _ _ _ _ _ _ _ _ _ _ _ _ _ _ _ _ _ _ _ _ _ _ _ _ _ _ _ _ _ _ _ _ _ _ _ _ _ _ _ _ _ _ _ _ _ _ _ _ _ _ _ _ _ _ _ _ _ _ _ _ _ _ _ _ _ _ _ _ _ _ _ _ _ _ _ _ _ _ _ _ _ _ _ _ _ _
end
end Go.Proofs.Ytddcmockdomonaa
