/- PagerActs: the state of a script, in memory. -/
import Derived.Test.YtddcmockdomonaaPgActD
namespace Go.Proofs.Ytddcmockdomonaa
set_option linter.unusedSimpArgs false
set_option linter.unusedVariables false
open Go.RowKit
/-- The lists and the sure state in memory. -/
structure AcW (w wr : World) (F : Nat → Prop) (pb sb b10 q r : Nat) (vn vp vs : Value) (M R P : PgL) : Prop where
  rn : wr.ownsRow w.heap.size TG 2 vn M.length (M.flatMap pgE)
  rp : wr.ownsRow w.heap.size TG 2 vp R.length (R.flatMap pgE)
  rs : wr.ownsRow w.heap.size TG 2 vs P.length (P.flatMap pgE)
  fn : ∀ g, vn.ownBlock = some g → ¬ F g
  fp : ∀ g, vp.ownBlock = some g → ¬ F g
  fs : ∀ g, vs.ownBlock = some g → ¬ F g
  np : ∀ g, vn.ownBlock = some g → vp.ownBlock ≠ some g
  ns : ∀ g, vn.ownBlock = some g → vs.ownBlock ≠ some g
  ps : ∀ g, vp.ownBlock = some g → vs.ownBlock ≠ some g
  box : Blk wr b10 TS #[.int .i64 (q : Int), .int .i64 (r : Int), vs]
  nb : ¬ F b10
  below : Below w.heap.size w wr
  low : ∀ j, F j → w.heap.size ≤ j
  hp : w.heap.size ≤ pb
  hs : w.heap.size ≤ sb
  hb : w.heap.size ≤ b10
theorem own_lt {w : World} {base n k : Nat} {e : TypeId} {v : Value} {xs : List Value} (h : w.ownsRow base e k v n xs) : ∀ g, v.ownBlock = some g → g < w.heap.size := fun g hg => (h.lt g hg).2
theorem own_ne_blk {w : World} {base n k g : Nat} {e t : TypeId} {v : Value} {xs : List Value} {cs : Array Value} (h : w.ownsRow base e k v n xs) (hb : Blk w g t cs) (ht : e ≠ t) : v.ownBlock ≠ some g := own_blk_ne h hb ht
theorem row_fr2 {w w' : World} {G : Nat → Prop} {base : Nat} {e : TypeId} {size : Nat} {v : Value} {n : Nat} {xs : List Value} (h : w.ownsRow base e size v n xs) (hf : Fr G w w') (hv : ∀ g, v.ownBlock = some g → ¬ G g) : w'.ownsRow base e size v n xs :=
  row_fr h hf hv
section
variable {w wr w' : World} {F F' : Nat → Prop} {pb sb b10 q r db n : Nat} {vn vp vs : Value} {M R P : PgL} {left : Int} {S : Int → Cn} {L : List (Int × Cn)} {N : Nat} {frm : Int} {st : Cn}
theorem AcW.pf (h : AcW w wr F pb sb b10 q r vn vp vs M R P) (hp : Pg wr F pb sb db n left S L N (q : Int) (r : Int) frm st) :
    (∀ g, vn.ownBlock = some g → ¬ PF F pb sb g) ∧ (∀ g, vp.ownBlock = some g → ¬ PF F pb sb g) ∧ (∀ g, vs.ownBlock = some g → ¬ PF F pb sb g) ∧ ¬ PF F pb sb b10 := by
  have key : ∀ (v : Value) (l : PgL), wr.ownsRow w.heap.size TG 2 v l.length (l.flatMap pgE) → (∀ g, v.ownBlock = some g → ¬ F g) → ∀ g, v.ownBlock = some g → ¬ PF F pb sb g := fun v l hr hf g hg h => by
    rcases h with h | rfl | rfl
    · exact hf g hg h
    · exact own_blk_ne hr hp.blk (by decide) hg
    · exact own_blk_ne hr hp.sblk (by decide) hg
  refine ⟨key _ _ h.rn h.fn, key _ _ h.rp h.fp, key _ _ h.rs h.fs, fun e => ?_⟩
  rcases e with e | e | e
  · exact h.nb e
  · exact Blk.ne_ h.box hp.blk (by decide) e
  · exact Blk.ne_ h.box hp.sblk (by decide) e
/-- The pager turned, and its disk grew. -/
theorem AcW.fr {pb' sb' : Nat} (h : AcW w wr F pb sb b10 q r vn vp vs M R P) (hp : Pg wr F pb sb db n left S L N (q : Int) (r : Int) frm st) (hf : Fr (PF F pb sb) wr w') (hg : Grw F wr F') (h1 : w.heap.size ≤ pb') (h2 : w.heap.size ≤ sb') : AcW w w' F' pb' sb' b10 q r vn vp vs M R P := by
  obtain ⟨k1, k2, k3, k4⟩ := h.pf hp
  have low : ∀ j, PF F pb sb j → w.heap.size ≤ j := fun j hj => hj.elim (h.low j) (fun e => e.elim (fun e => e ▸ h.hp) (fun e => e ▸ h.hs))
  have gr : ∀ g, g < wr.heap.size → ¬ F g → ¬ F' g := fun g hlt hn hF => (hg g hF).elim hn (by omega)
  exact {
    rn := row_fr h.rn hf k1
    rp := row_fr h.rp hf k2
    rs := row_fr h.rs hf k3
    fn := fun g e => gr g (own_lt h.rn g e) (h.fn g e)
    fp := fun g e => gr g (own_lt h.rp g e) (h.fp g e)
    fs := fun g e => gr g (own_lt h.rs g e) (h.fs g e)
    np := h.np
    ns := h.ns
    ps := h.ps
    box := hf.blk h.box k4
    nb := gr b10 h.box.lt h.nb
    below := h.below.trans (hf.below h.below.size low)
    low := hg.low h.below.size h.low
    hp := h1
    hs := h2
    hb := h.hb }
theorem AcW.later (h : AcW w wr F pb sb b10 q r vn vp vs M R P) (hb : Below wr.heap.size wr w') : AcW w w' F pb sb b10 q r vn vp vs M R P :=
  { h with
    rn := own_later h.rn hb
    rp := own_later h.rp hb
    rs := own_later h.rs hb
    box := h.box.below hb h.box.lt
    below := h.below.trans (hb.mono h.below.size) }
/-- The list of what is in use is another one, made anew. -/
theorem AcW.fresh {M' : PgL} {vn' : Value} (h : AcW w wr F pb sb b10 q r vn vp vs M R P) (hb : Below wr.heap.size wr w') (hlt : ∀ j, F j → j < wr.heap.size) (hr : w'.ownsRow wr.heap.size TG 2 vn' M'.length (M'.flatMap pgE)) : AcW w w' F pb sb b10 q r vn' vp vs M' R P :=
  { h.later hb with
    rn := own_base hr h.below.size
    fn := fun g e hF => by have := (hr.lt g e).1; have := hlt g hF; omega
    np := fun g e e' => by have := (hr.lt g e).1; have := own_lt h.rp g e'; omega
    ns := fun g e e' => by have := (hr.lt g e).1; have := own_lt h.rs g e'; omega }
/-- A page more is in use. -/
theorem AcW.now {M' : PgL} {vn' : Value} (h : AcW w wr F pb sb b10 q r vn vp vs M R P) (hlt : ∀ j, F j → j < wr.heap.size) (hr : w'.ownsRow w.heap.size TG 2 vn' M'.length (M'.flatMap pgE)) (hg : wr.grownBy w' vn.ownBlock) (ho : vn'.ownBlock = vn.ownBlock ∨ vn'.ownBlock = some wr.heap.size) : AcW w w' F pb sb b10 q r vn' vp vs M' R P := by
  have nw : ∀ g, vn'.ownBlock = some g → vn.ownBlock = some g ∨ g = wr.heap.size := fun g e => ho.elim (fun h => .inl (h ▸ e)) (fun h => .inr (by rw [h] at e; injection e with e; exact e.symm))
  exact { h with
    rn := hr
    rp := row_keep h.rp (fun g e => hg.block g (own_lt h.rp g e) (fun e' => h.np g e'.symm e))
    rs := row_keep h.rs (fun g e => hg.block g (own_lt h.rs g e) (fun e' => h.ns g e'.symm e))
    fn := fun g e hF => (nw g e).elim (fun e => h.fn g e hF) (fun e => by have := hlt g hF; omega)
    np := fun g e e' => (nw g e).elim (fun e => h.np g e e') (fun e => by have := own_lt h.rp g e'; omega)
    ns := fun g e e' => (nw g e).elim (fun e => h.ns g e e') (fun e => by have := own_lt h.rs g e'; omega)
    box := h.box.grown hg (fun e => own_blk_ne h.rn h.box (by decide) e.symm)
    below := h.below.grown hg h.below.size (fun g e => (h.rn.lt g e).1) }
/-- A page more parts. -/
theorem AcW.part {R' : PgL} {vp' : Value} (h : AcW w wr F pb sb b10 q r vn vp vs M R P) (hlt : ∀ j, F j → j < wr.heap.size) (hr : w'.ownsRow w.heap.size TG 2 vp' R'.length (R'.flatMap pgE)) (hg : wr.grownBy w' vp.ownBlock) (ho : vp'.ownBlock = vp.ownBlock ∨ vp'.ownBlock = some wr.heap.size) : AcW w w' F pb sb b10 q r vn vp' vs M R' P := by
  have nw : ∀ g, vp'.ownBlock = some g → vp.ownBlock = some g ∨ g = wr.heap.size := fun g e => ho.elim (fun h => .inl (h ▸ e)) (fun h => .inr (by rw [h] at e; injection e with e; exact e.symm))
  exact { h with
    rp := hr
    rn := row_keep h.rn (fun g e => hg.block g (own_lt h.rn g e) (fun e' => h.np g e e'.symm))
    rs := row_keep h.rs (fun g e => hg.block g (own_lt h.rs g e) (fun e' => h.ps g e'.symm e))
    fp := fun g e hF => (nw g e).elim (fun e => h.fp g e hF) (fun e => by have := hlt g hF; omega)
    np := fun g e e' => (nw g e').elim (fun e' => h.np g e e') (fun e' => by have := own_lt h.rn g e; omega)
    ps := fun g e e' => (nw g e).elim (fun e => h.ps g e e') (fun e => by have := own_lt h.rs g e'; omega)
    box := h.box.grown hg (fun e => own_blk_ne h.rp h.box (by decide) e.symm)
    below := h.below.grown hg h.below.size (fun g e => (h.rp.lt g e).1) }
/-- No page parts. -/
theorem AcW.nopart (h : AcW w wr F pb sb b10 q r vn vp vs M R P) : AcW w wr F pb sb b10 q r vn (.slice none 0 0) vs M [] P :=
  { h with
    rp := ⟨rfl, .inl ⟨rfl, rfl⟩⟩
    fp := fun g e => by simp [Value.ownBlock] at e
    np := fun g e e' => by simp [Value.ownBlock] at e'
    ps := fun g e => by simp [Value.ownBlock] at e }
end
/-- The state of a script: what stands behind j acts. -/
def AcS (w wr : World) (db n b10 : Nat) (vn vp : Value) (pb i : Nat) : Prop :=
  ∃ (F : Nat → Prop) (sb : Nat) (left : Int) (S : Int → Cn) (L : List (Int × Cn)) (N q r : Nat) (frm : Int) (st : Cn) (vs : Value) (M R P : PgL), Pg wr F pb sb db n left S L N (q : Int) (r : Int) frm st ∧ AcI n S L q r st M R P ∧ AcW w wr F pb sb b10 q r vn vp vs M R P ∧
    N ≤ 2 * i ∧ q ≤ i ∧ M.length ≤ i ∧ R.length ≤ i ∧ P.length ≤ i
def dropS : Nat → Code → Code
  | 0, c => c
  | n + 1, .seq _ b => dropS n b
  | _, c => c
def inLoop : Code → Code
  | .seq (.seq _ (.block _ (.loop (.seq _ (.seq (.block _ b) _))))) _ => b
  | c => c
/-- The loop's body from its k-th statement on. -/
noncomputable def Bd (k : Nat) : Code := dropS k (inLoop (dropS 7 ((Try.f6.body).getD .skip)))
noncomputable def Bc (k : Nat) : Code := match Bd k with
  | .seq a _ => a
  | c => c
section
variable (Q : Exit → Act → World → Prop) (w : World) (v0 v2 v3 v7 v9 v29 v30 v31 v32 v33 v34 v35 v36 v37 v38 v39 v40 v41 v42 v43 v44 v45 v46 v47 v48 v49 v50 v51 v52 v53 : Value) (A : Option Addr) (nA cA n db b10 j : Nat)
/-- What follows the body of the loop is right behind a right state. -/
def Nx : Prop := ∀ (u4 u14 u15 u16 u17 u18 u19 u20 u21 u22 u23 u24 u25 u26 u27 u28 u54 u55 u56 u57 u58 u59 u60 u61 u62 u63 u64 u65 u66 u67 u68 u69 u70 u71 u72 u73 u74 u75 u76 u77 u78 u79 u80 u81 u82 u83 u84 u85 u86 u87 u88 u89 u90 u91 u92 u93 u94 u95 u96 u97 u98 u99 u100 u101 u102 u103 u104 u105 u106 u107 u108 u109 u110 u111 u112 u113 u114 u115 u116 u117 u118 u119 u120 u121 u122 u123 u124 u125 u126 u127 u128 u129 u130 u131 u132 u133 u134 u135 u136 u137 u138 u139 u140 u141 u142 u143 u144 u145 u146 u147 u148 u149 u150 u151 u152 u153 u154 u155 u156 u157 u158 u159 u160 u161 u162 u163 u164 u165 u166 u167 u168 u169 u170 u171 u172 u173 u174 u175 u176 u177 u178 u179 u180 u181 u182 u183 u184 u185 u186 u187 u188 u189 u190 u191 u192 u193 u194 u195 u196 u197 u198 u199 u200 u201 u202 u203 u204 u205 u206 u207 u208 u209 u210 u211 u212 u213 u214 u215 u216 u217 u218 u219 u220 u221 u222 u223 u224 u225 u226 u227 u228 u229 u230 u231 u232 u233 u234 u235 u236 u237 u238 u239 u240 u241 u242 u243 u244 u245 u246 u247 u248 u249 u250 u251 u252 u253 u254 u255 u256 u257 u258 u259 u260 u261 u262 u263 u264 u265 u266 u267 u268 u269 u270 u271 u272 u273 u274 u275 u276 u277 u278 u279 u280 u281 u282 u283 u284 u285 u286 u287 u288 u289 u290 u291 u292 u293 u294 u295 u296 u297 u298 u299 u300 u301 u302 u303 u304 u305 u306 u307 u308 u309 u310 : Value) (pb : Nat) (vn vp : Value) (w' : World), AcS w w' db n b10 vn vp pb (j + 1) → Q .normal { tmps := #[v0, .slice A nA cA, v2, v3, u4, .int .i64 (n : Int), .pointer (some ⟨db, 0, none⟩), v7, .pointer (some ⟨pb, 0, none⟩), v9, .pointer (some ⟨b10, 0, none⟩), vn, vp, .int .i64 (j : Int), u14, u15, u16, u17, u18, u19, u20, u21, u22, u23, u24, u25, u26, u27, u28, v29, v30, v31, v32, v33, v34, v35, v36, v37, v38, v39, v40, v41, v42, v43, v44, v45, v46, v47, v48, v49, v50, v51, v52, v53, u54, u55, u56, u57, u58, u59, u60, u61, u62, u63, u64, u65, u66, u67, u68, u69, u70, u71, u72, u73, u74, u75, u76, u77, u78, u79, u80, u81, u82, u83, u84, u85, u86, u87, u88, u89, u90, u91, u92, u93, u94, u95, u96, u97, u98, u99, u100, u101, u102, u103, u104, u105, u106, u107, u108, u109, u110, u111, u112, u113, u114, u115, u116, u117, u118, u119, u120, u121, u122, u123, u124, u125, u126, u127, u128, u129, u130, u131, u132, u133, u134, u135, u136, u137, u138, u139, u140, u141, u142, u143, u144, u145, u146, u147, u148, u149, u150, u151, u152, u153, u154, u155, u156, u157, u158, u159, u160, u161, u162, u163, u164, u165, u166, u167, u168, u169, u170, u171, u172, u173, u174, u175, u176, u177, u178, u179, u180, u181, u182, u183, u184, u185, u186, u187, u188, u189, u190, u191, u192, u193, u194, u195, u196, u197, u198, u199, u200, u201, u202, u203, u204, u205, u206, u207, u208, u209, u210, u211, u212, u213, u214, u215, u216, u217, u218, u219, u220, u221, u222, u223, u224, u225, u226, u227, u228, u229, u230, u231, u232, u233, u234, u235, u236, u237, u238, u239, u240, u241, u242, u243, u244, u245, u246, u247, u248, u249, u250, u251, u252, u253, u254, u255, u256, u257, u258, u259, u260, u261, u262, u263, u264, u265, u266, u267, u268, u269, u270, u271, u272, u273, u274, u275, u276, u277, u278, u279, u280, u281, u282, u283, u284, u285, u286, u287, u288, u289, u290, u291, u292, u293, u294, u295, u296, u297, u298, u299, u300, u301, u302, u303, u304, u305, u306, u307, u308, u309, u310], defers := [] } w'
end
section
variable {Q : Exit → Act → World → Prop} {w wr : World} {v0 v2 v3 v7 v9 v29 v30 v31 v32 v33 v34 v35 v36 v37 v38 v39 v40 v41 v42 v43 v44 v45 v46 v47 v48 v49 v50 v51 v52 v53 : Value} {A : Option Addr} {nA cA n db b10 j : Nat}
set_option maxRecDepth 1000000 in
set_option maxHeartbeats 4000000 in
theorem tail_up {pb : Nat} {vn vp : Value} (hQ : Nx Q w v0 v2 v3 v7 v9 v29 v30 v31 v32 v33 v34 v35 v36 v37 v38 v39 v40 v41 v42 v43 v44 v45 v46 v47 v48 v49 v50 v51 v52 v53 A nA cA n db b10 j) (hS : AcS w wr db n b10 vn vp pb (j + 1)) (hj : j < 80) (u4 u14 u15 u17 u18 u19 u20 u21 u22 u23 u24 u25 u26 u27 u28 u54 u55 u56 u57 u58 u59 u60 u61 u62 u63 u64 u65 u66 u67 u68 u69 u70 u71 u72 u73 u74 u75 u76 u77 u78 u79 u80 u81 u82 u83 u84 u85 u86 u87 u88 u89 u90 u91 u92 u93 u94 u95 u96 u97 u98 u99 u100 u101 u102 u103 u104 u105 u106 u107 u108 u109 u110 u111 u112 u113 u114 u115 u116 u117 u118 u119 u120 u121 u122 u123 u124 u125 u126 u127 u128 u129 u130 u131 u132 u133 u134 u135 u136 u137 u138 u139 u140 u141 u142 u143 u144 u145 u146 u147 u148 u149 u150 u151 u152 u153 u154 u155 u156 u157 u158 u159 u160 u161 u162 u163 u164 u165 u166 u167 u168 u169 u170 u171 u172 u173 u174 u175 u176 u177 u178 u179 u180 u181 u182 u183 u184 u185 u186 u187 u188 u189 u190 u191 u192 u193 u194 u195 u196 u197 u198 u199 u200 u201 u202 u203 u204 u205 u206 u207 u208 u209 u210 u211 u212 u213 u214 u215 u216 u217 u218 u219 u220 u221 u222 u223 u224 u225 u226 u227 u228 u229 u230 u231 u232 u233 u234 u235 u236 u237 u238 u239 u240 u241 u242 u243 u244 u245 u246 u247 u248 u249 u250 u251 u252 u253 u254 u255 u256 u257 u258 u259 u260 u261 u262 u263 u264 u265 u266 u267 u268 u269 u270 u271 u272 u273 u274 u275 u276 u277 u278 u279 u280 u281 u282 u283 u284 u285 u286 u287 u288 u289 u290 u291 u292 u293 u294 u295 u296 u297 u298 u299 u300 u301 u302 u303 u304 u305 u306 u307 u308 u309 u310 : Value) :
    Code.wp Try.prog (Bd 6) Q { tmps := #[v0, .slice A nA cA, v2, v3, u4, .int .i64 (n : Int), .pointer (some ⟨db, 0, none⟩), v7, .pointer (some ⟨pb, 0, none⟩), v9, .pointer (some ⟨b10, 0, none⟩), vn, vp, .int .i64 (j : Int), u14, u15, .bool false, u17, u18, u19, u20, u21, u22, u23, u24, u25, u26, u27, u28, v29, v30, v31, v32, v33, v34, v35, v36, v37, v38, v39, v40, v41, v42, v43, v44, v45, v46, v47, v48, v49, v50, v51, v52, v53, u54, u55, u56, u57, u58, u59, u60, u61, u62, u63, u64, u65, u66, u67, u68, u69, u70, u71, u72, u73, u74, u75, u76, u77, u78, u79, u80, u81, u82, u83, u84, u85, u86, u87, u88, u89, u90, u91, u92, u93, u94, u95, u96, u97, u98, u99, u100, u101, u102, u103, u104, u105, u106, u107, u108, u109, u110, u111, u112, u113, u114, u115, u116, u117, u118, u119, u120, u121, u122, u123, u124, u125, u126, u127, u128, u129, u130, u131, u132, u133, u134, u135, u136, u137, u138, u139, u140, u141, u142, u143, u144, u145, u146, u147, u148, u149, u150, u151, u152, u153, u154, u155, u156, u157, u158, u159, u160, u161, u162, u163, u164, u165, u166, u167, u168, u169, u170, u171, u172, u173, u174, u175, u176, u177, u178, u179, u180, u181, u182, u183, u184, u185, u186, u187, u188, u189, u190, u191, u192, u193, u194, u195, u196, u197, u198, u199, u200, u201, u202, u203, u204, u205, u206, u207, u208, u209, u210, u211, u212, u213, u214, u215, u216, u217, u218, u219, u220, u221, u222, u223, u224, u225, u226, u227, u228, u229, u230, u231, u232, u233, u234, u235, u236, u237, u238, u239, u240, u241, u242, u243, u244, u245, u246, u247, u248, u249, u250, u251, u252, u253, u254, u255, u256, u257, u258, u259, u260, u261, u262, u263, u264, u265, u266, u267, u268, u269, u270, u271, u272, u273, u274, u275, u276, u277, u278, u279, u280, u281, u282, u283, u284, u285, u286, u287, u288, u289, u290, u291, u292, u293, u294, u295, u296, u297, u298, u299, u300, u301, u302, u303, u304, u305, u306, u307, u308, u309, u310], defers := [] } wr := by
  have HX := hide hQ
  obtain ⟨F, sb, left, S, L, N, q, r, frm, st, vs, M, R, P, hp, hi, hw, h1, h2, h3, h4, h5⟩ := hS
  obtain ⟨An, cn, rfl, hcn⟩ := own_slice hw.rn
  have HP := hide hp
  have HI := hide hi
  have HW := hide hw
  have HH := hide (And.intro h1 (And.intro h2 (And.intro h3 (And.intro h4 h5))))
  clear hp hi hw hQ h1 h2 h4 h5
  conv => arg 2; whnf
  go_wp2_with (first
    | (go_at_call 22; (refine (intact_any w1 HP1.out An M.length cn M (Sl.own rfl rfl rfl HW1.out.rn) (by omega) (fun ad e => (HW1.out.pf HP1.out).1 ad.block (by rw [e]; rfl)) HI.out.m).mono ?_); rintro e w2 ⟨rfl, hp, hf⟩; have HP2 := hide hp; have HW2 := hide (HW1.out.fr HP1.out hf (Grw.refl F w1) HW1.out.hp HW1.out.hs); clear hp hf)
    | (go_at_call 12; (refine (proot HP.out).mono ?_); rintro e w1 ⟨rfl, hb⟩; have HP1 := hide (HP.out.below hb); have HW1 := hide (HW.out.later hb); have k10 := HW1.out.box.cell; have f10 := HW1.out.box.frozen; have z10 := HW1.out.box.lt; clear hb))
  exact HX.out _ _ _ _ _ _ _ _ _ _ _ _ _ _ _ _ _ _ _ _ _ _ _ _ _ _ _ _ _ _ _ _ _ _ _ _ _ _ _ _ _ _ _ _ _ _ _ _ _ _ _ _ _ _ _ _ _ _ _ _ _ _ _ _ _ _ _ _ _ _ _ _ _ _ _ _ _ _ _ _ _ _ _ _ _ _ _ _ _ _ _ _ _ _ _ _ _ _ _ _ _ _ _ _ _ _ _ _ _ _ _ _ _ _ _ _ _ _ _ _ _ _ _ _ _ _ _ _ _ _ _ _ _ _ _ _ _ _ _ _ _ _ _ _ _ _ _ _ _ _ _ _ _ _ _ _ _ _ _ _ _ _ _ _ _ _ _ _ _ _ _ _ _ _ _ _ _ _ _ _ _ _ _ _ _ _ _ _ _ _ _ _ _ _ _ _ _ _ _ _ _ _ _ _ _ _ _ _ _ _ _ _ _ _ _ _ _ _ _ _ _ _ _ _ _ _ _ _ _ _ _ _ _ _ _ _ _ _ _ _ _ _ _ _ _ _ _ _ _ _ _ _ _ _ _ _ _ _ _ _ _ _ _ _ _ _ _ _ _ _ _ _ _ _ _ _ _ ⟨F, sb, left, S, L, N, q, r, frm, st, vs, M, R, P, HP2.out, HI.out, HW2.out, HH.out⟩
end
end Go.Proofs.Ytddcmockdomonaa
