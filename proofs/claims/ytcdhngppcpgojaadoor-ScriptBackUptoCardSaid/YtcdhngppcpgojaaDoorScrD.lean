/- A reply's line. -/
import Derived.Test.YtcdhngppcpgojaaDoorScrC
namespace Go.Proofs.YtcdhngppcpgojaaDoor
set_option linter.unusedSimpArgs false
set_option linter.unusedVariables false
open Go.RowKit
abbrev TRep : TypeId := 26
def iEnc (x : Int) : List Value := [.int .i64 x]
def pEnc (p : Int × Int) : List Value := [.int .i64 p.1, .int .i64 p.2]
/-- A reply. -/
structure Rep where
  e : Int
  A1 : Option Addr
  n1 : Nat
  c1 : Nat
  ids : List Int
  A2 : Option Addr
  n2 : Nat
  c2 : Nat
  pairs : List (Int × Int)
  text : List UInt8
def Rep.cells (r : Rep) : Array Value := #[.int .i64 r.e, .slice r.A1 r.n1 r.c1, .slice r.A2 r.n2 r.c2, str r.text]
structure Rep.Ok (r : Rep) (w : World) (B : Nat) : Prop where
  he : -9223372036854775808 ≤ r.e ∧ r.e ≤ 9223372036854775807
  s1 : Sl 1 iEnc w B r.A1 r.n1 r.ids
  s2 : Sl 2 pEnc w B r.A2 r.n2 r.pairs
  i1 : inInt r.ids
  i2 : ∀ p ∈ r.pairs, (-9223372036854775808 ≤ p.1 ∧ p.1 ≤ 9223372036854775807) ∧ (-9223372036854775808 ≤ p.2 ∧ p.2 ≤ 9223372036854775807)
theorem Rep.Ok.below {r : Rep} {w w' : World} {B : Nat} (h : r.Ok w B) (hb : Below B w w') : r.Ok w' B := ⟨h.he, h.s1.below hb, h.s2.below hb, h.i1, h.i2⟩
theorem Rep.Ok.more {r : Rep} {w : World} {B B' : Nat} (h : r.Ok w B) (hb : B ≤ B') : r.Ok w B' := ⟨h.he, h.s1.more hb, h.s2.more hb, h.i1, h.i2⟩
def pairWords (l : List (Int × Int)) : List (List UInt8) := l.flatMap (fun p => itos [p.1, p.2])
def Rep.words (r : Rep) : List (List UInt8) := itos [r.e, r.n1] ++ itos r.ids ++ itos [(r.n2 : Int)] ++ pairWords r.pairs ++ [hex r.text]
def Rep.line (r : Rep) : List UInt8 := Lib.join r.words [32]
theorem ia_two (w : World) (base : Nat) (a b : Int) : IA (w.alloc (.cells #[.int .i64 a, .int .i64 b] TInt)) base (some ⟨w.heap.size, 0, none⟩) 2 [a, b] := by
  refine ⟨rfl, fun _ => ⟨w.heap.size, 0, rfl, by simp, .inr ⟨_, Blk.new _ _ _⟩, fun i x hx => ?_⟩⟩
  rw [(Blk.new w TInt #[.int .i64 a, .int .i64 b]).cell, Nat.zero_add]
  match i, hx with
  | 0, hx => simp at hx; subst hx; rfl
  | 1, hx => simp at hx; subst hx; rfl
  | i + 2, hx => simp at hx
theorem ia_one (w : World) (base : Nat) (a : Int) : IA (w.alloc (.cells #[.int .i64 a] TInt)) base (some ⟨w.heap.size, 0, none⟩) 1 [a] := by
  refine ⟨rfl, fun _ => ⟨w.heap.size, 0, rfl, by simp, .inr ⟨_, Blk.new _ _ _⟩, fun i x hx => ?_⟩⟩
  rw [(Blk.new w TInt #[.int .i64 a]).cell, Nat.zero_add]
  match i, hx with
  | 0, hx => simp at hx; subst hx; rfl
  | i + 1, hx => simp at hx
theorem ia_sl {w : World} {base n : Nat} {A : Option Addr} {ns : List Int} (h : Sl 1 iEnc w base A n ns) (hb : base ≤ w.heap.size) : IA w base A n ns := by
  refine ⟨h.len, fun hn => ?_⟩
  obtain ⟨g, o, e, hg, hc⟩ := h.at (fun _ => rfl) (by omega) hn
  refine ⟨g, o, e, by omega, .inl hg, fun i x hx => ?_⟩
  obtain ⟨hi, rfl⟩ := List.getElem?_eq_some_iff.1 hx
  have := hc i hi 0 _ rfl
  simpa using this
theorem wr_new (w : World) (base : Nat) (hb : base ≤ w.heap.size) : Wr (w.alloc (.cells #[.slice none 0 0] TWr)) base w.heap.size [] (.slice none 0 0) := ⟨Blk.new _ _ _, ⟨rfl, .inl ⟨rfl, rfl⟩⟩, hb⟩
structure RepS (w : World) (r : Rep) (xs : List (List UInt8)) (wr : World) : Prop where
  b : Below w.heap.size w wr
  t : Tab wr
  k : Blk wr w.heap.size TRep r.cells
  w : ∃ v, Wr wr w.heap.size (w.heap.size + 1) xs v
theorem RepS.step {w wr w' : World} {r : Rep} {xs ys : List (List UInt8)} {v : Value} (h : RepS w r xs wr) (hT : Tn w.heap.size wr w') (hw : Wr w' w.heap.size (w.heap.size + 1) ys v) (hg : ∃ g, Tryd.prog.globalNamed "internal/strconv.uint64pow10" = some g ∧ g < w.heap.size) : RepS w r ys w' :=
  ⟨h.b.trans (hT.below h.b.size), hT.tab h.t hg, hT.blk h.k (by decide) (by decide), v, hw⟩
theorem RepS.al {w wr : World} {r : Rep} {xs : List (List UInt8)} (h : RepS w r xs wr) (o : Obj) : RepS w r xs (wr.alloc o) := by
  have hb : Below wr.heap.size wr (wr.alloc o) := (Below.refl _ _).alloc (Nat.le_refl _) _
  obtain ⟨v, hv⟩ := h.w
  exact ⟨h.b.trans (hb.mono h.b.size), h.t.below hb, h.k.below hb h.k.lt, v, hv.later hb⟩
theorem in_one {x : Int} (h : -9223372036854775808 ≤ x ∧ x ≤ 9223372036854775807) : inInt [x] := fun y hy => by simp at hy; subst hy; exact h
theorem in_two {x y : Int} (h : -9223372036854775808 ≤ x ∧ x ≤ 9223372036854775807) (k : -9223372036854775808 ≤ y ∧ y ≤ 9223372036854775807) : inInt [x, y] := fun z hz => by
  simp at hz
  rcases hz with rfl | rfl
  · exact h
  · exact k
theorem RepS.ints {w wr : World} {r : Rep} {xs : List (List UInt8)} (h : RepS w r xs wr) (hg : ∃ g, Tryd.prog.globalNamed "internal/strconv.uint64pow10" = some g ∧ g < w.heap.size) (A : Option Addr) (n c : Nat) (ns : List Int) (hr : IA wr w.heap.size A n ns) (hi : inInt ns) (hn : xs.length + n ≤ 4000000) :
    Calls Tryd.prog 23 #[.pointer (some ⟨w.heap.size + 1, 0, none⟩), .slice A n c] wr fun e w' => e = .returned (.tuple #[]) ∧ RepS w r (xs ++ itos ns) w' := by
  obtain ⟨v, hv⟩ := h.w
  refine (ints_any hv A n c ns hr hi h.t hg hn h.b.size).mono ?_
  rintro e w' ⟨rfl, ⟨v', hv'⟩, hT⟩
  exact ⟨rfl, h.step hT hv' hg⟩
theorem RepS.text {w wr : World} {r : Rep} {xs : List (List UInt8)} (h : RepS w r xs wr) (hg : ∃ g, Tryd.prog.globalNamed "internal/strconv.uint64pow10" = some g ∧ g < w.heap.size) (l : List UInt8) (hl : l.length ≤ 4000000) (hn : xs.length + 1 ≤ 4000000) :
    Calls Tryd.prog 24 #[.pointer (some ⟨w.heap.size + 1, 0, none⟩), str l] wr fun e w' => e = .returned (.tuple #[]) ∧ RepS w r (xs ++ [hex l]) w' := by
  obtain ⟨v, hv⟩ := h.w
  refine (text_any hv l hl hn h.b.size).mono ?_
  rintro e w' ⟨rfl, ⟨v', hv'⟩, hT⟩
  exact ⟨rfl, h.step hT hv' hg⟩
theorem RepS.line {w wr : World} {r : Rep} {xs : List (List UInt8)} (h : RepS w r xs wr) (h0 : xs ≠ []) (hn : xs.length ≤ 4000000) (hl : (Lib.join xs [32]).length ≤ 140737488355328) :
    Calls Tryd.prog 25 #[.pointer (some ⟨w.heap.size + 1, 0, none⟩)] wr fun e w' => e = .returned (str (Lib.join xs [32])) ∧ Below w.heap.size w w' := by
  obtain ⟨v, hv⟩ := h.w
  refine (line_any hv h0 hn hl).mono ?_
  rintro e w' ⟨rfl, hb⟩
  exact ⟨rfl, h.b.trans (hb.mono h.b.size)⟩
theorem pw_len (l : List (Int × Int)) : (pairWords l).length = 2 * l.length := by
  unfold pairWords itos
  induction l with
  | nil => rfl
  | cons p l ih => rw [List.flatMap_cons, List.length_append, ih]; simp; omega
theorem itos_len (l : List Int) : (itos l).length = l.length := by unfold itos; simp
theorem pw_take (l : List (Int × Int)) (k : Nat) (hk : k < l.length) : pairWords (l.take (k + 1)) = pairWords (l.take k) ++ itos [l[k].1, l[k].2] := by
  unfold pairWords
  rw [List.take_succ_eq_append_getElem hk, List.flatMap_append]
  simp
set_option maxRecDepth 100000 in
set_option maxHeartbeats 2000000 in
theorem reply_any (r : Rep) (w : World) (h : r.Ok w w.heap.size) (ht : Tab w) (hg : ∃ g, Tryd.prog.globalNamed "internal/strconv.uint64pow10" = some g ∧ g < w.heap.size) (hn1 : r.n1 ≤ 400) (hn2 : r.n2 ≤ 400) (htx : r.text.length ≤ 20000) (hjl : r.line.length ≤ 1000000) :
    Calls Tryd.prog 10 #[.agg r.cells] w fun e w' => e = .returned (str r.line) ∧ Below w.heap.size w w' := by
  have H := hide h
  have HT := hide ht
  have HG := hide hg
  have HJL := hide hjl
  clear h ht hg hjl
  have hl1 := H.out.s1.len
  have hl2 := H.out.s2.len
  obtain ⟨xs1, hxs1⟩ : ∃ xs1, itos [r.e, (r.n1 : Int)] = xs1 := ⟨_, rfl⟩
  obtain ⟨xs2, hxs2⟩ : ∃ xs2, xs1 ++ itos r.ids = xs2 := ⟨_, rfl⟩
  obtain ⟨xs3, hxs3⟩ : ∃ xs3, xs2 ++ itos [(r.n2 : Int)] = xs3 := ⟨_, rfl⟩
  have y1 : xs1.length = 2 := by rw [← hxs1, itos_len]; rfl
  have y2 : xs2.length ≤ 500 := by rw [← hxs2, List.length_append, itos_len]; omega
  have y3 : xs3.length ≤ 600 := by rw [← hxs3, List.length_append, itos_len]; simp; omega
  have HX1 := hide hxs1
  have HX2 := hide hxs2
  have HX3 := hide hxs3
  have Y1 := hide y1
  have Y2 := hide y2
  have Y3 := hide y3
  clear hxs1 hxs2 hxs3 y1 y2 y3
  obtain ⟨W1, hW1, hS1⟩ : ∃ W1, (w.alloc (Obj.cells r.cells TRep)).alloc (Obj.cells #[.slice none 0 0] TWr) = W1 ∧ RepS w r [] W1 := by
    refine ⟨_, rfl, ((Below.refl _ _).alloc (Nat.le_refl _) _).alloc (by simp) _, (HT.out.below ((Below.refl _ _).alloc (Nat.le_refl _) _)).below ((Below.refl _ _).alloc (Nat.le_refl _) _), (Blk.new _ _ _).alloc _, .slice none 0 0, ?_⟩
    have := wr_new (w.alloc (Obj.cells r.cells TRep)) w.heap.size (by simp)
    simpa using this
  have HS1 := hide hS1
  have kx := hS1.k.cell; have zx := hS1.k.lt
  clear hS1
  obtain ⟨e, A1, n1, c1, ids, A2, n2, c2, pairs, text⟩ := r
  unfold Rep.cells at hW1 kx ⊢
  simp only at hn1 hn2 htx hW1 kx hl1 hl2 HX1 HX2 HX3
  go_enter Tryd.func10, Tryd.ntmps10
  go_upto_region 2 with fail
  clear hW1
  have zn : n1 ≤ 140737488351232 ∧ n2 ≤ 140737488351232 := by omega
  go_upto_region 3 with (go_at_call 23; (refine ((HS1.out.al (Obj.cells #[.int .i64 e, .int .i64 n1] TInt)).ints HG.out (some ⟨W1.heap.size, 0, none⟩) 2 2 [e, (n1 : Int)] (ia_two W1 _ e n1) (in_two H.out.he (by omega)) (by simp)).mono ?_); rintro e2 w2 ⟨rfl, h2⟩; rw [List.nil_append, HX1.out] at h2; have ky := h2.k.cell; have zy := h2.k.lt; have HS2 := hide h2; unfold Rep.cells at ky; simp only at ky; clear h2 kx zx)
  go_upto_region 4 with (go_at_call 23; (refine (HS2.out.ints HG.out A1 n1 c1 ids (ia_sl (H.out.s1.below HS2.out.b) HS2.out.b.size) H.out.i1 (by rw [Y1.out]; omega)).mono ?_); rintro e2 w3 ⟨rfl, h2⟩; rw [HX2.out] at h2; have kx := h2.k.cell; have zx := h2.k.lt; have HS3 := hide h2; unfold Rep.cells at kx; simp only at kx; clear h2 ky zy)
  go_upto_region 5 with (go_at_call 23; (refine ((HS3.out.al (Obj.cells #[.int .i64 n2] TInt)).ints HG.out (some ⟨w3.heap.size, 0, none⟩) 1 1 [(n2 : Int)] (ia_one w3 _ n2) (in_one (by omega)) (by have := Y2.out; omega)).mono ?_); rintro e2 w4 ⟨rfl, h2⟩; rw [HX3.out] at h2; have ky := h2.k.cell; have zy := h2.k.lt; have HS4 := hide h2; unfold Rep.cells at ky; simp only at ky; clear h2 kx zx)
  go_wp2
  clear ky zy
  go_loopw [29] (fun i wr => ∃ k : Nat, k ≤ n2 ∧ i = .int .i64 k ∧ Hid (RepS w ⟨e, A1, n1, c1, ids, A2, n2, c2, pairs, text⟩ (xs3 ++ pairWords (pairs.take k)) wr)) (fun i _ => n2 - (intOf i).toNat)
  case atStart => exact ⟨0, by omega, rfl, hide (by simpa [pairWords] using HS4.out)⟩
  case round =>
    obtain ⟨k, hk, rfl, HI⟩ := hrel
    have kx := HI.out.k.cell
    have zx := HI.out.k.lt
    unfold Rep.cells at kx
    simp only at kx
    by_cases hlt : k < n2
    · obtain ⟨bg, o, rfl, hbg, hc⟩ := Sl.at (H.out.s2.below HI.out.b) (fun _ => rfl) (by omega) (by simp only; omega)
      obtain ⟨p, hp⟩ : ∃ p, pairs[k]'(by omega) = p := ⟨_, rfl⟩
      have c0 := hc k (by simp only; omega) 0 _ rfl
      have c1' := hc k (by simp only; omega) 1 _ rfl
      simp only [Nat.add_zero] at c0 c1' hp
      have hpi := H.out.i2 p (by simp only; rw [← hp]; exact List.getElem_mem _)
      have htk := pw_take pairs k (by omega)
      rw [hp] at c0 c1' htk
      obtain ⟨pa, pb⟩ := p
      simp only at c0 c1' htk hpi
      have HPI := hide hpi
      have HTK := hide htk
      have z0 : bg < wr.heap.size := Nat.lt_of_lt_of_le hbg HI.out.b.size
      clear hc hp hpi htk kx zx
      have hcall := ((HI.out.al (Obj.cells #[.int .i64 pa, .int .i64 pb] 63)).al (Obj.cells #[.int .i64 pa, .int .i64 pb] TInt)).ints HG.out (some ⟨(wr.alloc (Obj.cells #[.int .i64 pa, .int .i64 pb] 63)).heap.size, 0, none⟩) 2 2 [pa, pb] (ia_two _ _ pa pb) (in_two HPI.out.1 HPI.out.2) (by rw [List.length_append, pw_len, List.length_take]; have := Y3.out; omega)
      rw [show (wr.alloc (Obj.cells #[.int .i64 pa, .int .i64 pb] 63)).heap.size = wr.heap.size + 1 by simp] at hcall
      have HCALL := hide hcall
      clear hcall
      go_wp2_with (go_at_call 23; (refine HCALL.out.mono ?_); rintro e2 w5 ⟨rfl, h2⟩; rw [List.append_assoc, ← HTK.out] at h2; have HS5 := hide h2; clear h2)
      go_roundw
      case rel => exact ⟨k + 1, by omega, by go_num, HS5⟩
      case measure => simp [intOf]; omega
    · have hkn : k = n2 := by omega
      have HS6 := hide (show RepS w ⟨e, A1, n1, c1, ids, A2, n2, c2, pairs, text⟩ (xs3 ++ pairWords pairs) wr by
        have := HI.out
        rw [List.take_of_length_le (by omega)] at this
        exact this)
      have hw : xs3 ++ pairWords pairs ++ [hex text] = Rep.words ⟨e, A1, n1, c1, ids, A2, n2, c2, pairs, text⟩ := by
        unfold Rep.words
        rw [← HX3.out, ← HX2.out, ← HX1.out]
      have HWW := hide hw
      have hwl : (xs3 ++ pairWords pairs ++ [hex text]).length ≤ 2000 := by
        rw [List.length_append, List.length_append, pw_len]; have := Y3.out; simp; omega
      have HWL := hide hwl
      clear hw hwl HI hkn
      go_wp2_with (first | (go_at_call 24; (refine (HS6.out.text HG.out text (by omega) (by have := HWL.out; rw [List.length_append] at this; simp only [List.length_singleton] at this; omega)).mono ?_); rintro e2 w5 ⟨rfl, h2⟩; have HS7 := hide h2; clear h2) | (go_at_call 25; (refine (HS7.out.line (by simp) (by have := HWL.out; omega) (by rw [HWW.out]; have := HJL.out; unfold Rep.line at this; omega)).mono ?_); rintro e2 w6 ⟨rfl, h2⟩; rw [HWW.out]; have HB6 := hide h2; clear h2))
      go_ret
      exact ⟨rfl, HB6.out⟩
end Go.Proofs.YtcdhngppcpgojaaDoor
