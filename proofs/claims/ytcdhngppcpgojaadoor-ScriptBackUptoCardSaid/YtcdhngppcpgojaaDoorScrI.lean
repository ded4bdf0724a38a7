/- An act's line. -/
import Derived.Test.YtcdhngppcpgojaaDoorScrH
namespace Go.Proofs.YtcdhngppcpgojaaDoor
set_option linter.unusedSimpArgs false
set_option linter.unusedVariables false
open Go.RowKit
structure GS (w : World) (T : TypeId) (cs : Array Value) (xs : List (List UInt8)) (wr : World) : Prop where
  b : Below w.heap.size w wr
  t : Tab wr
  k : Blk wr w.heap.size T cs
  w : ∃ v, Wr wr w.heap.size (w.heap.size + 1) xs v
theorem GS.step {w wr w' : World} {T : TypeId} {cs : Array Value} {xs ys : List (List UInt8)} {v : Value} (h : GS w T cs xs wr) (hT' : T ≠ TStr ∧ T ≠ TWr) (hT : Tn w.heap.size wr w') (hw : Wr w' w.heap.size (w.heap.size + 1) ys v) (hg : ∃ g, Tryd.prog.globalNamed "internal/strconv.uint64pow10" = some g ∧ g < w.heap.size) : GS w T cs ys w' :=
  ⟨h.b.trans (hT.below h.b.size), hT.tab h.t hg, hT.blk h.k hT'.1 hT'.2, v, hw⟩
theorem GS.al {w wr : World} {T : TypeId} {cs : Array Value} {xs : List (List UInt8)} (h : GS w T cs xs wr) (o : Obj) : GS w T cs xs (wr.alloc o) := by
  have hb : Below wr.heap.size wr (wr.alloc o) := (Below.refl _ _).alloc (Nat.le_refl _) _
  obtain ⟨v, hv⟩ := h.w
  exact ⟨h.b.trans (hb.mono h.b.size), h.t.below hb, h.k.below hb h.k.lt, v, hv.later hb⟩
theorem GS.ints {w wr : World} {T : TypeId} {cs : Array Value} {xs : List (List UInt8)} (h : GS w T cs xs wr) (hT' : T ≠ TStr ∧ T ≠ TWr) (hg : ∃ g, Tryd.prog.globalNamed "internal/strconv.uint64pow10" = some g ∧ g < w.heap.size) (A : Option Addr) (n c : Nat) (ns : List Int) (hr : IA wr w.heap.size A n ns) (hi : inInt ns) (hn : xs.length + n ≤ 4000000) :
    Calls Tryd.prog 23 #[.pointer (some ⟨w.heap.size + 1, 0, none⟩), .slice A n c] wr fun e w' => e = .returned (.tuple #[]) ∧ GS w T cs (xs ++ itos ns) w' := by
  obtain ⟨v, hv⟩ := h.w
  refine (ints_any hv A n c ns hr hi h.t hg hn h.b.size).mono ?_
  rintro e w' ⟨rfl, ⟨v', hv'⟩, hT⟩
  exact ⟨rfl, h.step hT' hT hv' hg⟩
theorem GS.text {w wr : World} {T : TypeId} {cs : Array Value} {xs : List (List UInt8)} (h : GS w T cs xs wr) (hT' : T ≠ TStr ∧ T ≠ TWr) (hg : ∃ g, Tryd.prog.globalNamed "internal/strconv.uint64pow10" = some g ∧ g < w.heap.size) (l : List UInt8) (hl : l.length ≤ 4000000) (hn : xs.length + 1 ≤ 4000000) :
    Calls Tryd.prog 24 #[.pointer (some ⟨w.heap.size + 1, 0, none⟩), str l] wr fun e w' => e = .returned (.tuple #[]) ∧ GS w T cs (xs ++ [hex l]) w' := by
  obtain ⟨v, hv⟩ := h.w
  refine (text_any hv l hl hn h.b.size).mono ?_
  rintro e w' ⟨rfl, ⟨v', hv'⟩, hT⟩
  exact ⟨rfl, h.step hT' hT hv' hg⟩
theorem GS.line {w wr : World} {T : TypeId} {cs : Array Value} {xs : List (List UInt8)} (h : GS w T cs xs wr) (h0 : xs ≠ []) (hn : xs.length ≤ 4000000) (hl : (Lib.join xs [32]).length ≤ 140737488355328) :
    Calls Tryd.prog 25 #[.pointer (some ⟨w.heap.size + 1, 0, none⟩)] wr fun e w' => e = .returned (str (Lib.join xs [32])) ∧ Below w.heap.size w w' := by
  obtain ⟨v, hv⟩ := h.w
  refine (line_any hv h0 hn hl).mono ?_
  rintro e w' ⟨rfl, hb⟩
  exact ⟨rfl, h.b.trans (hb.mono h.b.size)⟩
theorem GS.later {w wr w' : World} {T : TypeId} {cs : Array Value} {xs : List (List UInt8)} (h : GS w T cs xs wr) (hb : Below wr.heap.size wr w') : GS w T cs xs w' := by
  obtain ⟨v, hv⟩ := h.w
  exact ⟨h.b.trans (hb.mono h.b.size), h.t.below hb, h.k.below hb h.k.lt, v, hv.later hb⟩
theorem GS.put {w wr : World} {T : TypeId} {cs : Array Value} {xs : List (List UInt8)} (h : GS w T cs xs wr) (hT' : T ≠ TStr ∧ T ≠ TWr) (hg : ∃ g, Tryd.prog.globalNamed "internal/strconv.uint64pow10" = some g ∧ g < w.heap.size) (x : List UInt8) (hn : xs.length + 1 ≤ 4000000) :
    Calls Tryd.prog 29 #[.pointer (some ⟨w.heap.size + 1, 0, none⟩), .slice (some ⟨wr.heap.size, 0, none⟩) 1 1] (wr.alloc (.cells #[str x] TStr)) fun e w' => e = .returned (.tuple #[]) ∧ GS w T cs (xs ++ [x]) w' := by
  have ha := h.al (Obj.cells #[str x] TStr)
  obtain ⟨v, hv⟩ := ha.w
  refine (put_any (ys := [x]) hv (some ⟨wr.heap.size, 0, none⟩) 1 1 (by have := reads_one wr TStr (str x); simpa using this) hn ha.b.size).mono ?_
  rintro e w' ⟨rfl, ⟨v', hv'⟩, hT⟩
  exact ⟨rfl, ha.step hT' hT hv' hg⟩
def kws : List (List UInt8) := [[], [105, 109, 112, 111, 114, 116], [98, 101, 103, 105, 110], [100, 111], [99, 111, 109, 109, 105, 116], [97, 98, 111, 114, 116], [116, 105, 99, 107], [112, 114, 117, 110, 101], [108, 105, 109, 105, 116], [99, 114, 97, 115, 104], [108, 111, 99, 97, 116, 101], [119, 105, 110, 100, 111, 119], [112, 97, 105, 114, 115], [101, 120, 112, 111, 114, 116], [112, 97, 115, 116]]
def kw (k : Nat) : List UInt8 := kws.getD k []
/-- The table of the kinds' words. -/
def Kn (w : World) : Prop := 0 < w.heap.size ∧ ∀ k, k < 15 → w.cell? ⟨0, k, none⟩ = some (str (kw k))
theorem Kn.below {w w' : World} {B : Nat} (h : Kn w) (hb : Below B w w') (hB : 0 < B) : Kn w' := ⟨Nat.lt_of_lt_of_le h.1 hb.size, fun k hk => (hb.cell hB).trans (h.2 k hk)⟩
abbrev TAct : TypeId := 37
/-- An act. -/
structure Ac where
  kind : Int
  s : Int
  n : Int
  mask : Nat
  okind : Int
  a : Int
  b : Int
  A : Option Addr
  p : Nat
  c : Nat
  path : List (Int × Int)
  owner : List UInt8
  text : List UInt8
def Ac.cells (x : Ac) : Array Value := #[.int .i64 x.kind, .int .i64 x.s, .int .i64 x.n, .int .u64 x.mask, .int .i64 x.okind, .int .i64 x.a, .int .i64 x.b, .slice x.A x.p x.c, str x.owner, str x.text]
def in64 (x : Int) : Prop := -9223372036854775808 ≤ x ∧ x ≤ 9223372036854775807
structure Ac.Ok (x : Ac) (w : World) (B : Nat) : Prop where
  h0 : in64 x.kind
  h1 : in64 x.s
  h2 : in64 x.n
  h3 : x.mask < 18446744073709551616
  h4 : in64 x.okind
  h5 : in64 x.a
  h6 : in64 x.b
  sl : Sl 2 pEnc w B x.A x.p x.path
  hp : ∀ p ∈ x.path, in64 p.1 ∧ in64 p.2
/-- Has it a line? -/
def Ac.good (x : Ac) : Prop := 1 ≤ x.kind ∧ x.kind < 15 ∧ x.p ≤ 128 ∧ x.owner.length ≤ 32
def Ac.words (x : Ac) : List (List UInt8) := [kw x.kind.toNat] ++ itos [x.s, x.n] ++ [Lib.decDigits x.mask] ++ [hex x.text] ++ itos [x.okind, x.a, x.b] ++ [hex x.owner] ++ itos [(x.p : Int)] ++ pairWords x.path
def Ac.line (x : Ac) : List UInt8 := Lib.join x.words [32]
theorem ia_three (w : World) (base : Nat) (a b c : Int) : IA (w.alloc (.cells #[.int .i64 a, .int .i64 b, .int .i64 c] TInt)) base (some ⟨w.heap.size, 0, none⟩) 3 [a, b, c] := by
  refine ⟨rfl, fun _ => ⟨w.heap.size, 0, rfl, by simp, .inr ⟨_, Blk.new _ _ _⟩, fun i x hx => ?_⟩⟩
  rw [(Blk.new w TInt #[.int .i64 a, .int .i64 b, .int .i64 c]).cell, Nat.zero_add]
  match i, hx with
  | 0, hx => simp at hx; subst hx; rfl
  | 1, hx => simp at hx; subst hx; rfl
  | 2, hx => simp at hx; subst hx; rfl
  | i + 3, hx => simp at hx
theorem in_three {x y z : Int} (h : in64 x) (k : in64 y) (l : in64 z) : inInt [x, y, z] := fun u hu => by
  simp at hu
  rcases hu with rfl | rfl | rfl
  · exact h
  · exact k
  · exact l
theorem tact_ne : TAct ≠ TStr ∧ TAct ≠ TWr := by decide
set_option maxRecDepth 100000 in
set_option maxHeartbeats 4000000 in
theorem act_ok (r : Ac) (w : World) (h : r.Ok w w.heap.size) (hgd : r.good) (ht : Tab w) (hkn : Kn w) (hg : ∃ g, Tryd.prog.globalNamed "internal/strconv.uint64pow10" = some g ∧ g < w.heap.size) (htx : r.text.length ≤ 2000000) (hjl : r.line.length ≤ 140737488355328) :
    Calls Tryd.prog 15 #[.agg r.cells] w fun e w' => e = .returned (.tuple #[str r.line, .int .i64 0]) ∧ Below w.heap.size w w' := by
  have H := hide h
  have HT := hide ht
  have HG := hide hg
  have HKN := hide hkn
  have HJL := hide hjl
  obtain ⟨g1, g2, g3, g4⟩ := hgd
  clear h ht hg hjl hkn
  have hl2 := H.out.sl.len
  obtain ⟨xs1, hxs1⟩ : ∃ xs1, [kw r.kind.toNat] = xs1 := ⟨_, rfl⟩
  obtain ⟨xs2, hxs2⟩ : ∃ xs2, xs1 ++ itos [r.s, r.n] = xs2 := ⟨_, rfl⟩
  obtain ⟨xs3, hxs3⟩ : ∃ xs3, xs2 ++ [Lib.decDigits r.mask] = xs3 := ⟨_, rfl⟩
  obtain ⟨xs4, hxs4⟩ : ∃ xs4, xs3 ++ [hex r.text] = xs4 := ⟨_, rfl⟩
  obtain ⟨xs5, hxs5⟩ : ∃ xs5, xs4 ++ itos [r.okind, r.a, r.b] = xs5 := ⟨_, rfl⟩
  obtain ⟨xs6, hxs6⟩ : ∃ xs6, xs5 ++ [hex r.owner] = xs6 := ⟨_, rfl⟩
  obtain ⟨xs7, hxs7⟩ : ∃ xs7, xs6 ++ itos [(r.p : Int)] = xs7 := ⟨_, rfl⟩
  have y1 : xs1.length = 1 := by rw [← hxs1]; rfl
  have y2 : xs2.length = 3 := by rw [← hxs2, List.length_append, itos_len, y1]; rfl
  have y3 : xs3.length = 4 := by rw [← hxs3, List.length_append, y2]; rfl
  have y4 : xs4.length = 5 := by rw [← hxs4, List.length_append, y3]; rfl
  have y5 : xs5.length = 8 := by rw [← hxs5, List.length_append, itos_len, y4]; rfl
  have y6 : xs6.length = 9 := by rw [← hxs6, List.length_append, y5]; rfl
  have y7 : xs7.length = 10 := by rw [← hxs7, List.length_append, itos_len, y6]; rfl
  have HX1 := hide hxs1
  have HX2 := hide hxs2
  have HX3 := hide hxs3
  have HX4 := hide hxs4
  have HX5 := hide hxs5
  have HX6 := hide hxs6
  have HX7 := hide hxs7
  have Y1 := hide y1
  have Y2 := hide y2
  have Y3 := hide y3
  have Y4 := hide y4
  have Y5 := hide y5
  have Y6 := hide y6
  have Y7 := hide y7
  clear hxs1 hxs2 hxs3 hxs4 hxs5 hxs6 hxs7 y1 y2 y3 y4 y5 y6 y7
  obtain ⟨W1, hW1, hS1⟩ : ∃ W1, (w.alloc (Obj.cells r.cells TAct)).alloc (Obj.cells #[.slice none 0 0] TWr) = W1 ∧ GS w TAct r.cells [] W1 := by
    refine ⟨_, rfl, ((Below.refl _ _).alloc (Nat.le_refl _) _).alloc (by simp) _, (HT.out.below ((Below.refl _ _).alloc (Nat.le_refl _) _)).below ((Below.refl _ _).alloc (Nat.le_refl _) _), (Blk.new _ _ _).alloc _, .slice none 0 0, ?_⟩
    have := wr_new (w.alloc (Obj.cells r.cells TAct)) w.heap.size (by simp)
    simpa using this
  have HS1 := hide hS1
  have kx := hS1.k.cell; have zx := hS1.k.lt
  have kn := (HKN.out.below hS1.b HKN.out.1)
  clear hS1
  obtain ⟨kind, s, n, mask, okind, a, b, A, p, c, path, owner, text⟩ := r
  unfold Ac.cells at hW1 kx ⊢
  simp only at htx hW1 kx hl2 HX1 HX2 HX3 HX4 HX5 HX6 HX7 g1 g2 g3 g4
  obtain ⟨kind, rfl⟩ : ∃ k : Nat, kind = (k : Int) := ⟨kind.toNat, by omega⟩
  rw [Int.toNat_natCast] at HX1
  have hk0 := kn.2 kind (by omega)
  have hz0 := kn.1
  have gi1 : (1 : Int) ≤ kind := by omega
  have gi2 : (kind : Int) < 15 := by omega
  have gi3 : (p : Int) ≤ 128 := by omega
  have zn : p ≤ 140737488351232 := by omega
  clear kn
  go_enter Tryd.func15, Tryd.ntmps15
  go_upto_region 4 with fail
  clear hW1
  go_upto_region 5 with (go_at_call 29; (refine (HS1.out.put tact_ne HG.out (kw kind) (by simp)).mono ?_); rintro e2 w2 ⟨rfl, h2⟩; rw [List.nil_append, HX1.out] at h2; have ky := h2.k.cell; have zy := h2.k.lt; have HS2 := hide h2; unfold Ac.cells at ky; simp only at ky; clear h2 kx zx hk0 hz0)
  go_upto_region 6 with (go_at_call 23; (refine ((HS2.out.al (Obj.cells #[.int .i64 s, .int .i64 n] TInt)).ints tact_ne HG.out (some ⟨w2.heap.size, 0, none⟩) 2 2 [s, n] (ia_two w2 _ s n) (in_two H.out.h1 H.out.h2) (by have := Y1.out; omega)).mono ?_); rintro e2 w3 ⟨rfl, h2⟩; rw [HX2.out] at h2; have kx := h2.k.cell; have zx := h2.k.lt; have HS3 := hide h2; unfold Ac.cells at kx; simp only at kx; clear h2 ky zy)
  go_upto_region 7 with (first | (go_at_call 30; (refine (fmtu_any mask w3 H.out.h3 HS3.out.t).mono ?_); rintro e2 w3' ⟨rfl, hb3⟩; have HS3' := hide (HS3.out.later hb3); clear hb3) | (go_at_call 29; (refine (HS3'.out.put tact_ne HG.out (Lib.decDigits mask) (by have := Y2.out; omega)).mono ?_); rintro e2 w4 ⟨rfl, h2⟩; rw [HX3.out] at h2; have ky := h2.k.cell; have zy := h2.k.lt; have HS4 := hide h2; unfold Ac.cells at ky; simp only at ky; clear h2 kx zx))
  go_upto_region 8 with (go_at_call 24; (refine (HS4.out.text tact_ne HG.out text (by omega) (by have := Y3.out; omega)).mono ?_); rintro e2 w5 ⟨rfl, h2⟩; rw [HX4.out] at h2; have kx := h2.k.cell; have zx := h2.k.lt; have HS5 := hide h2; unfold Ac.cells at kx; simp only at kx; clear h2 ky zy)
  go_upto_region 9 with (go_at_call 23; (refine ((HS5.out.al (Obj.cells #[.int .i64 okind, .int .i64 a, .int .i64 b] TInt)).ints tact_ne HG.out (some ⟨w5.heap.size, 0, none⟩) 3 3 [okind, a, b] (ia_three w5 _ okind a b) (in_three H.out.h4 H.out.h5 H.out.h6) (by have := Y4.out; omega)).mono ?_); rintro e2 w6 ⟨rfl, h2⟩; rw [HX5.out] at h2; have ky := h2.k.cell; have zy := h2.k.lt; have HS6 := hide h2; unfold Ac.cells at ky; simp only at ky; clear h2 kx zx)
  go_upto_region 10 with (go_at_call 24; (refine (HS6.out.text tact_ne HG.out owner (by omega) (by have := Y5.out; omega)).mono ?_); rintro e2 w7 ⟨rfl, h2⟩; rw [HX6.out] at h2; have kx := h2.k.cell; have zx := h2.k.lt; have HS7 := hide h2; unfold Ac.cells at kx; simp only at kx; clear h2 ky zy)
  go_upto_region 11 with (go_at_call 23; (refine ((HS7.out.al (Obj.cells #[.int .i64 p] TInt)).ints tact_ne HG.out (some ⟨w7.heap.size, 0, none⟩) 1 1 [(p : Int)] (ia_one w7 _ p) (in_one (by omega)) (by have := Y6.out; omega)).mono ?_); rintro e2 w8 ⟨rfl, h2⟩; rw [HX7.out] at h2; have ky := h2.k.cell; have zy := h2.k.lt; have HS8 := hide h2; unfold Ac.cells at ky; simp only at ky; clear h2 kx zx)
  go_wp2
  clear ky zy
  go_loopw [83] (fun i wr => ∃ k : Nat, k ≤ p ∧ i = .int .i64 k ∧ Hid (GS w TAct (Ac.cells ⟨kind, s, n, mask, okind, a, b, A, p, c, path, owner, text⟩) (xs7 ++ pairWords (path.take k)) wr)) (fun i _ => p - (intOf i).toNat)
  case atStart => exact ⟨0, by omega, rfl, hide (by simpa [pairWords] using HS8.out)⟩
  case round =>
    obtain ⟨k, hk, rfl, HI⟩ := hrel
    have kx := HI.out.k.cell
    have zx := HI.out.k.lt
    unfold Ac.cells at kx
    simp only at kx
    by_cases hlt : k < p
    · obtain ⟨bg, o, rfl, hbg, hc⟩ := Sl.at (H.out.sl.below HI.out.b) (fun _ => rfl) (by omega) (by simp only; omega)
      obtain ⟨q, hp⟩ : ∃ q, path[k]'(by omega) = q := ⟨_, rfl⟩
      have c0 := hc k (by simp only; omega) 0 _ rfl
      have c1' := hc k (by simp only; omega) 1 _ rfl
      simp only [Nat.add_zero] at c0 c1' hp
      have hpi := H.out.hp q (by simp only; rw [← hp]; exact List.getElem_mem _)
      have htk := pw_take path k (by omega)
      rw [hp] at c0 c1' htk
      obtain ⟨pa, pb⟩ := q
      simp only at c0 c1' htk hpi
      have HPI := hide hpi
      have HTK := hide htk
      have z0 : bg < wr.heap.size := Nat.lt_of_lt_of_le hbg HI.out.b.size
      have hcall := ((HI.out.al (Obj.cells #[.int .i64 pa, .int .i64 pb] 74)).al (Obj.cells #[.int .i64 pa, .int .i64 pb] TInt)).ints tact_ne HG.out (some ⟨(wr.alloc (Obj.cells #[.int .i64 pa, .int .i64 pb] 74)).heap.size, 0, none⟩) 2 2 [pa, pb] (ia_two _ _ pa pb) (in_two HPI.out.1 HPI.out.2) (by rw [List.length_append, pw_len, List.length_take]; have := Y7.out; omega)
      rw [show (wr.alloc (Obj.cells #[.int .i64 pa, .int .i64 pb] 74)).heap.size = wr.heap.size + 1 by simp] at hcall
      have HCALL := hide hcall
      clear hcall hc hp hpi htk kx zx
      go_wp2_with (go_at_call 23; (refine HCALL.out.mono ?_); rintro e2 w9 ⟨rfl, h2⟩; rw [List.append_assoc, ← HTK.out] at h2; have HS9 := hide h2; clear h2)
      go_roundw
      case rel => exact ⟨k + 1, by omega, by go_num, HS9⟩
      case measure => simp [intOf]; omega
    · have HSF := hide (show GS w TAct (Ac.cells ⟨kind, s, n, mask, okind, a, b, A, p, c, path, owner, text⟩) (xs7 ++ pairWords path) wr by
        have := HI.out
        rw [List.take_of_length_le (by omega)] at this
        exact this)
      have hw : xs7 ++ pairWords path = Ac.words ⟨kind, s, n, mask, okind, a, b, A, p, c, path, owner, text⟩ := by
        unfold Ac.words
        rw [← HX7.out, ← HX6.out, ← HX5.out, ← HX4.out, ← HX3.out, ← HX2.out, ← HX1.out]
        simp only [Int.toNat_natCast]
      have HWW := hide hw
      have hwl : (xs7 ++ pairWords path).length ≤ 2000 := by
        rw [List.length_append, pw_len]; have := Y7.out; omega
      have HWL := hide hwl
      have HNE := hide (show xs7 ++ pairWords path ≠ [] from fun e => by
        have h1 := Y7.out
        have := congrArg List.length e
        rw [List.length_append] at this
        simp only [List.length_nil] at this
        omega)
      clear hw hwl HI
      go_wp2_with (go_at_call 25; (refine (HSF.out.line HNE.out (by have := HWL.out; omega) (by rw [HWW.out]; have := HJL.out; unfold Ac.line at this; exact this)).mono ?_); rintro e2 w9 ⟨rfl, h2⟩; rw [HWW.out]; have HB9 := hide h2; clear h2)
      refine bodyPost_ret (v := .tuple #[str (Lib.join (Ac.words ⟨kind, s, n, mask, okind, a, b, A, p, c, path, owner, text⟩) [32]), .int .i64 0]) (by simp [results, Tryd.results15, go_sem]) rfl ⟨rfl, HB9.out⟩
end Go.Proofs.YtcdhngppcpgojaaDoor
