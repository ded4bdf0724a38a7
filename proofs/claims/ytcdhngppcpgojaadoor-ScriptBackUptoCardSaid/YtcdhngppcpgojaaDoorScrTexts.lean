/- Acts of a text: both ToScripts; the law ScriptTexts returns true. -/
import Derived.Test.YtcdhngppcpgojaaDoorScrBk
namespace Go.Proofs.YtcdhngppcpgojaaDoor
set_option linter.unusedSimpArgs false
set_option linter.unusedVariables false
open Go.RowKit
theorem Wt.topT {base : Nat} {w : World} (h : Wt base w) : Wt w.heap.size w := ⟨h.t, h.k, h.e1, h.e2, h.m, Nat.le_trans h.b9 h.bw, Nat.le_refl _⟩
/-- A text's lines that are ended, and what is behind them. -/
def lnsL : List UInt8 → List (List UInt8) × List UInt8
  | [] => ([], [])
  | c :: r => if c = 10 then ([] :: (lnsL r).1, (lnsL r).2) else match lnsL r with
    | ([], t) => ([], c :: t)
    | (x :: ls, t) => ((c :: x) :: ls, t)
theorem lns_none : ∀ (s : List UInt8), (∀ c ∈ s, c ≠ 10) → lnsL s = ([], s)
  | [], _ => rfl
  | c :: r, h => by
    rw [lnsL, if_neg (h c (List.mem_cons_self ..)), lns_none r (fun d hd => h d (List.mem_cons_of_mem _ hd))]
theorem lns_hit : ∀ (a r : List UInt8), (∀ c ∈ a, c ≠ 10) → lnsL (a ++ 10 :: r) = (a :: (lnsL r).1, (lnsL r).2)
  | [], r, _ => by rw [List.nil_append, lnsL, if_pos rfl]
  | c :: a, r, h => by
    rw [List.cons_append, lnsL, if_neg (h c (List.mem_cons_self ..)), lns_hit a r (fun d hd => h d (List.mem_cons_of_mem _ hd))]
theorem lns_count : ∀ s : List UInt8, (lnsL s).1.length ≤ s.length
  | [] => Nat.le_refl _
  | c :: r => by
    have := lns_count r
    rw [lnsL]
    split
    · simp; omega
    · split
      · simp
      · rename_i x ls t he
        rw [he] at this
        simp at this ⊢; omega
theorem cut_one (r : List UInt8) : (∃ l m, r = l ++ 10 :: m ∧ (∀ c ∈ l, c ≠ 10) ∧ Lib.cut r [10] = (l, m, true)) ∨ ((∀ c ∈ r, c ≠ 10) ∧ Lib.cut r [10] = (r, [], false)) := by
  rcases idx1 10 r with ⟨h1, h2⟩ | ⟨a, m, h1, h2, h3⟩
  · right
    refine ⟨h2, ?_⟩
    unfold Lib.cut
    rw [if_neg (by rw [h1]; decide)]
  · left
    refine ⟨a, m, h1, h2, ?_⟩
    unfold Lib.cut
    rw [if_pos (by rw [h3]; omega), h3, h1]
    simp
def PB (l : List UInt8) : Prop := ∃ z, Parse (wordsL l) z
/-- The j-th line is the first that is none. -/
def BadAt (s : List UInt8) (j : Nat) : Prop := j ≤ (lnsL s).1.length ∧ (∀ i, i < j → PB ((lnsL s).1.getD i [])) ∧ ((j < (lnsL s).1.length ∧ ¬ PB ((lnsL s).1.getD j [])) ∨ (j = (lnsL s).1.length ∧ (lnsL s).2 ≠ []))
def AllGood (s : List UInt8) : Prop := (lnsL s).2 = [] ∧ ∀ i, i < (lnsL s).1.length → PB ((lnsL s).1.getD i [])
theorem BadAt.one {s : List UInt8} {i j : Nat} (h : BadAt s i) (k : BadAt s j) : i = j := by
  obtain ⟨a1, a2, a3⟩ := h
  obtain ⟨b1, b2, b3⟩ := k
  rcases Nat.lt_trichotomy i j with e | e | e
  · rcases a3 with ⟨c1, c2⟩ | ⟨c1, c2⟩
    · exact absurd (b2 i e) c2
    · omega
  · exact e
  · rcases b3 with ⟨c1, c2⟩ | ⟨c1, c2⟩
    · exact absurd (a2 j e) c2
    · omega
theorem BadAt.not {s : List UInt8} {j : Nat} (h : BadAt s j) (k : AllGood s) : False := by
  obtain ⟨a1, a2, a3⟩ := h
  rcases a3 with ⟨c1, c2⟩ | ⟨c1, c2⟩
  · exact c2 (k.2 j c1)
  · exact c2 k.1
/-- The acts of these lines. -/
structure TI (w : World) (ls : List (List UInt8)) (v : Value) (ys : List Ac) (wr : World) : Prop where
  b : Below w.heap.size w wr
  f : ys.length = ls.length ∧ ∀ i (h : i < ys.length), ∃ z, Parse (wordsL (ls.getD i [])) z ∧ (ys[i]).bare = z.bare
  p : ∀ y ∈ ys, Pth wr w.heap.size y
  g : ∀ y ∈ ys, y.path.length = y.p ∧ y.p ≤ 128 ∧ ∀ q ∈ y.path, in64 q.1 ∧ in64 q.2
  o : wr.ownsRow w.heap.size TAct 10 v ys.length (ys.flatMap Ac.enc)
theorem TI.later {w wr w' : World} {ls : List (List UInt8)} {v : Value} {ys : List Ac} (h : TI w ls v ys wr) (hb : Below wr.heap.size wr w') : TI w ls v ys w' :=
  ⟨h.b.trans (hb.mono h.b.size), h.f, fun y hy => own_later (h.p y hy) hb, h.g, own_later h.o hb⟩
theorem TI.pb {w wr : World} {ls : List (List UInt8)} {v : Value} {ys : List Ac} (h : TI w ls v ys wr) : ∀ i, i < ls.length → PB (ls.getD i []) := fun i hi => by
  obtain ⟨z, hz, _⟩ := h.f.2 i (by rw [h.f.1]; exact hi)
  exact ⟨z, hz⟩
theorem TI.add {w wr w1 w' : World} {ls : List (List UInt8)} {l : List UInt8} {v v' : Value} {ys : List Ac} {y : Ac} {base : Nat} (h : TI w ls v ys wr) (hf : ToF base (wordsL l) y true w1) (hp : Pth wr w.heap.size y) (hg : wr.grownBy w' v.ownBlock) (ho : w'.ownsRow w.heap.size TAct 10 v' (ys.length + 1) (ys.flatMap Ac.enc ++ y.enc)) : TI w (ls ++ [l]) v' (ys ++ [y]) w' := by
  have hk2 : ∀ z, Pth wr w.heap.size z → Pth w' w.heap.size z := fun z hz => row_keep hz (fun g hg' => hg.block g (hz.lt g hg').2 (row_apart hz h.o (by decide) g hg'))
  refine ⟨h.b.trans (grown_below h.o hg h.b.size), ⟨by simp [h.f.1], fun i hi => ?_⟩, fun z hz => ?_, fun z hz => ?_, by simpa using ho⟩
  · have hle := h.f.1
    rcases Nat.lt_or_ge i ys.length with h1 | h1
    · obtain ⟨z, hz, e⟩ := h.f.2 i h1
      refine ⟨z, ?_, ?_⟩
      · have : (ls ++ [l]).getD i [] = ls.getD i [] := by
          rw [List.getD_eq_getElem?_getD, List.getD_eq_getElem?_getD, List.getElem?_append_left (by omega)]
        rw [this]; exact hz
      · rw [List.getElem_append_left h1]; exact e
    · have hi2 : i = ys.length := by simp at hi; omega
      subst hi2
      obtain ⟨z, hz, e⟩ := hf.yes rfl
      refine ⟨z, ?_, ?_⟩
      · have : (ls ++ [l]).getD ys.length [] = l := by
          rw [List.getD_eq_getElem?_getD, h.f.1]
          simp
        rw [this]; exact hz
      · simpa using e
  · rcases List.mem_append.1 hz with h1 | h1
    · exact hk2 z (h.p z h1)
    · simp at h1; subst h1; exact hk2 _ hp
  · rcases List.mem_append.1 hz with h1 | h1
    · exact h.g z h1
    · simp at h1; subst h1; exact ⟨hf.l.symm, hf.b, hf.i⟩
theorem TI.nil (w : World) : TI w [] (.slice none 0 0) [] w := ⟨Below.refl _ _, ⟨rfl, fun i h => absurd h (Nat.not_lt_zero _)⟩, (fun y hy => by cases hy), (fun y hy => by cases hy), World.ownsRow_nil _ _ _ _⟩
def ret3 (v : Value) (n er : Int) : Ending := .returned (.tuple #[v, .int .i64 n, .int .i64 er])
/-- What is answered of a text. -/
def TsP (w : World) (s : List UInt8) (e : Ending) (w' : World) : Prop :=
  (262144 < s.length ∧ e = ret3 (.slice none 0 0) 0 12) ∨ (s.length ≤ 262144 ∧ (
    (∃ j : Nat, BadAt s j ∧ e = ret3 (.slice none 0 0) (j + 1) 11) ∨
    (AllGood s ∧ 4096 < (lnsL s).1.length ∧ e = ret3 (.slice none 0 0) 0 12) ∨
    (AllGood s ∧ (lnsL s).1.length ≤ 4096 ∧ ∃ A c ys, e = ret3 (.slice A (lnsL s).1.length c) 0 0 ∧ TI w (lnsL s).1 (.slice A (lnsL s).1.length c) ys w')))
theorem cut_call (r : List UInt8) (w : World) (hl : r.length ≤ 262144) (hm : ∃ m, w.cell? ⟨2, 0, none⟩ = some (.int .i64 m)) {l m : List UInt8} {b : Bool} (h : Lib.cut r [10] = (l, m, b)) :
    Calls Tryd.prog 44 #[str r, .string ⟨#[10]⟩] w fun e w' => e = .returned (.tuple #[str l, str m, .bool b]) ∧ Below w.heap.size w w' := by
  obtain ⟨k, hm⟩ := hm
  have hh := Tryd.strings_Cut ⟨r.toArray⟩ ⟨#[10]⟩ k w (by rw [str_size]; omega) hm
  rw [show (⟨r.toArray⟩ : ByteArray).data.toList = r by simp, show (⟨#[10]⟩ : ByteArray).data.toList = [10] from rfl, h] at hh
  refine hh.mono ?_
  rintro e w' ⟨rfl, n, rfl⟩
  exact ⟨rfl, bdn w n⟩
structure TrI (w : World) (s : List UInt8) (done : List (List UInt8)) (rest : List UInt8) (v : Value) (ys : List Ac) (wr : World) : Prop where
  t : TI w done v ys wr
  e : lnsL s = (done ++ (lnsL rest).1, (lnsL rest).2)
  l : rest.length ≤ s.length
theorem TrI.bad {w wr : World} {s rest : List UInt8} {done : List (List UInt8)} {v : Value} {ys : List Ac} (h : TrI w s done rest v ys wr) (hb : (∃ l r t, lnsL rest = (l :: r, t) ∧ ¬ PB l) ∨ ((lnsL rest).1 = [] ∧ (lnsL rest).2 ≠ [])) : BadAt s done.length := by
  have e1 : (lnsL s).1 = done ++ (lnsL rest).1 := by rw [h.e]
  have e2 : (lnsL s).2 = (lnsL rest).2 := by rw [h.e]
  refine ⟨by rw [e1, List.length_append]; omega, fun i hi => ?_, ?_⟩
  · have := h.t.pb i hi
    rw [e1, List.getD_eq_getElem?_getD, List.getElem?_append_left hi, ← List.getD_eq_getElem?_getD]
    exact this
  · rcases hb with ⟨l, r, t, h1, h2⟩ | ⟨h1, h2⟩
    · left
      rw [h1] at e1
      refine ⟨by rw [e1]; simp, ?_⟩
      rw [e1, List.getD_eq_getElem?_getD]
      simpa using h2
    · right
      rw [e1, e2, h1]
      exact ⟨by simp, h2⟩
theorem TrI.done {w wr : World} {s : List UInt8} {done : List (List UInt8)} {v : Value} {ys : List Ac} (h : TrI w s done [] v ys wr) : AllGood s ∧ (lnsL s).1 = done := by
  have e : lnsL s = (done, []) := by rw [h.e]; simp [lnsL]
  refine ⟨⟨by rw [e], fun i hi => ?_⟩, by rw [e]⟩
  rw [e] at hi ⊢
  exact h.t.pb i hi
def strOf : Value → Nat
  | .string b => b.size
  | _ => 0
set_option maxRecDepth 100000 in
set_option maxHeartbeats 4000000 in
theorem toscript_any (s : List UInt8) (w : World) (ht : Wt w.heap.size w) :
    Calls Tryd.prog 20 #[str s] w fun e w' => TsP w s e w' ∧ Below w.heap.size w w' := by
  have HT := hide ht
  obtain ⟨i0, hi0, hz0, hz1, hz2⟩ := info_parts act_info
  have HI0 := hide hi0
  have HZ0 := hide hz0
  clear ht hi0 hz0
  by_cases hbig : 262144 < s.length
  · have HP := hide (show TsP w s (ret3 (.slice none 0 0) 0 12) w from .inl ⟨hbig, rfl⟩)
    have hI : (262144 : Int) < s.length := by omega
    go_enter Tryd.func20, Tryd.ntmps20
    go_wp2_with fail
    refine bodyPost_ret (v := .tuple #[.slice none 0 0, .int .i64 0, .int .i64 12]) (by simp [results, Tryd.results20, go_sem]) rfl ⟨HP.out, Below.refl _ _⟩
  · have hI : ¬ (262144 : Int) < s.length := by omega
    have hsm : s.length ≤ 262144 := by omega
    have HSM := hide hsm
    clear hbig
    go_enter Tryd.func20, Tryd.ntmps20
    go_upto_region 3 with fail
    clear hI
    go_wp2_with fail
    go_loopw [2, 5] (fun v r wr => ∃ (done : List (List UInt8)) (rest : List UInt8) (ys : List Ac) (A' : Option Addr) (c' k : Nat), v = .slice A' k c' ∧ r = str rest ∧ Hid (k = ys.length) ∧ Hid (TrI w s done rest (.slice A' k c') ys wr)) (fun _ r _ => strOf r)
    case atStart => exact ⟨[], s, [], none, 0, 0, rfl, rfl, hide rfl, hide ⟨TI.nil w, by simp, Nat.le_refl _⟩⟩
    case round =>
      obtain ⟨done, rest, ys, A', c', k, rfl, rfl, HK, HI⟩ := hrel
      have hkb : k ≤ 262144 := by
        have h1 := HI.out.t.f.1
        have h2 := lns_count s
        rw [HI.out.e, List.length_append] at h2
        have := HK.out
        omega
      by_cases hem : rest = []
      · subst hem
        obtain ⟨hg, hd⟩ := HI.out.done
        have hkl : k = (lnsL s).1.length := by rw [hd, HK.out, HI.out.t.f.1]
        by_cases h4 : 4096 < k
        · have HP := hide (show TsP w s (ret3 (.slice none 0 0) 0 12) wr from .inr ⟨HSM.out, .inr (.inl ⟨hg, by omega, rfl⟩)⟩)
          have h4I : (4096 : Int) < k := by omega
          clear hg hd hkl
          go_wp2_with fail
          refine bodyPost_ret (v := .tuple #[.slice none 0 0, .int .i64 0, .int .i64 12]) (by simp [results, Tryd.results20, go_sem]) rfl ⟨HP.out, HI.out.t.b⟩
        · have HP := hide (show TsP w s (ret3 (.slice A' k c') 0 0) wr from by
            refine .inr ⟨HSM.out, .inr (.inr ⟨hg, by omega, A', c', ys, by rw [← hkl], ?_⟩)⟩
            have := HI.out.t
            rw [← hd, hkl] at this
            exact this)
          have h4I : ¬ (4096 : Int) < k := by omega
          clear hg hd hkl
          go_wp2_with fail
          refine bodyPost_ret (v := .tuple #[.slice A' k c', .int .i64 0, .int .i64 0]) (by simp [results, Tryd.results20, go_sem]) rfl ⟨HP.out, HI.out.t.b⟩
      · have hee : rest.isEmpty = false := by simpa using hem
        have hrl : rest.length ≤ 262144 := Nat.le_trans HI.out.l HSM.out
        have htw := (HT.out.below HI.out.t.b).topT
        have HKD := hide (show (k : Int) = done.length by rw [HK.out, HI.out.t.f.1])
        rcases cut_one rest with ⟨l, m, hr, hl10, hcut⟩ | ⟨hr10, hcut⟩
        · have HC := hide (cut_call rest wr hrl htw.m hcut)
          have hln : lnsL rest = (l :: (lnsL m).1, (lnsL m).2) := by rw [hr]; exact lns_hit l m hl10
          have HLN := hide hln
          have hml : m.length < rest.length ∧ l.length ≤ 262144 := by rw [hr] at hrl ⊢; simp at hrl ⊢; omega
          have HML := hide hml
          have HTW := hide htw
          clear hr hl10 hcut hln hml htw hrl hem
          go_upto_region 7 with (first | (go_at_call 44; (refine HC.out.mono ?_); rintro e w1 ⟨rfl, hb⟩; have HI1 := hide (HI.out.t.later hb); have HTA := hide (toact_any l w1 ((HTW.out.below (hb.mono (Nat.le_refl _))).topT) (by have := HML.out.2; omega)); clear hb) | (go_at_call 17; (refine HTA.out.mono ?_); rintro e w2 ⟨hT, hb⟩; obtain ⟨y, ok, rfl, hF⟩ := hT.form; have HF := hide hF; have HI2 := hide (HI1.out.later hb); have HS2 := hide (HI1.out.b.size); clear hT hF hb; obtain ⟨kind, a1, n, mask, okind, a, b, A, p, c, path, owner, text⟩ := y; simp only [Ac.cells]))
          cases ok
          · have HP := hide (fun w' => show TsP w s (ret3 (.slice none 0 0) (k + 1) 11) w' from by
              rw [HKD.out]
              exact .inr ⟨HSM.out, .inl ⟨done.length, HI.out.bad (.inl ⟨l, _, _, HLN.out, fun ⟨z, hz⟩ => (HF.out.no rfl).2 z hz⟩), rfl⟩⟩)
            have HB2 := hide (HI2.out.b.trans (((Below.refl _ _).alloc (Nat.le_refl _) (Obj.cells #[.int .i64 kind, .int .i64 a1, .int .i64 n, .int .u64 mask, .int .i64 okind, .int .i64 a, .int .i64 b, .slice A p c, str owner, str text] TAct)).mono HI2.out.b.size))
            go_wp2_with fail
            refine bodyPost_ret (v := .tuple #[.slice none 0 0, .int .i64 (k + 1), .int .i64 11]) (by simp [results, Tryd.results20, go_sem]) rfl ⟨HP.out _, HB2.out⟩
          · have hb8 : Below w2.heap.size w2 (w2.alloc (Obj.cells #[.int .i64 kind, .int .i64 a1, .int .i64 n, .int .u64 mask, .int .i64 okind, .int .i64 a, .int .i64 b, .slice A p c, str owner, str text] TAct)) := (Below.refl _ _).alloc (Nat.le_refl _) _
            obtain ⟨W3, hW3, hk3, hI3, hp3⟩ : ∃ W3, w2.alloc (Obj.cells #[.int .i64 kind, .int .i64 a1, .int .i64 n, .int .u64 mask, .int .i64 okind, .int .i64 a, .int .i64 b, .slice A p c, str owner, str text] TAct) = W3 ∧ Blk W3 w2.heap.size TAct #[.int .i64 kind, .int .i64 a1, .int .i64 n, .int .u64 mask, .int .i64 okind, .int .i64 a, .int .i64 b, .slice A p c, str owner, str text] ∧ TI w done (.slice A' k c') ys W3 ∧ Pth W3 w.heap.size ⟨kind, a1, n, mask, okind, a, b, A, p, c, path, owner, text⟩ :=
              ⟨_, rfl, Blk.new _ _ _, HI2.out.later hb8, own_base (own_later HF.out.r hb8) HS2.out⟩
            rw [hW3]
            have k3 := hk3.cell; have z3 := hk3.lt
            have hb9 : Below W3.heap.size W3 (W3.alloc (Obj.cells #[.int .i64 kind, .int .i64 a1, .int .i64 n, .int .u64 mask, .int .i64 okind, .int .i64 a, .int .i64 b, .slice A p c, str owner, str text] TAct)) := (Below.refl _ _).alloc (Nat.le_refl _) _
            have HI4 := hide (hI3.later hb9)
            have HP4 := hide (own_later hp3 hb9)
            have HA4 := hide (reads_cs W3 TAct #[.int .i64 kind, .int .i64 a1, .int .i64 n, .int .u64 mask, .int .i64 okind, .int .i64 a, .int .i64 b, .slice A p c, str owner, str text])
            have HL4 := hide HI4.out.b.size
            have HO4 := hide (show (W3.alloc (Obj.cells #[.int .i64 kind, .int .i64 a1, .int .i64 n, .int .u64 mask, .int .i64 okind, .int .i64 a, .int .i64 b, .slice A p c, str owner, str text] TAct)).ownsRow w.heap.size TAct 10 (.slice A' k c') k (ys.flatMap Ac.enc) by have := HI4.out.o; rw [← HK.out] at this; exact this)
            clear hW3 hk3 hI3 hp3 hb8 hb9
            go_wp2_with (at_builtin; (refine wpList_append_any _ rfl (.tmp 37) (.tmp 39) _ rfl w.heap.size TAct i0 _ 10 112 Tryd.underlying30 HI0.out HZ0.out hz1 hz2 rfl (by omega) (.slice A' k c') k (ys.flatMap Ac.enc) rfl HO4.out (W3.heap.size + 1) (some ⟨W3.heap.size, 0, none⟩) 1 1 (Ac.enc ⟨kind, a1, n, mask, okind, a, b, A, p, c, path, owner, text⟩) rfl HA4.out (enc_one _) (by unfold maxLen; omega) (by omega) HL4.out ?_); intro v' w9 ho hgr _; obtain ⟨A9, c9, rfl⟩ := row_form ho; have HR9 := hide (HI4.out.add HF.out HP4.out hgr (by rw [← HK.out]; exact ho)); clear ho hgr)
            go_roundw
            case rel =>
              refine ⟨done ++ [l], m, ys ++ [⟨kind, a1, n, mask, okind, a, b, A, p, c, path, owner, text⟩], A9, c9, k + 1, rfl, rfl, hide (by simp [HK.out]), hide ⟨?_, ?_, ?_⟩⟩
              · exact HR9.out
              · rw [HI.out.e, HLN.out]; simp
              · have := HI.out.l; have := HML.out.1; omega
            case measure =>
              have := HML.out.1
              have h1 := str_size m
              have h2 := str_size rest
              simp [strOf]; omega
        · have HC := hide (cut_call rest wr hrl htw.m hcut)
          have HLN := hide (lns_none rest hr10)
          have HTW := hide htw
          have hrl2 := hrl
          have HRL := hide hrl2
          have HP := hide (fun w' => show TsP w s (ret3 (.slice none 0 0) (k + 1) 11) w' from by
              rw [HKD.out]
              exact .inr ⟨HSM.out, .inl ⟨done.length, HI.out.bad (.inr ⟨by rw [HLN.out], by rw [HLN.out]; exact hem⟩), rfl⟩⟩)
          clear hr10 hcut htw hem hrl hrl2
          go_upto_region 7 with (first | (go_at_call 44; (refine HC.out.mono ?_); rintro e w1 ⟨rfl, hb⟩; have HI1 := hide (HI.out.t.later hb); have HTA := hide (toact_any rest w1 ((HTW.out.below (hb.mono (Nat.le_refl _))).topT) (by have := HRL.out; omega)); clear hb) | (go_at_call 17; (refine HTA.out.mono ?_); rintro e w2 ⟨hT, hb⟩; obtain ⟨y, ok, rfl, hF⟩ := hT.form; have HI2 := hide (HI1.out.later hb); clear hT hF hb; obtain ⟨kind, a1, n, mask, okind, a, b, A, p, c, path, owner, text⟩ := y; simp only [Ac.cells]))
          have HB2 := hide (HI2.out.b.trans (((Below.refl _ _).alloc (Nat.le_refl _) (Obj.cells #[.int .i64 kind, .int .i64 a1, .int .i64 n, .int .u64 mask, .int .i64 okind, .int .i64 a, .int .i64 b, .slice A p c, str owner, str text] TAct)).mono HI2.out.b.size))
          cases ok
          all_goals
            go_wp2_with fail
            refine bodyPost_ret (v := .tuple #[.slice none 0 0, .int .i64 (k + 1), .int .i64 11]) (by simp [results, Tryd.results20, go_sem]) rfl ⟨HP.out _, HB2.out⟩
structure RtI (w : World) (s : List UInt8) (done : List (List UInt8)) (f q : Nat) (v : Value) (ys : List Ac) (wr : World) : Prop where
  t : TrI w s done (s.drop f) v ys wr
  fq : f ≤ q
  n : ∀ c ∈ (s.drop f).take (q - f), c ≠ 10
theorem ln_pass {s : List UInt8} {k f : Nat} (hk : k < s.length) (hc : s[k] ≠ 10) (hf : f ≤ k) (h2 : ∀ c ∈ (s.drop f).take (k - f), c ≠ 10) : ∀ c ∈ (s.drop f).take (k + 1 - f), c ≠ 10 := by
  intro c hcm
  rw [show k + 1 - f = (k - f) + 1 by omega, List.take_succ_eq_append_getElem (by rw [List.length_drop]; omega)] at hcm
  rcases List.mem_append.1 hcm with h | h
  · exact h2 c h
  · simp at h
    subst h
    simpa [show f + (k - f) = k by omega] using hc
theorem ln_hit {s : List UInt8} {k f : Nat} (hk : k < s.length) (hc : s[k] = 10) (hf : f ≤ k) (h2 : ∀ c ∈ (s.drop f).take (k - f), c ≠ 10) : lnsL (s.drop f) = ((s.drop f).take (k - f) :: (lnsL (s.drop (k + 1))).1, (lnsL (s.drop (k + 1))).2) := by
  have e : s.drop f = (s.drop f).take (k - f) ++ 10 :: s.drop (k + 1) := by
    have h3 : s.drop k = 10 :: s.drop (k + 1) := by rw [List.drop_eq_getElem_cons hk, hc]
    have h4 : (s.drop f).drop (k - f) = s.drop k := by rw [List.drop_drop]; congr 1; omega
    rw [← h3, ← h4, List.take_append_drop]
  have := lns_hit _ (s.drop (k + 1)) h2
  rw [← e] at this
  exact this
theorem ln_end {s : List UInt8} {k f : Nat} (hk : k = s.length) (h2 : ∀ c ∈ (s.drop f).take (k - f), c ≠ 10) : lnsL (s.drop f) = ([], s.drop f) := by
  have e : (s.drop f).take (k - f) = s.drop f := List.take_of_length_le (by rw [List.length_drop]; omega)
  rw [e] at h2
  exact lns_none _ h2
set_option maxRecDepth 100000 in
set_option maxHeartbeats 4000000 in
theorem rtoscript_any (s : List UInt8) (w : World) :
    Calls Tryd.prog 21 #[str s] w fun e w' => TsP w s e w' ∧ Below w.heap.size w w' := by
  obtain ⟨i0, hi0, hz0, hz1, hz2⟩ := info_parts act_info
  have HI0 := hide hi0
  have HZ0 := hide hz0
  clear hi0 hz0
  by_cases hbig : 262144 < s.length
  · have HP := hide (show TsP w s (ret3 (.slice none 0 0) 0 12) w from .inl ⟨hbig, rfl⟩)
    have hI : (262144 : Int) < s.length := by omega
    go_enter Tryd.func21, Tryd.ntmps21
    go_wp2_with fail
    refine bodyPost_ret (v := .tuple #[.slice none 0 0, .int .i64 0, .int .i64 12]) (by simp [results, Tryd.results21, go_sem]) rfl ⟨HP.out, Below.refl _ _⟩
  · have hI : ¬ (262144 : Int) < s.length := by omega
    have hsm : s.length ≤ 262144 := by omega
    have HSM := hide hsm
    clear hbig
    go_enter Tryd.func21, Tryd.ntmps21
    go_upto_region 3 with fail
    clear hI
    go_wp2_with fail
    go_loopw [5, 6, 7] (fun v f i wr => ∃ (done : List (List UInt8)) (f' q : Nat) (ys : List Ac) (A' : Option Addr) (c' k : Nat), q ≤ s.length ∧ v = .slice A' k c' ∧ f = .int .i64 f' ∧ i = .int .i64 q ∧ Hid (k = ys.length) ∧ Hid (RtI w s done f' q (.slice A' k c') ys wr)) (fun _ _ i _ => s.length - (intOf i).toNat)
    case atStart => exact ⟨[], 0, 0, [], none, 0, 0, by omega, rfl, rfl, rfl, hide rfl, hide ⟨⟨TI.nil w, by simp, by simp⟩, Nat.le_refl _, by simp⟩⟩
    case round =>
      obtain ⟨done, f, q, ys, A', c', k, hq, rfl, rfl, rfl, HK, HI⟩ := hrel
      have hkb : k ≤ 262144 := by
        have h1 := HI.out.t.t.f.1
        have h2 := lns_count s
        rw [HI.out.t.e, List.length_append] at h2
        have := HK.out
        omega
      have HKD := hide (show (k : Int) = done.length by rw [HK.out, HI.out.t.t.f.1])
      have hfq := HI.out.fq
      by_cases hlt : q < s.length
      · have hltI : (q : Int) < s.length := by omega
        have hsz : q < (⟨s.toArray⟩ : ByteArray).size := by rw [str_size]; exact hlt
        by_cases hc : s[q] = 10
        · have hcb : ((⟨s.toArray⟩ : ByteArray)[q]'hsz).toNat = 10 := by
            show s[q].toNat = 10
            rw [hc]; rfl
          obtain ⟨l, hY⟩ : ∃ Y, (s.drop f).take (q - f) = Y := ⟨_, rfl⟩
          have hex := extr s f q
          rw [hY] at hex
          have HLN := hide (ln_hit hlt hc hfq HI.out.n)
          rw [hY] at HLN
          have hll : l.length ≤ 600000000 := by rw [← hY, List.length_take, List.length_drop]; omega
          have HTA := hide (rtoact_any l wr hll)
          have hfI : (f : Int) ≤ q := by omega
          have hqI : (q : Int) ≤ s.length := by omega
          clear hc hY hll
          go_upto_region 10 with (go_at_call 19; (refine HTA.out.mono ?_); rintro e w2 ⟨hT, hb⟩; obtain ⟨y, ok, rfl, hF⟩ := hT.form; have HF := hide hF; have HI2 := hide (HI.out.t.t.later hb); have HS2 := hide (HI.out.t.t.b.size); clear hT hF hb; obtain ⟨kind, a1, n, mask, okind, a, b, A, p, c, path, owner, text⟩ := y; simp only [Ac.cells])
          cases ok
          · have HP := hide (fun w' => show TsP w s (ret3 (.slice none 0 0) (k + 1) 11) w' from by
              rw [HKD.out]
              exact .inr ⟨HSM.out, .inl ⟨done.length, HI.out.t.bad (.inl ⟨l, _, _, HLN.out, fun ⟨z, hz⟩ => (HF.out.no rfl).2 z hz⟩), rfl⟩⟩)
            have HB2 := hide (HI2.out.b.trans (((Below.refl _ _).alloc (Nat.le_refl _) (Obj.cells #[.int .i64 kind, .int .i64 a1, .int .i64 n, .int .u64 mask, .int .i64 okind, .int .i64 a, .int .i64 b, .slice A p c, str owner, str text] TAct)).mono HI2.out.b.size))
            go_wp2_with fail
            refine bodyPost_ret (v := .tuple #[.slice none 0 0, .int .i64 (k + 1), .int .i64 11]) (by simp [results, Tryd.results21, go_sem]) rfl ⟨HP.out _, HB2.out⟩
          · have hb8 : Below w2.heap.size w2 (w2.alloc (Obj.cells #[.int .i64 kind, .int .i64 a1, .int .i64 n, .int .u64 mask, .int .i64 okind, .int .i64 a, .int .i64 b, .slice A p c, str owner, str text] TAct)) := (Below.refl _ _).alloc (Nat.le_refl _) _
            obtain ⟨W3, hW3, hk3, hI3, hp3⟩ : ∃ W3, w2.alloc (Obj.cells #[.int .i64 kind, .int .i64 a1, .int .i64 n, .int .u64 mask, .int .i64 okind, .int .i64 a, .int .i64 b, .slice A p c, str owner, str text] TAct) = W3 ∧ Blk W3 w2.heap.size TAct #[.int .i64 kind, .int .i64 a1, .int .i64 n, .int .u64 mask, .int .i64 okind, .int .i64 a, .int .i64 b, .slice A p c, str owner, str text] ∧ TI w done (.slice A' k c') ys W3 ∧ Pth W3 w.heap.size ⟨kind, a1, n, mask, okind, a, b, A, p, c, path, owner, text⟩ :=
              ⟨_, rfl, Blk.new _ _ _, HI2.out.later hb8, own_base (own_later HF.out.r hb8) HS2.out⟩
            rw [hW3]
            have k3 := hk3.cell; have z3 := hk3.lt
            have hb9 : Below W3.heap.size W3 (W3.alloc (Obj.cells #[.int .i64 kind, .int .i64 a1, .int .i64 n, .int .u64 mask, .int .i64 okind, .int .i64 a, .int .i64 b, .slice A p c, str owner, str text] TAct)) := (Below.refl _ _).alloc (Nat.le_refl _) _
            have HI4 := hide (hI3.later hb9)
            have HP4 := hide (own_later hp3 hb9)
            have HA4 := hide (reads_cs W3 TAct #[.int .i64 kind, .int .i64 a1, .int .i64 n, .int .u64 mask, .int .i64 okind, .int .i64 a, .int .i64 b, .slice A p c, str owner, str text])
            have HL4 := hide HI4.out.b.size
            have HO4 := hide (show (W3.alloc (Obj.cells #[.int .i64 kind, .int .i64 a1, .int .i64 n, .int .u64 mask, .int .i64 okind, .int .i64 a, .int .i64 b, .slice A p c, str owner, str text] TAct)).ownsRow w.heap.size TAct 10 (.slice A' k c') k (ys.flatMap Ac.enc) by have := HI4.out.o; rw [← HK.out] at this; exact this)
            clear hW3 hk3 hI3 hp3 hb8 hb9 hex hcb hsz
            go_wp2_with (at_builtin; (refine wpList_append_any _ rfl (.tmp 36) (.tmp 38) _ rfl w.heap.size TAct i0 _ 10 112 Tryd.underlying30 HI0.out HZ0.out hz1 hz2 rfl (by omega) (.slice A' k c') k (ys.flatMap Ac.enc) rfl HO4.out (W3.heap.size + 1) (some ⟨W3.heap.size, 0, none⟩) 1 1 (Ac.enc ⟨kind, a1, n, mask, okind, a, b, A, p, c, path, owner, text⟩) rfl HA4.out (enc_one _) (by unfold maxLen; omega) (by omega) HL4.out ?_); intro v' w9 ho hgr _; obtain ⟨A9, c9, rfl⟩ := row_form ho; have HR9 := hide (HI4.out.add HF.out HP4.out hgr (by rw [← HK.out]; exact ho)); clear ho hgr)
            go_roundw
            case rel =>
              refine ⟨done ++ [l], q + 1, q + 1, ys ++ [⟨kind, a1, n, mask, okind, a, b, A, p, c, path, owner, text⟩], A9, c9, k + 1, by omega, rfl, by go_num, by go_num, hide (by simp [HK.out]), hide ⟨⟨HR9.out, ?_, ?_⟩, Nat.le_refl _, by simp⟩⟩
              · rw [HI.out.t.e, HLN.out]; simp
              · rw [List.length_drop]; omega
            case measure => simp [intOf]; omega
        · obtain ⟨c, hcc⟩ : ∃ c, s[q].toNat = c := ⟨_, rfl⟩
          have hcb : ((⟨s.toArray⟩ : ByteArray)[q]'hsz).toNat = c := hcc
          have hc2 : ¬ (c : Int) = 10 := fun e => hc (UInt8.toNat_inj.1 (show s[q].toNat = 10 by omega))
          have HE := hide (ln_pass hlt hc hfq HI.out.n)
          clear hc hcc
          go_wp2_with fail
          go_roundw
          case rel => exact ⟨done, f, q + 1, ys, A', c', k, by omega, rfl, by go_num, by go_num, HK, hide ⟨HI.out.t, by omega, HE.out⟩⟩
          case measure => simp [intOf]; omega
      · have hqe : q = s.length := by omega
        have HE := hide (ln_end hqe HI.out.n)
        have hltI : ¬ (q : Int) < s.length := by omega
        by_cases hfl : f < s.length
        · have HP := hide (fun w' => show TsP w s (ret3 (.slice none 0 0) (k + 1) 11) w' from by
              rw [HKD.out]
              refine .inr ⟨HSM.out, .inl ⟨done.length, HI.out.t.bad (.inr ⟨by rw [HE.out], ?_⟩), rfl⟩⟩
              rw [HE.out]
              intro e
              have := congrArg List.length e
              rw [List.length_drop] at this
              simp at this; omega)
          have hflI : (f : Int) < s.length := by omega
          clear hqe
          go_wp2_with fail
          refine bodyPost_ret (v := .tuple #[.slice none 0 0, .int .i64 (k + 1), .int .i64 11]) (by simp [results, Tryd.results21, go_sem]) rfl ⟨HP.out _, HI.out.t.t.b⟩
        · have hdr : s.drop f = [] := List.drop_eq_nil_of_le (by omega)
          have ht := HI.out.t
          rw [hdr] at ht
          obtain ⟨hg, hd⟩ := ht.done
          have hkl : k = (lnsL s).1.length := by rw [hd, HK.out, ht.t.f.1]
          have hflI : ¬ (f : Int) < s.length := by omega
          by_cases h4 : 4096 < k
          · have HP := hide (show TsP w s (ret3 (.slice none 0 0) 0 12) wr from .inr ⟨HSM.out, .inr (.inl ⟨hg, by omega, rfl⟩)⟩)
            have h4I : (4096 : Int) < k := by omega
            clear hg hd hkl hqe ht hdr
            go_wp2_with fail
            refine bodyPost_ret (v := .tuple #[.slice none 0 0, .int .i64 0, .int .i64 12]) (by simp [results, Tryd.results21, go_sem]) rfl ⟨HP.out, HI.out.t.t.b⟩
          · have HP := hide (show TsP w s (ret3 (.slice A' k c') 0 0) wr from by
              refine .inr ⟨HSM.out, .inr (.inr ⟨hg, by omega, A', c', ys, by rw [← hkl], ?_⟩)⟩
              have := ht.t
              rw [← hd, hkl] at this
              exact this)
            have h4I : ¬ (4096 : Int) < k := by omega
            clear hg hd hkl hqe ht hdr
            go_wp2_with fail
            refine bodyPost_ret (v := .tuple #[.slice A' k c', .int .i64 0, .int .i64 0]) (by simp [results, Tryd.results21, go_sem]) rfl ⟨HP.out, HI.out.t.t.b⟩
/-- A list of acts that may be read. -/
structure SLs (w : World) (A : Option Addr) (n : Nat) (ys : List Ac) : Prop where
  sl : Sl 10 Ac.enc w w.heap.size A n ys
  ok : ∀ y ∈ ys, Sl 2 pEnc w w.heap.size y.A y.p y.path ∧ y.p ≤ 4000000
theorem SLs.below {w w' : World} {A : Option Addr} {n : Nat} {ys : List Ac} (h : SLs w A n ys) (hb : Below w.heap.size w w') : SLs w' A n ys :=
  ⟨(h.sl.below hb).more hb.size, fun y hy => ⟨((h.ok y hy).1.below hb).more hb.size, (h.ok y hy).2⟩⟩
theorem SLs.nil (w : World) : SLs w none 0 [] := ⟨Sl.nil _, fun y hy => by cases hy⟩
theorem TI.sls {w wr : World} {ls : List (List UInt8)} {k c : Nat} {A : Option Addr} {ys : List Ac} (h : TI w ls (.slice A k c) ys wr) (hk : k = ys.length) : SLs wr A k ys := by
  have ho := h.o
  rw [← hk] at ho
  exact ⟨⟨hk.symm, Reads.of_own ho⟩, fun y hy => ⟨⟨(h.g y hy).1, Reads.of_own (h.p y hy)⟩, by have := (h.g y hy).2.1; omega⟩⟩
/-- Which acts, which line, which answer. -/
def TsK (s : List UInt8) (xs : List Ac) (n er : Int) : Prop :=
  (262144 < s.length ∧ xs = [] ∧ n = 0 ∧ er = 12) ∨ (s.length ≤ 262144 ∧ (
    (∃ j : Nat, BadAt s j ∧ xs = [] ∧ n = j + 1 ∧ er = 11) ∨
    (AllGood s ∧ 4096 < (lnsL s).1.length ∧ xs = [] ∧ n = 0 ∧ er = 12) ∨
    (AllGood s ∧ (lnsL s).1.length ≤ 4096 ∧ n = 0 ∧ er = 0 ∧ xs.length = (lnsL s).1.length ∧ ∀ i (h : i < xs.length), ∃ z, Parse (wordsL ((lnsL s).1.getD i [])) z ∧ (xs[i]).bare = z.bare)))
theorem TsK.agree {s : List UInt8} {xs ys : List Ac} {n m er fr : Int} (h : TsK s xs n er) (k : TsK s ys m fr) : n = m ∧ er = fr ∧ xs.length = ys.length ∧ ∀ i (h1 : i < xs.length) (h2 : i < ys.length), (xs[i]).bare = (ys[i]).bare := by
  have hnil : ∀ (a b : List Ac), a = [] → b = [] → a.length = b.length ∧ ∀ i (h1 : i < a.length) (h2 : i < b.length), (a[i]).bare = (b[i]).bare := by
    intro a b ha hb
    subst ha hb
    exact ⟨rfl, fun i h1 => absurd h1 (Nat.not_lt_zero _)⟩
  rcases h with ⟨a1, a2, a3, a4⟩ | ⟨a0, ⟨j, a1, a2, a3, a4⟩ | ⟨a1, a5, a2, a3, a4⟩ | ⟨a1, a5, a3, a4, a6, a7⟩⟩
  · rcases k with ⟨b1, b2, b3, b4⟩ | ⟨b0, _⟩
    · exact ⟨by rw [a3, b3], by rw [a4, b4], hnil _ _ a2 b2⟩
    · omega
  · rcases k with ⟨b0, _⟩ | ⟨b0, ⟨j', b1, b2, b3, b4⟩ | ⟨b1, _⟩ | ⟨b1, _⟩⟩
    · omega
    · obtain rfl := a1.one b1
      exact ⟨by rw [a3, b3], by rw [a4, b4], hnil _ _ a2 b2⟩
    · exact (a1.not b1).elim
    · exact (a1.not b1).elim
  · rcases k with ⟨b0, _⟩ | ⟨b0, ⟨j', b1, _⟩ | ⟨b1, b5, b2, b3, b4⟩ | ⟨b1, b5, _⟩⟩
    · omega
    · exact (b1.not a1).elim
    · exact ⟨by rw [a3, b3], by rw [a4, b4], hnil _ _ a2 b2⟩
    · omega
  · rcases k with ⟨b0, _⟩ | ⟨b0, ⟨j', b1, _⟩ | ⟨b1, b5, _⟩ | ⟨b1, b5, b3, b4, b6, b7⟩⟩
    · omega
    · exact (b1.not a1).elim
    · omega
    · refine ⟨by rw [a3, b3], by rw [a4, b4], by rw [a6, b6], fun i h1 h2 => ?_⟩
      obtain ⟨z, hz, e1⟩ := a7 i h1
      obtain ⟨z', hz', e2⟩ := b7 i h2
      rw [e1, e2]
      exact hz.same hz'
theorem TsP.form {w : World} {s : List UInt8} {e : Ending} {w' : World} (h : TsP w s e w') : ∃ (A : Option Addr) (k c : Nat) (n er : Int) (xs : List Ac), e = .returned (.tuple #[.slice A k c, .int .i64 n, .int .i64 er]) ∧ k = xs.length ∧ k ≤ 4096 ∧ SLs w' A k xs ∧ TsK s xs n er := by
  rcases h with ⟨a1, a2⟩ | ⟨a0, ⟨j, a1, a2⟩ | ⟨a1, a5, a2⟩ | ⟨a1, a5, A, c, ys, a2, a3⟩⟩
  · exact ⟨none, 0, 0, 0, 12, [], a2, rfl, by omega, SLs.nil _, .inl ⟨a1, rfl, rfl, rfl⟩⟩
  · exact ⟨none, 0, 0, j + 1, 11, [], a2, rfl, by omega, SLs.nil _, .inr ⟨a0, .inl ⟨j, a1, rfl, rfl, rfl⟩⟩⟩
  · exact ⟨none, 0, 0, 0, 12, [], a2, rfl, by omega, SLs.nil _, .inr ⟨a0, .inr (.inl ⟨a1, a5, rfl, rfl, rfl⟩)⟩⟩
  · exact ⟨A, (lnsL s).1.length, c, 0, 0, ys, a2, a3.f.1.symm, a5, a3.sls a3.f.1.symm, .inr ⟨a0, .inr (.inr ⟨a1, a5, rfl, rfl, a3.f.1, a3.f.2⟩)⟩⟩
set_option maxRecDepth 100000 in
set_option maxHeartbeats 2000000 in
theorem samel_any (xs ys : List Ac) (A A' : Option Addr) (n c c' : Nat) (w : World) (hx : SLs w A n xs) (hy : SLs w A' n ys) (he : ∀ i (h1 : i < xs.length) (h2 : i < ys.length), (xs[i]).bare = (ys[i]).bare) (hn : n ≤ 4000000) :
    Calls Tryd.prog 22 #[.slice A n c, .slice A' n c'] w fun e w' => e = .returned (.bool true) ∧ Below w.heap.size w w' := by
  have HX := hide hx
  have HY := hide hy
  have HE := hide he
  have HXL := hide hx.sl.1
  have HYL := hide hy.sl.1
  clear hx hy he
  go_enter Tryd.func22, Tryd.ntmps22
  go_upto_region 2 with fail
  go_loopw [5] (fun i wr => ∃ k : Nat, k ≤ n ∧ i = .int .i64 k ∧ Hid (Below w.heap.size w wr)) (fun i _ => n - (intOf i).toNat)
  case atStart => exact ⟨0, by omega, rfl, hide (Below.refl _ _)⟩
  case round =>
    obtain ⟨k, hk, rfl, HI⟩ := hrel
    by_cases hlt : k < n
    · have hltI : (k : Int) < n := by omega
      have hsx := HX.out.below HI.out
      have hsy := HY.out.below HI.out
      have h1 : k < xs.length := by rw [HXL.out]; exact hlt
      have h2 : k < ys.length := by rw [HYL.out]; exact hlt
      have hbe := HE.out k h1 h2
      obtain ⟨g1, o1, rfl, hg1, hc1⟩ := hsx.sl.at Ac.enc_len (by omega) (by omega)
      obtain ⟨g2, o2, rfl, hg2, hc2⟩ := hsy.sl.at Ac.enc_len (by omega) (by omega)
      have hox := hsx.ok _ (List.getElem_mem h1)
      have hoy := hsy.ok _ (List.getElem_mem h2)
      have hcx := hc1 k h1
      have hcy := hc2 k h2
      obtain ⟨x, hxx⟩ : ∃ x, xs[k] = x := ⟨_, rfl⟩
      obtain ⟨y, hyy⟩ : ∃ y, ys[k] = y := ⟨_, rfl⟩
      rw [hxx] at hbe hox hcx
      rw [hyy] at hbe hoy hcy
      have HBE := hide hbe
      have HOX := hide hox
      have HOY := hide hoy
      have HCX := hide (fun w3 (hb : Below wr.heap.size wr w3) j u (h : x.enc[j]? = some u) => (hb.cell (p := ⟨g1, o1 + k * 10 + j, none⟩) hg1).trans (hcx j u h))
      have HCY := hide (fun w3 (hb : Below wr.heap.size wr w3) j u (h : y.enc[j]? = some u) => (hb.cell (p := ⟨g2, o2 + k * 10 + j, none⟩) hg2).trans (hcy j u h))
      have HG1 := hide hg1
      have HG2 := hide hg2
      clear hsx hsy h1 h2 hbe hc1 hc2 hox hoy hcx hcy hxx hyy hg1 hg2
      obtain ⟨kind, s, an, mask, okind, a, b, A, p, pc, path, owner, text⟩ := x
      obtain ⟨kind', s', an', mask', okind', a', b', A', p', pc', path', owner', text'⟩ := y
      go_upto_region 4 with fail
      refine wp_region_stage (by kernel_rfl) (by kernel_rfl) 33 1
        [⟨some 18, false, 0, 0, fun _ v _ => v = .slice (some ⟨g1, o1, none⟩) n c⟩,
         ⟨some 19, false, 0, 0, fun _ v _ => v = .int .i64 k⟩,
         ⟨some 20, false, 0, 0, fun _ v _ => v = .pointer (some ⟨g1, o1 + k * 10, none⟩)⟩,
         ⟨some 21, false, 0, 0, fun _ v _ => v = .agg #[.int .i64 kind, .int .i64 s, .int .i64 an, .int .u64 mask, .int .i64 okind, .int .i64 a, .int .i64 b, .slice A p pc, str owner, str text]⟩,
         ⟨some 22, false, 0, 0, fun _ v _ => v = .slice (some ⟨g2, o2, none⟩) n c'⟩,
         ⟨some 23, false, 0, 0, fun _ v _ => v = .int .i64 k⟩,
         ⟨some 24, false, 0, 0, fun _ v _ => v = .pointer (some ⟨g2, o2 + k * 10, none⟩)⟩,
         ⟨some 25, false, 0, 0, fun _ v _ => v = .agg #[.int .i64 kind', .int .i64 s', .int .i64 an', .int .u64 mask', .int .i64 okind', .int .i64 a', .int .i64 b', .slice A' p' pc', str owner', str text']⟩,
         ⟨some 26, true, 0, 0, fun _ v _ => v = .bool true⟩,
         ⟨some 27, false, 1, 1, fun _ v _ => v = .bool false⟩] (fun _ w' => Below wr.heap.size wr w') (fun _ w w' => True) [18, 19, 20, 21, 22, 23, 24, 25, 26, 27] rfl (by kernel_rfl) rfl ?g0 ?keep ?steps ?fin
      case keep =>
        intro e he s v w w' hm hsM ht hv
        simp only [List.mem_cons, List.not_mem_nil, or_false] at he
        rcases he with rfl | rfl | rfl | rfl | rfl | rfl | rfl | rfl | rfl | rfl
        all_goals first | exact hv
      case steps =>
        refine ⟨?_, ?_, ?_, ?_, ?_, ?_, ?_, ?_, ?_, ?_, trivial⟩
        · intro st hlo hhi ac w3 hg hG hd K hK
          dsimp only at hlo hhi hG hK
          exact op_move _ rfl (hK _ (hg.kp 0 (by simp)))
        · intro st hlo hhi ac w3 hg hG hd K hK
          dsimp only at hlo hhi hG hK
          exact op_move _ rfl (hK _ (hg.kp 5 (by simp)))
        · intro st hlo hhi ac w3 hg hG hd K hK
          dsimp only at hlo hhi hG hK
          have f0 := hd ⟨0, .data⟩ (by simp) rfl _ rfl _ rfl
          have f1 := hd ⟨1, .data⟩ (by simp) rfl _ rfl _ rfl
          simp [Act.eval] at f0 f1
          clear hG
          go_simp
          exact hK _ rfl
        · intro st hlo hhi ac w3 hg hG hd K hK
          dsimp only at hlo hhi hG hK
          have f2 := hd ⟨2, .data⟩ (by simp) rfl _ rfl _ rfl
          simp [Act.eval] at f2
          have c0 := HCX.out w3 hG 0 _ rfl
          have c1 := HCX.out w3 hG 1 _ rfl
          have c2 := HCX.out w3 hG 2 _ rfl
          have c3 := HCX.out w3 hG 3 _ rfl
          have c4 := HCX.out w3 hG 4 _ rfl
          have c5 := HCX.out w3 hG 5 _ rfl
          have c6 := HCX.out w3 hG 6 _ rfl
          have c7 := HCX.out w3 hG 7 _ rfl
          have c8 := HCX.out w3 hG 8 _ rfl
          have c9 := HCX.out w3 hG 9 _ rfl
          have zg : g1 < w3.heap.size := Nat.lt_of_lt_of_le HG1.out hG.size
          simp only [Nat.add_zero] at c0 c1 c2 c3 c4 c5 c6 c7 c8 c9
          clear hG
          go_simp
          exact hK _ rfl
        · intro st hlo hhi ac w3 hg hG hd K hK
          dsimp only at hlo hhi hG hK
          exact op_move _ rfl (hK _ (hg.kp 1 (by simp)))
        · intro st hlo hhi ac w3 hg hG hd K hK
          dsimp only at hlo hhi hG hK
          exact op_move _ rfl (hK _ (hg.kp 5 (by simp)))
        · intro st hlo hhi ac w3 hg hG hd K hK
          dsimp only at hlo hhi hG hK
          have f0 := hd ⟨4, .data⟩ (by simp) rfl _ rfl _ rfl
          have f1 := hd ⟨5, .data⟩ (by simp) rfl _ rfl _ rfl
          simp [Act.eval] at f0 f1
          clear hG
          go_simp
          exact hK _ rfl
        · intro st hlo hhi ac w3 hg hG hd K hK
          dsimp only at hlo hhi hG hK
          have f2 := hd ⟨6, .data⟩ (by simp) rfl _ rfl _ rfl
          simp [Act.eval] at f2
          have c0 := HCY.out w3 hG 0 _ rfl
          have c1 := HCY.out w3 hG 1 _ rfl
          have c2 := HCY.out w3 hG 2 _ rfl
          have c3 := HCY.out w3 hG 3 _ rfl
          have c4 := HCY.out w3 hG 4 _ rfl
          have c5 := HCY.out w3 hG 5 _ rfl
          have c6 := HCY.out w3 hG 6 _ rfl
          have c7 := HCY.out w3 hG 7 _ rfl
          have c8 := HCY.out w3 hG 8 _ rfl
          have c9 := HCY.out w3 hG 9 _ rfl
          have zg : g2 < w3.heap.size := Nat.lt_of_lt_of_le HG2.out hG.size
          simp only [Nat.add_zero] at c0 c1 c2 c3 c4 c5 c6 c7 c8 c9
          clear hG
          go_simp
          exact hK _ rfl
        · intro ac w3 hg hG hd K hK
          dsimp only [Nat.zero_add, Nat.reduceAdd] at hG hK
          have f3 := hd ⟨3, .data⟩ (by simp) rfl _ rfl _ rfl
          have f7 := hd ⟨7, .data⟩ (by simp) rfl _ rfl _ rfl
          simp [Act.eval] at f3 f7
          have HG0 := hide hG
          clear hG
          have HM := hide (same_any ⟨kind, s, an, mask, okind, a, b, A, p, pc, path, owner, text⟩ ⟨kind', s', an', mask', okind', a', b', A', p', pc', path', owner', text'⟩ w3 ((HOX.out.1.below HG0.out).more HG0.out.size) ((HOY.out.1.below HG0.out).more HG0.out.size) ⟨HOX.out.2, HOY.out.2⟩)
          unfold Ac.cells at HM
          go_simp
          (refine HM.out.mono ?_)
          rintro e w4 ⟨⟨t, rfl, ht⟩, hb⟩
          obtain rfl := ht.2 HBE.out
          exact hK _ w4 trivial (HG0.out.trans (hb.mono HG0.out.size)) rfl
        · intro st hlo hhi ac w3 hg hG hd K hK
          dsimp only at hlo hhi hG hK
          have f8 := hd ⟨8, .data⟩ (by simp) rfl _ rfl _ rfl
          simp [Act.eval] at f8
          clear hG
          go_simp
          exact hK _ rfl
      case g0 => exact (Below.refl _ _).drew
      case fin =>
        intro f w5 hG hall
        have h9 := hall _ (List.mem_of_getElem? (i := 9) rfl) 27 rfl
        have HI2 := hide (HI.out.trans (hG.mono HI.out.size))
        clear hall hG
        simp only [fillF, List.map_cons, List.map_nil, List.foldl_cons, List.foldl_nil, Act.put, List.setIfInBounds_toArray, List.set_cons_zero, List.set_cons_succ]
        rw [show f 27 = .bool false from h9]
        clear h9
        go_wp2_with fail
        go_roundw
        case rel => exact ⟨k + 1, by omega, by go_num, HI2⟩
        case measure => simp [intOf]; omega
    · have hltI : ¬ (k : Int) < n := by omega
      go_wp2_with fail
      go_ret
      exact ⟨by simp, HI.out⟩
set_option maxRecDepth 100000 in
set_option maxHeartbeats 2000000 in
theorem texts_any (s : List UInt8) (w : World) (ht : Wt w.heap.size w) :
    Calls Tryd.prog 7 #[str s] w fun e w' => e = .returned (.bool true) ∧ Below w.heap.size w w' := by
  have HC1 := hide (toscript_any s w ht)
  have HC2 := hide (fun w1 => rtoscript_any s w1)
  have HT := hide ht
  clear ht
  go_enter Tryd.func7, Tryd.ntmps7
  go_upto_region 2 with (go_at_call 20; (refine HC1.out.mono ?_); rintro e w1 ⟨hT, hb⟩; obtain ⟨A, k, c, n, er, xs, rfl, hk, hk4, hs, hK⟩ := hT.form; have HK1 := hide hk; have HL1 := hide hk4; have HS1 := hide hs; have HF1 := hide hK; have HB1 := hide hb; clear hT hk hk4 hs hK hb)
  go_upto_region 3 with (go_at_call 21; (refine (HC2.out w1).mono ?_); rintro e w2 ⟨hT, hb⟩; obtain ⟨A', k', c', m, fr, ys, rfl, hk, hk4, hs, hK⟩ := hT.form; have HK2 := hide hk; have HS2 := hide hs; have HF2 := hide hK; have HB2 := hide (HB1.out.trans (hb.mono HB1.out.size)); have HS3 := hide (HS1.out.below hb); clear hT hk hk4 hs hK hb)
  obtain ⟨e1, e2, e3, e4⟩ := HF1.out.agree HF2.out
  have e5 : k' = k := by rw [HK1.out, HK2.out, e3]
  subst e1 e2 e5
  have HE := hide e4
  have HA := hide (answers_any w2 (HT.out.below HB2.out).wd)
  clear e3 e4 HC1 HC2
  go_wp2_with (first | (go_at_call 9; (refine HA.out.mono ?_); rintro e w3 ⟨rfl, hb⟩; have HB3 := hide (HB2.out.trans (hb.mono HB2.out.size)); have HM := hide (samel_any xs ys A A' k' c c' w3 (HS3.out.below hb) (HS2.out.below hb) HE.out (by have := HL1.out; omega)); clear hb) | (go_at_call 22; (refine HM.out.mono ?_); rintro e w4 ⟨rfl, hb⟩; have HB4 := hide (HB3.out.trans (hb.mono HB3.out.size)); clear hb))
  go_ret
  exact ⟨by simp, HB4.out⟩
end Go.Proofs.YtcdhngppcpgojaaDoor
