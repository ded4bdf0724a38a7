/- PagerRoom. -/
import Derived.Test.YtddcmockdomonaaPgZd
namespace Go.Proofs.Ytddcmockdomonaa
set_option linter.unusedSimpArgs false
set_option linter.unusedVariables false
open Go.RowKit
/-- How many pages are as a test says. -/
def cntP (p : UInt8 → Bool) (st : Cn) : Nat := (st.drop 2).countP p
theorem cnt_room (st : Cn) : roomN st = cntP (fun x => x.toNat == 0) st := rfl
theorem cnt_le (p : UInt8 → Bool) (st : Cn) : cntP p st ≤ st.length - 2 := by
  unfold cntP
  have := List.countP_le_length (p := p) (l := st.drop 2)
  rw [List.length_drop] at this
  exact this
theorem cnt_set (p : UInt8 → Bool) (st : Cn) (a : Nat) (x : UInt8) (h2 : 2 ≤ a) (hl : a < st.length) : cntP p (st.set a x) + (if p (st.getD a 0) then 1 else 0) = cntP p st + (if p x then 1 else 0) := by
  have hg0 : st.getD a 0 = st[a] := by rw [List.getD_eq_getElem?_getD, List.getElem?_eq_getElem hl]; rfl
  rw [hg0]
  unfold cntP
  have hd : (st.set a x).drop 2 = (st.drop 2).set (a - 2) x := by
    apply List.ext_getElem?
    intro i
    rw [List.getElem?_drop, List.getElem?_set, List.getElem?_set, List.getElem?_drop, List.length_drop]
    by_cases h : a = 2 + i
    · rw [if_pos h, if_pos (by omega : a - 2 = i)]
      by_cases h' : a < st.length
      · rw [if_pos h', if_pos (by omega)]
      · rw [if_neg h', if_neg (by omega)]
    · rw [if_neg h, if_neg (by omega : ¬ a - 2 = i)]
  have hl2 : a - 2 < (st.drop 2).length := by rw [List.length_drop]; omega
  have hg : (st.drop 2)[a - 2]'hl2 = st[a] := by
    rw [List.getElem_drop]
    congr 1
    omega
  rw [hd, List.countP_set hl2, hg]
  have hc : (if p st[a] then 1 else 0) ≤ (st.drop 2).countP p := by
    split
    · next h => exact List.countP_pos_iff.2 ⟨_, List.getElem_mem hl2, by rw [hg]; exact h⟩
    · omega
  omega
theorem cnt_map (p : UInt8 → Bool) (f : UInt8 → UInt8) (st : Cn) : cntP p (st.map f) = cntP (p ∘ f) st := by
  unfold cntP
  rw [← List.map_drop, List.countP_map]
theorem cnt_full {p : UInt8 → Bool} {st : Cn} (h : cntP p st = st.length - 2) (q : UInt8 → Bool) (b : Bool) (hq : ∀ x, p x = true → q x = b) : cntP q st = if b then st.length - 2 else 0 := by
  unfold cntP at h ⊢
  rw [← List.length_drop, List.countP_eq_length] at h
  cases b
  · exact List.countP_eq_zero.2 (fun x hx => by rw [hq x (h x hx)]; decide)
  · rw [if_pos rfl, ← List.length_drop]
    exact List.countP_eq_length.2 (fun x hx => hq x (h x hx))
/-- Pages, no two the same, that are all in one state turn. -/
theorem cnt_fold (p : UInt8 → Bool) (u : UInt8 → UInt8) (v : UInt8) : ∀ (xs : List Nat) (st : Cn), xs.Nodup → (∀ x ∈ xs, 2 ≤ x ∧ x < st.length ∧ st.getD x 0 = v) →
    cntP p ((xs.map (fun (x : Nat) => (x : Int))).foldl (updN u) st) + (if p v then xs.length else 0) = cntP p st + (if p (u v) then xs.length else 0)
  | [], st, _, _ => by simp
  | a :: xs, st, hn, h => by
    obtain ⟨h2, hl, hv⟩ := h a List.mem_cons_self
    have hn' := List.nodup_cons.1 hn
    have e : updN u st (a : Int) = st.set a (u v) := by unfold updN; rw [Int.toNat_natCast, hv]
    have ih := cnt_fold p u v xs (st.set a (u v)) hn'.2 (fun x hx => by
      have := h x (List.mem_cons_of_mem _ hx)
      refine ⟨this.1, by rw [List.length_set]; exact this.2.1, ?_⟩
      rw [List.getD_eq_getElem?_getD, List.getElem?_set_ne (fun e => hn'.1 (by rw [e]; exact hx)), ← List.getD_eq_getElem?_getD]
      exact this.2.2)
    have hs := cnt_set p st a (u v) h2 hl
    rw [List.map_cons, List.foldl_cons, e]
    rw [hv] at hs
    rw [List.length_cons]
    cases hp : p v <;> cases hq : p (u v) <;> rw [hp, hq] at hs <;> rw [hp, hq] at ih <;> simp at hs ih ⊢ <;> omega
theorem int_info : (Try.prog.info? TI).map (fun i => (i.zero, i.size, i.bytes)) = some (some (.int .i64 0), 1, 8) := by kernel_rfl
theorem Pg.grown {w w' : World} {F : Nat → Prop} {pb sb db n : Nat} {left : Int} {S : Int → Cn} {L : List (Int × Cn)} {N : Nat} {seq root frm : Int} {st : Cn} {r : Option Nat} (h : Pg w F pb sb db n left S L N seq root frm st) (hg : w.grownBy w' r) (hp : r ≠ some pb) (hs : r ≠ some sb) (hF : ∀ g, r = some g → ¬ F g) : Pg w' F pb sb db n left S L N seq root frm st :=
  { h with
    sec := h.sec.apart (G := fun j => r = some j) (Fr.of_grown hg (fun k e => e)) (fun j hj e => hF j e hj)
    blk := h.blk.grown hg (fun e => hp e.symm)
    sblk := h.sblk.grown hg (fun e => hs e.symm) }
def ints (xs : List Nat) : List Value := xs.map (fun (x : Nat) => Value.int .i64 (x : Int))
/-- The state of PagerRoom: the pages of xs are taken; the slice tells ys. -/
def RmI (w wr : World) (pb sb db n : Nat) (V : Value) (xs ys : List Nat) : Prop :=
  ∃ (F : Nat → Prop) (S : Int → Cn) (L : List (Int × Cn)) (frm : Int) (st : Cn), Pg wr F pb sb db n 0 S L xs.length 0 0 frm st ∧ roomN st + xs.length = n - 2 ∧ cntP (fun x => x.toNat == 1) st = xs.length ∧ xs.Nodup ∧ (∀ x ∈ xs, 2 ≤ x ∧ x < n ∧ st.getD x 0 = 1) ∧
    wr.ownsRow w.heap.size TI 1 V ys.length (ints ys) ∧ (∀ g, V.ownBlock = some g → ¬ F g) ∧ Below w.heap.size w wr ∧ ∀ j, F j → w.heap.size ≤ j
theorem row_fr {w w' : World} {F : Nat → Prop} {base : Nat} {e : TypeId} {size : Nat} {v : Value} {n : Nat} {xs : List Value} (h : w.ownsRow base e size v n xs) (hf : Fr F w w') (hv : ∀ g, v.ownBlock = some g → ¬ F g) : w'.ownsRow base e size v n xs :=
  row_keep h (fun g hg => hf.block g (by
    rcases h.2 with ⟨rfl, _⟩ | ⟨g', cap, cur, rfl, _, hh, _⟩
    · simp [Value.ownBlock] at hg
    · simp [Value.ownBlock] at hg; subst hg; exact (Array.getElem?_eq_some_iff.1 hh).1) (hv g hg))
theorem room_new {w wr : World} {pb sb db n : Nat} {V : Value} {xs : List Nat} (h : RmI w wr pb sb db n V xs xs) (hlt : xs.length < n - 2) (hpb : w.heap.size ≤ pb) (hsb : w.heap.size ≤ sb) (k : Nat) (hk : k < 256) (hn : n ≤ 70) :
    Calls Try.prog 10 #[.pointer (some ⟨pb, 0, none⟩), .slice (some ⟨wr.heap.size, 0, none⟩) 1 1] (wr.alloc (.cells #[.int .u8 (k : Int)] T8)) fun e w' =>
      ∃ a : Nat, e = .returned (.tuple #[.int .i64 a, .int .i64 0]) ∧ a ∉ xs ∧ RmI w w' pb sb db n V (xs ++ [a]) xs := by
  obtain ⟨F, S, L, frm, st, hp, hroom, hone, hnd, hin, hV, hVF, hb, hF⟩ := h
  have hb1 := hb.trans ((al_below wr (.cells #[.int .u8 (k : Int)] T8)).mono hb.size)
  have hrb : RB (wr.alloc (.cells #[.int .u8 (k : Int)] T8)) (wr.alloc (.cells #[.int .u8 (k : Int)] T8)).heap.size (some ⟨wr.heap.size, 0, none⟩) 1 [UInt8.ofNat k] := by
    refine RB.of_blk (l := [UInt8.ofNat k]) ?_ (by simp)
    rw [cs8_one_k k hk]
    exact Blk.new _ _ _
  have hVl := own_later hV (al_below wr (.cells #[.int .u8 (k : Int)] T8))
  refine (pnew_free (hp.below (al_below _ _)) _ 1 1 [UInt8.ofNat k] hrb (by decide) (by omega) (by omega)).mono ?_
  rintro e w' ⟨⟨a, F', rfl, h2, h64, hf, hp', hg⟩, hfr⟩
  have ha : a ∉ xs := fun ha => by
    have := (hin a ha).2.2
    obtain ⟨hl, h0⟩ := hf
    rw [List.getD_eq_getElem?_getD, List.getElem?_eq_getElem hl] at this
    simp only [Option.getD_some] at this
    rw [this] at h0
    exact absurd h0 (by decide)
  have hal : a < st.length := hf.1
  have hgd : st.getD a 0 = st[a] := by rw [List.getD_eq_getElem?_getD, List.getElem?_eq_getElem hal]; rfl
  have hlen : (xs ++ [a]).length = xs.length + 1 := by simp
  have hPF : ∀ g, V.ownBlock = some g → ¬ PF F pb sb g := fun g hg h => by
    rcases h with h | rfl | rfl
    · exact hVF g hg h
    · exact own_blk_ne hV hp.blk (by decide) hg
    · exact own_blk_ne hV hp.sblk (by decide) hg
  refine ⟨a, rfl, ha, F', S, L ++ [((a : Int), sealC 2 [UInt8.ofNat k])], (a : Int) - 1, st.set a 1, ?_, ?_, ?_, ?_, ?_, row_fr hVl hfr hPF, ?_, hb1.trans (PF.below hfr hb1.size hF hpb hsb), hg.low hb1.size hF⟩
  · rw [hlen]; exact hp'
  · have := room_take st a h2 hf
    rw [hlen]; omega
  · have := cnt_set (fun x => x.toNat == 1) st a 1 h2 hal
    rw [hgd] at this
    obtain ⟨_, h0⟩ := hf
    simp only [h0] at this
    rw [hlen]
    simp at this
    omega
  · rw [List.nodup_append]
    refine ⟨hnd, by simp, fun x hx y hy => ?_⟩
    rw [List.mem_singleton] at hy
    exact fun e => ha (by rw [← hy, ← e]; exact hx)
  · intro x hx
    rcases List.mem_append.1 hx with hx | hx
    · refine ⟨(hin x hx).1, (hin x hx).2.1, ?_⟩
      rw [List.getD_eq_getElem?_getD, List.getElem?_set_ne (fun e => ha (by rw [e]; exact hx)), ← List.getD_eq_getElem?_getD]
      exact (hin x hx).2.2
    · rw [List.mem_singleton] at hx
      subst hx
      exact ⟨h2, h64, set_getD st x 1 hal⟩
  · intro g hg' hF'
    rcases hg g hF' with h | h
    · exact hVF g hg' h
    · rcases hV.2 with ⟨rfl, _⟩ | ⟨g', cap, cur, rfl, _, hh, _⟩
      · simp [Value.ownBlock] at hg'
      · simp [Value.ownBlock] at hg'
        subst hg'
        have := (Array.getElem?_eq_some_iff.1 hh).1
        simp at h
        omega
theorem room_append {w wr w3 : World} {pb sb db n : Nat} {V V' : Value} {xs ys : List Nat} {a : Nat} (h : RmI w wr pb sb db n V xs ys)
    (ho : w3.ownsRow w.heap.size TI 1 V' (ys.length + 1) (ints ys ++ [.int .i64 (a : Int)])) (hg : (wr.alloc (.cells #[.int .i64 (a : Int)] TI)).grownBy w3 V.ownBlock) (hor : V'.ownBlock = V.ownBlock ∨ V'.ownBlock = some (wr.alloc (.cells #[.int .i64 (a : Int)] TI)).heap.size) : RmI w w3 pb sb db n V' xs (ys ++ [a]) := by
  obtain ⟨F, S, L, frm, st, hp, hroom, hone, hnd, hin, hV, hVF, hb, hF⟩ := h
  have hb1 := al_below wr (.cells #[.int .i64 (a : Int)] TI)
  have hVl := own_later hV hb1
  refine ⟨F, S, L, frm, st, (hp.below hb1).grown hg (fun e => own_blk_ne hV hp.blk (by decide) e) (fun e => own_blk_ne hV hp.sblk (by decide) e) hVF, hroom, hone, hnd, hin, ?_, ?_, ?_, hF⟩
  · unfold ints at ho ⊢
    rw [List.map_append, List.length_append]
    exact ho
  · intro g hg'
    rcases hor with e | e
    · exact hVF g (e ▸ hg')
    · rw [e] at hg'
      injection hg' with hg'
      intro hFg
      have := hp.sec.lt g hFg
      simp at hg'
      omega
  · refine (hb.trans (hb1.mono hb.size)).trans ?_
    refine ⟨hg.os, hg.tape, hg.output, hg.size, fun j hj => hg.block j (by have := hb.size; simp; omega) (fun e => ?_)⟩
    rcases hV.2 with ⟨rfl, _⟩ | ⟨g', cap, cur, rfl, hbg, hh, _⟩
    · simp [Value.ownBlock] at e
    · simp [Value.ownBlock] at e
      omega
end Go.Proofs.Ytddcmockdomonaa
