/- PagerRoom: behind the loop. -/
import Derived.Test.YtddcmockdomonaaPgRoom
namespace Go.Proofs.Ytddcmockdomonaa
set_option linter.unusedSimpArgs false
set_option linter.unusedVariables false
open Go.RowKit
section
variable {w wr : World} {pb sb db n : Nat} {V : Value} {xs ys : List Nat}
theorem rm_row (h : RmI w wr pb sb db n V xs ys) : ∃ A c, V = .slice A ys.length c ∧ NB wr wr.heap.size A ys.length (ys.map (fun (x : Nat) => (x : Int))) ∧ (∀ ad, A = some ad → ad.block ≠ sb) := by
  obtain ⟨F, S, L, frm, st, hp, _, _, _, _, hV, _, _, _⟩ := h
  have hne : V.ownBlock ≠ some sb := own_blk_ne hV hp.sblk (by decide)
  have e : ints ys = (ys.map (fun (x : Nat) => (x : Int))).map (fun x => Value.int .i64 x) := by unfold ints; rw [List.map_map]; rfl
  have e2 : ∃ A c, V = .slice A ys.length c := by
    rcases hV.2 with ⟨rfl, h0⟩ | ⟨g, cap, cur, rfl, _⟩
    · exact ⟨none, 0, by rw [h0]⟩
    · exact ⟨_, _, rfl⟩
  obtain ⟨A, c, rfl⟩ := e2
  refine ⟨A, c, rfl, ?_, fun ad ha hb => hne ?_⟩
  · unfold NB
    rw [← e]
    exact Reads.of_own hV
  · subst ha
    simp only [Value.ownBlock]
    rw [hb]
theorem rm_room (h : RmI w wr pb sb db n V xs ys) : Calls Try.prog 14 #[.pointer (some ⟨pb, 0, none⟩)] wr fun e w' => e = .returned (.int .i64 ((n - 2 - xs.length : Nat) : Int)) ∧ RmI w w' pb sb db n V xs ys := by
  obtain ⟨F, S, L, frm, st, hp, hroom, hone, hnd, hin, hV, hVF, hb, hF⟩ := h
  refine (proom hp).mono ?_
  rintro e w' ⟨rfl, hb'⟩
  exact ⟨by rw [show roomN st = n - 2 - xs.length by omega], F, S, L, frm, st, hp.below hb', hroom, hone, hnd, hin, own_later hV hb', hVF, hb.trans (hb'.mono hb.size), hF⟩
theorem rm_below {w' : World} (h : RmI w wr pb sb db n V xs ys) (hb' : Below wr.heap.size wr w') : RmI w w' pb sb db n V xs ys := by
  obtain ⟨F, S, L, frm, st, hp, hroom, hone, hnd, hin, hV, hVF, hb, hF⟩ := h
  exact ⟨F, S, L, frm, st, hp.below hb', hroom, hone, hnd, hin, own_later hV hb', hVF, hb.trans (hb'.mono hb.size), hF⟩
theorem row_PF {w : World} {F : Nat → Prop} {db : Nat} {left : Int} {S : Int → Cn} {L : List (Int × Cn)} {N : Nat} {seq root frm : Int} {st : Cn} {base k : Nat} {us : List Value} (hp : Pg w F pb sb db n left S L N seq root frm st) (hV : w.ownsRow base TI 1 V k us) (hVF : ∀ g, V.ownBlock = some g → ¬ F g) : ∀ g, V.ownBlock = some g → ¬ PF F pb sb g := fun g hg h => by
  rcases h with h | rfl | rfl
  · exact hVF g hg h
  · exact own_blk_ne hV hp.blk (by decide) hg
  · exact own_blk_ne hV hp.sblk (by decide) hg
theorem row_Grw {w : World} {F F' : Nat → Prop} {base k : Nat} {us : List Value} (hV : w.ownsRow base TI 1 V k us) (hVF : ∀ g, V.ownBlock = some g → ¬ F g) (hg : Grw F w F') : ∀ g, V.ownBlock = some g → ¬ F' g := fun g hg' hF' => by
  rcases hg g hF' with h | h
  · exact hVF g hg' h
  · rcases hV.2 with ⟨rfl, _⟩ | ⟨g', cap, cur, rfl, _, hh, _⟩
    · simp [Value.ownBlock] at hg'
    · simp [Value.ownBlock] at hg'
      subst hg'
      have := (Array.getElem?_eq_some_iff.1 hh).1
      omega
/-- All is taken: nothing more. -/
theorem rm_full (h : RmI w wr pb sb db n V xs ys) (hx : xs.length = n - 2) (hpb : w.heap.size ≤ pb) (hsb : w.heap.size ≤ sb) (hn : n ≤ 70) :
    Calls Try.prog 10 #[.pointer (some ⟨pb, 0, none⟩), .slice none 0 0] wr fun e w' => e = .returned (.tuple #[.int .i64 0, .int .i64 16]) ∧ RmI w w' pb sb db n V xs ys := by
  obtain ⟨F, S, L, frm, st, hp, hroom, hone, hnd, hin, hV, hVF, hb, hF⟩ := h
  refine (pnew_any hp none 0 0 [] (rb_none _ _) (by decide) (by omega)).mono ?_
  rintro e w' ⟨hR, hfr⟩
  rcases hR with ⟨rfl, hno, hp'⟩ | ⟨a, h2, han, hf, _⟩
  · exact ⟨rfl, F, S, L, frm, st, hp', hroom, hone, hnd, hin, row_fr hV hfr (row_PF hp hV hVF), hVF, hb.trans (PF.below hfr hb.size hF hpb hsb), hF⟩
  · exfalso
    have := room_take st a h2 hf
    omega
/-- The pager behind the loop: how its pages' states are. -/
def RmT (w wr : World) (pb sb db n q : Nat) (V : Value) (xs : List Nat) (P : Cn → Prop) : Prop :=
  ∃ (F : Nat → Prop) (S : Int → Cn) (L : List (Int × Cn)) (N : Nat) (root frm : Int) (st : Cn), Pg wr F pb sb db n 0 S L N (q : Int) root frm st ∧ N ≤ 70000 + q ∧ P st ∧ wr.ownsRow w.heap.size TI 1 V xs.length (ints xs) ∧ (∀ g, V.ownBlock = some g → ¬ F g) ∧ Below w.heap.size w wr ∧ ∀ j, F j → w.heap.size ≤ j
/-- All pages are of one state. -/
def allSt (n : Nat) (v : Nat) (xs : List Nat) (st : Cn) : Prop := cntP (fun x => x.toNat == v) st = st.length - 2 ∧ xs.length = n - 2 ∧ xs.Nodup ∧ ∀ x ∈ xs, 2 ≤ x ∧ x < n ∧ (st.getD x 0).toNat = v
theorem rm_start (h : RmI w wr pb sb db n V xs xs) (hx : xs.length = n - 2) : RmT w wr pb sb db n 0 V xs (fun st => st.length = n ∧ allSt n 1 xs st) := by
  obtain ⟨F, S, L, frm, st, hp, hroom, hone, hnd, hin, hV, hVF, hb, hF⟩ := h
  exact ⟨F, S, L, _, 0, frm, st, hp, by have := hp.hn; omega, ⟨hp.len, by rw [hone, hx, hp.len], hx, hnd, fun x h => ⟨(hin x h).1, (hin x h).2.1, by rw [(hin x h).2.2]; rfl⟩⟩, hV, hVF, hb, hF⟩
theorem rt_row {q : Nat} {P : Cn → Prop} (h : RmT w wr pb sb db n q V xs P) : ∃ A c, V = .slice A xs.length c ∧ NB wr wr.heap.size A xs.length (xs.map (fun (x : Nat) => (x : Int))) ∧ (∀ ad, A = some ad → ad.block ≠ sb) := by
  obtain ⟨F, S, L, N, root, frm, st, hp, _, _, hV, _, _, _⟩ := h
  have hne : V.ownBlock ≠ some sb := own_blk_ne hV hp.sblk (by decide)
  have e : ints xs = (xs.map (fun (x : Nat) => (x : Int))).map (fun x => Value.int .i64 x) := by unfold ints; rw [List.map_map]; rfl
  have e2 : ∃ A c, V = .slice A xs.length c := by
    rcases hV.2 with ⟨rfl, h0⟩ | ⟨g, cap, cur, rfl, _⟩
    · exact ⟨none, 0, by rw [h0]⟩
    · exact ⟨_, _, rfl⟩
  obtain ⟨A, c, rfl⟩ := e2
  refine ⟨A, c, rfl, ?_, fun ad ha hb => hne ?_⟩
  · unfold NB
    rw [← e]
    exact Reads.of_own hV
  · subst ha
    simp only [Value.ownBlock]
    rw [hb]
theorem rt_flip {q : Nat} {P : Cn → Prop} (h : RmT w wr pb sb db n q V xs P) (r : Nat) (hq : q < 1000) (hok : ∀ st, st.length = n → P st → rootOk n st r = true) (hpb : w.heap.size ≤ pb) (hsb : w.heap.size ≤ sb) :
    Calls Try.prog 11 #[.pointer (some ⟨pb, 0, none⟩), .int .i64 r] wr fun e w' => e = .returned (.int .i64 0) ∧ RmT w w' pb sb db n (q + 1) V xs (fun st' => ∃ st, st.length = n ∧ P st ∧ st' = st.map flipU) := by
  obtain ⟨F, S, L, N, root, frm, st, hp, hN, hP, hV, hVF, hb, hF⟩ := h
  refine (pflip_any hp (by omega) (by omega) r (hok st hp.len hP)).mono ?_
  rintro e w' ⟨hR, hfr⟩
  obtain ⟨rfl, F', hp', hg⟩ := flip_no_limit hR
  exact ⟨rfl, F', _, _, _, _, _, _, hp', by omega, ⟨st, hp.len, hP, rfl⟩, row_fr hV hfr (row_PF hp hV hVF), row_Grw hV hVF hg, hb.trans (PF.below hfr hb.size hF hpb hsb), hg.low hb.size hF⟩
theorem rt_free {q : Nat} {P : Cn → Prop} {A : Option Addr} {c : Nat} (h : RmT w wr pb sb db n q (.slice A xs.length c) xs P) (hin : ∀ x ∈ xs, 2 ≤ x ∧ x < n) (hx : xs.length ≤ 200000) (hsb : w.heap.size ≤ sb) :
    Calls Try.prog 15 #[.pointer (some ⟨pb, 0, none⟩), .slice A xs.length c] wr fun e w' => e = .returned (.int .i64 0) ∧ RmT w w' pb sb db n q (.slice A xs.length c) xs (fun st' => ∃ st, st.length = n ∧ P st ∧ st' = (xs.map (fun (x : Nat) => (x : Int))).foldl (updN freeU) st) := by
  obtain ⟨A', c', e, hNB, hA⟩ := rt_row h
  injection e with e1 e2 e3
  subst e1
  obtain ⟨F, S, L, N, root, frm, st, hp, hN, hP, hV, hVF, hb, hF⟩ := h
  have hall : allPg n (xs.map (fun (x : Nat) => (x : Int))) = true := by
    unfold allPg
    rw [List.all_eq_true]
    intro y hy
    obtain ⟨x, hx, rfl⟩ := List.mem_map.1 hy
    have := hin x hx
    unfold pgB
    simp; omega
  refine (pfree_ok hp A _ c _ hNB hx hA hall).mono ?_
  rintro e w' ⟨rfl, hp', hfr⟩
  exact ⟨rfl, F, S, L, N, root, frm, _, hp', hN, ⟨st, hp.len, hP, rfl⟩, row_fr hV hfr (fun g hg e => own_blk_ne hV hp.sblk (by decide) (e ▸ hg)), hVF, hb.trans (hfr.below hb.size (fun j e => e ▸ hsb)), hF⟩
theorem rt_room {q k : Nat} {P : Cn → Prop} (h : RmT w wr pb sb db n q V xs P) (hk : ∀ st, st.length = n → P st → roomN st = k) :
    Calls Try.prog 14 #[.pointer (some ⟨pb, 0, none⟩)] wr fun e w' => e = .returned (.int .i64 (k : Int)) ∧ RmT w w' pb sb db n q V xs P := by
  obtain ⟨F, S, L, N, root, frm, st, hp, hN, hP, hV, hVF, hb, hF⟩ := h
  refine (proom hp).mono ?_
  rintro e w' ⟨rfl, hb'⟩
  exact ⟨by rw [hk st hp.len hP], F, S, L, N, root, frm, st, hp.below hb', hN, hP, own_later hV hb', hVF, hb.trans (hb'.mono hb.size), hF⟩
theorem rt_below {q : Nat} {P : Cn → Prop} (h : RmT w wr pb sb db n q V xs P) : Below w.heap.size w wr := by
  obtain ⟨F, S, L, N, root, frm, st, hp, hN, hP, hV, hVF, hb, hF⟩ := h
  exact hb
/-- The plain law: freed, all is free; flipped ahead, it is free behind the next flip. -/
theorem fold_len (u : UInt8 → UInt8) : ∀ (xs : List Int) (st : Cn), (xs.foldl (updN u) st).length = st.length
  | [], _ => rfl
  | x :: xs, st => by rw [List.foldl_cons, fold_len u xs, updN_len]
theorem plain_free {st : Cn} (hl : st.length = n) (h : allSt n 1 xs st) : roomN ((xs.map (fun (x : Nat) => (x : Int))).foldl (updN freeU) st) = n - 2 := by
  obtain ⟨hc, hx, hn, hin⟩ := h
  have := cnt_fold (fun x => x.toNat == 0) freeU 1 xs st hn (fun x hx => ⟨(hin x hx).1, by rw [hl]; exact (hin x hx).2.1, UInt8.toNat_inj.1 (hin x hx).2.2⟩)
  have h0 := cnt_full hc (fun x => x.toNat == 0) false (fun x h => by simp at h ⊢; omega)
  rw [h0] at this
  rw [cnt_room]
  rw [if_neg (by decide), if_neg (by decide), if_pos (by decide)] at this
  omega
theorem plain_flip {st : Cn} (hl : st.length = n) (h : roomN st = n - 2) : roomN (st.map flipU) = n - 2 := by
  have h1 := room_flip st
  have h2 := cnt_le (fun x => x.toNat == 0) (st.map flipU)
  rw [← cnt_room, List.length_map, hl] at h2
  omega
theorem plain_held {st : Cn} (hl : st.length = n) (h : allSt n 1 xs st) : allSt n 2 xs (st.map flipU) := by
  obtain ⟨hc, hx, hn, hin⟩ := h
  refine ⟨?_, hx, hn, fun x hx => ⟨(hin x hx).1, (hin x hx).2.1, ?_⟩⟩
  · rw [cnt_map, List.length_map]
    have := cnt_full hc ((fun x => x.toNat == 2) ∘ flipU) true (fun x h => by simp only [Function.comp, flipU]; rw [h]; rfl)
    simpa using this
  · have h1 := (hin x hx).2.2
    have hlt : x < st.length := by rw [hl]; exact (hin x hx).2.1
    rw [List.getD_eq_getElem?_getD, List.getElem?_eq_getElem hlt] at h1
    rw [List.getD_eq_getElem?_getD, List.getElem?_map, List.getElem?_eq_getElem hlt]
    simp only [Option.getD_some, Option.map_some] at h1 ⊢
    unfold flipU
    rw [h1]
    rfl
theorem plain_part {st : Cn} (hl : st.length = n) (h : allSt n 2 xs st) : roomN ((xs.map (fun (x : Nat) => (x : Int))).foldl (updN freeU) st) = 0 ∧ roomN (((xs.map (fun (x : Nat) => (x : Int))).foldl (updN freeU) st).map flipU) = n - 2 := by
  obtain ⟨hc, hx, hn, hin⟩ := h
  have hin' : ∀ x ∈ xs, 2 ≤ x ∧ x < st.length ∧ st.getD x 0 = 2 := fun x hx => ⟨(hin x hx).1, by rw [hl]; exact (hin x hx).2.1, UInt8.toNat_inj.1 (hin x hx).2.2⟩
  have f0 := cnt_fold (fun x => x.toNat == 0) freeU 2 xs st hn hin'
  have f3 := cnt_fold (fun x => x.toNat == 3) freeU 2 xs st hn hin'
  have h0 := cnt_full hc (fun x => x.toNat == 0) false (fun x h => by simp at h ⊢; omega)
  have h3 := cnt_full hc (fun x => x.toNat == 3) false (fun x h => by simp at h ⊢; omega)
  rw [h0, if_neg (by decide), if_neg (by decide), if_neg (by decide)] at f0
  rw [h3, if_neg (by decide), if_neg (by decide), if_pos (by decide)] at f3
  refine ⟨by rw [cnt_room]; omega, ?_⟩
  rw [cnt_room, cnt_map]
  have hlen := fold_len freeU (xs.map (fun (x : Nat) => (x : Int))) st
  have := cnt_full (p := fun x => x.toNat == 3) (st := (xs.map (fun (x : Nat) => (x : Int))).foldl (updN freeU) st) (by rw [hlen, hl]; omega) ((fun x => x.toNat == 0) ∘ flipU) true (fun x h => by
    simp only [Function.comp, flipU]
    have h1 : (x.toNat == 1) = false := by simp at h ⊢; omega
    rw [h1, h]
    rfl)
  rw [hlen, hl, if_pos rfl] at this
  exact this
end
end Go.Proofs.Ytddcmockdomonaa
