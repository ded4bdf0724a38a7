/- The sectors: the plain laws of logs; what a sector is as a string; the two disks side by side. -/
import Derived.Test.YthlgkhnkcjihiaaSecP
import Derived.Test.YthlgkhnkcjihiaaSecAct
import Derived.Laws.IdiomStrings
import Derived.Laws.BytesString
namespace Go.Proofs.Ythlgkhnkcjihiaa
set_option linter.unusedSimpArgs false
set_option linter.unusedVariables false
open Go.RowKit
theorem now_append (S : Int → Int) (L1 L2 : List (Int × Int)) (x : Int) : nowC S (L1 ++ L2) x = nowC (nowC S L1) L2 x := by
  unfold nowC
  rw [List.reverse_append, List.find?_append]
  cases h : L2.reverse.find? (fun p => p.1 == x) <;> simp
theorem now_nil (S : Int → Int) : nowC S [] = S := rfl
theorem now_one (S : Int → Int) (a c : Int) : nowC S [(a, c)] = upd S a c := by
  funext x
  unfold nowC upd
  by_cases h : x = a
  · subst h; simp
  · have : (a == x) = false := by simpa using fun e => h e.symm
    simp [this, h]
theorem lastS_now (τ : Nat → Bool) (S : Int → Int) (L : List (Int × Int)) : ∀ k, k ≤ L.length → lastS τ S (L.take k) = nowC S (crashG τ (L.take k))
  | 0, _ => by simp [lastS, crashG, now_nil]
  | k + 1, hk => by
    have ih := lastS_now τ S L k (by omega)
    rw [lastS_succ τ S L (by omega), crashG_succ τ L (by omega)]
    cases τ k
    · simpa using ih
    · simp only [if_true]
      rw [ih]
      funext x
      rw [now_append, ← now_one]
theorem lastS_eq (τ : Nat → Bool) (S : Int → Int) (L : List (Int × Int)) : lastS τ S L = nowC S (crashG τ L) := by
  have := lastS_now τ S L L.length (Nat.le_refl _)
  simpa using this
theorem crashG_all {α : Type} (τ : Nat → Bool) (l : List α) (h : ∀ i, i < l.length → τ i = true) : crashG τ l = l := by
  unfold crashG
  rw [List.filter_eq_self.2 (fun p hp => h p.2 (by
    have := List.snd_lt_of_mem_zipIdx hp
    simpa using this))]
  simp
theorem crashG_none {α : Type} (τ : Nat → Bool) (l : List α) (h : ∀ i, i < l.length → τ i = false) : crashG τ l = [] := by
  unfold crashG
  rw [List.filter_eq_nil_iff.2 (fun p hp => by
    have := List.snd_lt_of_mem_zipIdx hp
    rw [h p.2 (by simpa using this)]; simp)]
  rfl
theorem crashG_append {α : Type} (τ : Nat → Bool) (l1 l2 : List α) : crashG τ (l1 ++ l2) = crashG τ l1 ++ crashG (fun i => τ (l1.length + i)) l2 := by
  unfold crashG
  rw [List.zipIdx_append, List.filter_append, List.map_append]
  congr 1
  rw [List.zipIdx_eq_map_add (l := l2) (i := 0 + l1.length), List.filter_map, List.map_map]
  have e1 : (Prod.fst ∘ fun x : α × Nat => (x.1, 0 + l1.length + x.2)) = Prod.fst := rfl
  have e2 : ((fun p : α × Nat => τ p.2) ∘ fun x : α × Nat => (x.1, 0 + l1.length + x.2)) = fun p => τ (l1.length + p.2) := by funext p; simp
  simp only [Nat.zero_add] at e1 e2 ⊢
  first
    | rw [e1, e2]
    | (simp [Function.comp_def])
/-- What is sure of a log, and what is not. -/
def sS (LG : List (Int × Int)) (sure : Nat) : Int → Int := nowC (fun _ => 0) (LG.take sure)
def sL (LG : List (Int × Int)) (sure : Nat) : List (Int × Int) := LG.drop sure
theorem sS_now (LG : List (Int × Int)) (sure : Nat) (x : Int) : nowC (sS LG sure) (sL LG sure) x = nowC (fun _ => 0) LG x := by
  unfold sS sL
  rw [← now_append, List.take_append_drop]
theorem sS_write (LG : List (Int × Int)) (sure : Nat) (h : sure ≤ LG.length) (x : Int × Int) : sS (LG ++ [x]) sure = sS LG sure ∧ sL (LG ++ [x]) sure = sL LG sure ++ [x] := by
  unfold sS sL
  rw [List.take_append_of_le_length h, List.drop_append_of_le_length h]
  exact ⟨rfl, rfl⟩
theorem sS_barrier (LG : List (Int × Int)) (sure : Nat) : lastS allT (sS LG sure) (sL LG sure) = sS LG LG.length ∧ sL LG LG.length = [] := by
  refine ⟨?_, by unfold sL; simp⟩
  rw [lastS_eq, crashG_all allT _ (fun _ _ => rfl)]
  funext x
  rw [sS_now]
  unfold sS
  simp
theorem keep_split (LG : List (Int × Int)) (sure : Nat) (mask : Int) (h : sure ≤ LG.length) : crashG (keepT sure mask) LG = LG.take sure ++ crashG (maskT mask) (LG.drop sure) := by
  conv => lhs; rw [← List.take_append_drop sure LG]
  rw [crashG_append]
  have hl : (LG.take sure).length = sure := by simp; omega
  congr 1
  · refine crashG_all _ _ (fun i hi => ?_)
    rw [hl] at hi
    unfold keepT; simp [hi]
  · congr 1
    funext i
    rw [hl]
    unfold keepT
    simp
    intro h1; omega
theorem sS_crash (LG : List (Int × Int)) (sure : Nat) (mask : Int) (h : sure ≤ LG.length) :
    lastS (maskT mask) (sS LG sure) (sL LG sure) = sS (crashG (keepT sure mask) LG) (crashG (keepT sure mask) LG).length ∧ sL (crashG (keepT sure mask) LG) (crashG (keepT sure mask) LG).length = [] := by
  refine ⟨?_, by unfold sL; simp⟩
  rw [lastS_eq]
  unfold sS sL
  rw [List.take_length, keep_split LG sure mask h]
  funext x
  rw [now_append]
/-- A sector as a string. -/
def strC (c : Int) : ByteArray := ⟨(List.replicate 512 (UInt8.ofNat c.toNat)).toArray⟩
theorem add_z (g j : Nat) : (⟨g, 0, none⟩ : Addr).add j = ⟨g, j, none⟩ := by unfold Addr.add; split <;> simp_all
theorem byte_back {c : Int} (h : 0 ≤ c ∧ c < 256) : ((UInt8.ofNat c.toNat).toNat : Int) = c := by
  rw [UInt8.toNat_ofNat']; omega
theorem fil_string {w : World} {F : Nat → Prop} {v : Value} {c : Int} (h : Fil w F v c) : (convert 31 9 v).run Try.prog w = .ok (.string (strC c)) w := by
  obtain ⟨hc, g, cap, cs, rfl, hf, hb, hcs⟩ := h
  have := run_convert_bytes_back w 31 9 5 ⟨g, 0, none⟩ cap (List.replicate 512 (UInt8.ofNat c.toNat)) Try.underlying31 Try.underlying5 Try.underlying9 (fun j hj => by
    rw [List.length_replicate] at hj
    rw [add_z, hb.cell, hcs j hj, List.getElem_replicate, byte_back hc])
  rw [List.length_replicate] at this
  exact this
theorem nil_string (w : World) : (convert 31 9 (.slice none 0 0)).run Try.prog w = .ok (.string ⟨#[]⟩) w := by
  rw [run_convert_bytes_string w _ _ _ none 0 0 Try.underlying31 Try.underlying5 Try.underlying9]
  simp [Conv.bytesToString]
  rfl
structure SS where
  out : Bool
  left : Int
  S : Int → Int
  L : List (Int × Int)
structure RS where
  LG : List (Int × Int)
  sure : Nat
  left : Int
  out : Bool
def RS.ss (r : RS) : SS := ⟨r.out, r.left, sS r.LG r.sure, sL r.LG r.sure⟩
/-- What an act makes of a disk. -/
def stS (size : Int) (a : ActV) (s : SS) : SS :=
  if a.kind = 2 then ⟨wrOut s.out s.left size a.at_ (dataN a.fill a.odd), wrLeft s.out s.left size a.at_ (dataN a.fill a.odd), s.S, wrL s.out s.left size a.at_ a.fill (dataN a.fill a.odd) s.L⟩
  else if a.kind = 3 then ⟨baOut s.out s.left, baLeft s.out s.left, baS s.out s.left s.S s.L, baL s.out s.left s.L⟩
  else if a.kind = 4 then (if a.at_ < 0 then s else ⟨s.out, a.at_, s.S, s.L⟩)
  else if a.kind = 5 then ⟨false, 0, lastS (maskT a.mask) s.S s.L, []⟩ else s
def stR (size : Int) (a : ActV) (r : RS) : RS :=
  if a.kind = 2 then ⟨wrL r.out r.left size a.at_ a.fill (dataN a.fill a.odd) r.LG, r.sure, wrLeft r.out r.left size a.at_ (dataN a.fill a.odd), wrOut r.out r.left size a.at_ (dataN a.fill a.odd)⟩
  else if a.kind = 3 then ⟨r.LG, baSure r.out r.left r.sure r.LG.length, baLeft r.out r.left, baOut r.out r.left⟩
  else if a.kind = 4 then (if a.at_ < 0 then r else ⟨r.LG, r.sure, a.at_, r.out⟩)
  else if a.kind = 5 then ⟨crashG (keepT r.sure a.mask) r.LG, (crashG (keepT r.sure a.mask) r.LG).length, 0, false⟩ else r
theorem st_alike (size : Int) (a : ActV) (r : RS) (h : r.sure ≤ r.LG.length) : stS size a r.ss = (stR size a r).ss := by
  unfold stS stR
  by_cases h2 : a.kind = 2
  · rw [if_pos h2, if_pos h2]
    unfold RS.ss wrL
    simp only
    split
    · obtain ⟨e1, e2⟩ := sS_write r.LG r.sure h (a.at_, a.fill)
      rw [e1, e2]
    · rfl
  rw [if_neg h2, if_neg h2]
  by_cases h3 : a.kind = 3
  · rw [if_pos h3, if_pos h3]
    unfold RS.ss baS baL baSure
    simp only
    split
    · rfl
    · obtain ⟨e1, e2⟩ := sS_barrier r.LG r.sure
      rw [e1, e2]
  rw [if_neg h3, if_neg h3]
  by_cases h4 : a.kind = 4
  · rw [if_pos h4, if_pos h4]
    split <;> rfl
  rw [if_neg h4, if_neg h4]
  by_cases h5 : a.kind = 5
  · rw [if_pos h5, if_pos h5]
    obtain ⟨e1, e2⟩ := sS_crash r.LG r.sure a.mask h
    unfold RS.ss
    simp only
    rw [e1, e2]
  rw [if_neg h5, if_neg h5]
abbrev Sec' (w : World) (F : Nat → Prop) (b : Nat) (size : Int) (s : SS) (N : Nat) : Prop := Sec w F b s.out s.left size s.S s.L N
abbrev Ref' (w : World) (F : Nat → Prop) (b : Nat) (size : Int) (r : RS) (N : Nat) : Prop := Ref w F b size r.LG r.sure r.left r.out N
theorem Ref.su {w : World} {F : Nat → Prop} {b : Nat} {size : Int} {LG : List (Int × Int)} {sure : Nat} {left : Int} {out : Bool} {N : Nat} (h : Ref w F b size LG sure left out N) : sure ≤ LG.length := by
  obtain ⟨u, us, h⟩ := h
  exact h.hsu
end Go.Proofs.Ythlgkhnkcjihiaa
