/- The document's words of a line. -/
import Derived.Test.YtcdhngppcpgojaaDoorScrRg
namespace Go.Proofs.YtcdhngppcpgojaaDoor
set_option linter.unusedSimpArgs false
set_option linter.unusedVariables false
open Go.RowKit
theorem wordsL_count : ∀ s : List UInt8, (wordsL s).length ≤ s.length + 1
  | [] => by simp [wordsL]
  | c :: r => by
    have := wordsL_count r
    rw [wordsL]
    split
    · simp; omega
    · split
      · rename_i y t hy; rw [hy] at this; simp at this ⊢; omega
      · simp
structure WdI (w wr : World) (s : List UInt8) (k f : Nat) (v : Value) (o : List (List UInt8)) : Prop where
  row : wr.ownsRow w.heap.size TStr 1 v o.length (o.map str)
  b : Below w.heap.size w wr
  l : k ≤ s.length → f ≤ k ∧ wordsL s = o ++ wordsL (s.drop f) ∧ ∀ c ∈ (s.drop f).take (k - f), c ≠ 32
  e : ¬ k ≤ s.length → wordsL s = o
theorem wd_end {s : List UInt8} {k f : Nat} {o : List (List UInt8)} (hk : k = s.length) (hf : f ≤ k) (h1 : wordsL s = o ++ wordsL (s.drop f)) (h2 : ∀ c ∈ (s.drop f).take (k - f), c ≠ 32) : wordsL s = o ++ [(s.drop f).take (k - f)] := by
  have e : (s.drop f).take (k - f) = s.drop f := List.take_of_length_le (by rw [List.length_drop]; omega)
  rw [e] at h2 ⊢
  rw [h1, wordsL_none _ h2]
theorem wd_hit {s : List UInt8} {k f : Nat} {o : List (List UInt8)} (hk : k < s.length) (hc : s[k] = 32) (hf : f ≤ k) (h1 : wordsL s = o ++ wordsL (s.drop f)) (h2 : ∀ c ∈ (s.drop f).take (k - f), c ≠ 32) : wordsL s = (o ++ [(s.drop f).take (k - f)]) ++ wordsL (s.drop (k + 1)) := by
  have e : s.drop f = (s.drop f).take (k - f) ++ 32 :: s.drop (k + 1) := by
    have h3 : s.drop k = 32 :: s.drop (k + 1) := by rw [List.drop_eq_getElem_cons hk, hc]
    have h4 : (s.drop f).drop (k - f) = s.drop k := by rw [List.drop_drop]; congr 1; omega
    rw [← h3, ← h4, List.take_append_drop]
  rw [h1, e]
  rw [wordsL_hit _ _ h2]
  rw [← e]
  simp
theorem wd_pass {s : List UInt8} {k f : Nat} (hk : k < s.length) (hc : s[k] ≠ 32) (hf : f ≤ k) (h2 : ∀ c ∈ (s.drop f).take (k - f), c ≠ 32) : ∀ c ∈ (s.drop f).take (k + 1 - f), c ≠ 32 := by
  intro c hcm
  rw [show k + 1 - f = (k - f) + 1 by omega, List.take_succ_eq_append_getElem (by rw [List.length_drop]; omega)] at hcm
  rcases List.mem_append.1 hcm with h | h
  · exact h2 c h
  · simp at h
    subst h
    simpa [show f + (k - f) = k by omega] using hc
theorem extr (s : List UInt8) (f k : Nat) : (⟨s.toArray⟩ : ByteArray).extract f k = ⟨((s.drop f).take (k - f)).toArray⟩ := by
  apply ByteArray.ext
  rw [ByteArray.data_extract]
  apply Array.ext'
  simp
def WoP (base : Nat) (s : List UInt8) (e : Ending) (w' : World) : Prop := ∃ A c, e = .returned (.slice A (wordsL s).length c) ∧ w'.ownsRow base TStr 1 (.slice A (wordsL s).length c) (wordsL s).length ((wordsL s).map str)
set_option maxRecDepth 100000 in
set_option maxHeartbeats 1000000 in
theorem rwords_any (s : List UInt8) (w : World) (hl : s.length ≤ 600000000) :
    Calls Tryd.prog 40 #[str s] w fun e w' => WoP w.heap.size s e w' ∧ Below w.heap.size w w' := by
  obtain ⟨i0, hi0, hz0, hz1, hz2⟩ := info_parts str_info
  have HI0 := hide hi0
  have HZ0 := hide hz0
  clear hi0 hz0
  go_enter Tryd.func40, Tryd.ntmps40
  go_wp2_with fail
  go_loopw [3, 4, 5] (fun v f i wr => ∃ (k f' : Nat) (o : List (List UInt8)) (A' : Option Addr) (c' : Nat), k ≤ s.length + 1 ∧ i = .int .i64 k ∧ f = .int .i64 f' ∧ v = .slice A' o.length c' ∧ Hid (WdI w wr s k f' v o)) (fun _ _ i _ => s.length + 1 - (intOf i).toNat)
  case atStart => exact ⟨0, 0, [], none, 0, by omega, rfl, rfl, rfl, hide ⟨World.ownsRow_nil _ _ _ _, Below.refl _ _, fun _ => ⟨by omega, by simp, by simp⟩, fun h => absurd (Nat.zero_le _) h⟩⟩
  case round =>
    obtain ⟨k, f, o, A', c', hk, rfl, rfl, rfl, HI⟩ := hrel
    by_cases hlt : k ≤ s.length
    · obtain ⟨hf, h1, h2⟩ := HI.out.l hlt
      have H1 := hide h1
      have H2 := hide h2
      have hol : o.length ≤ 600000001 := by
        have := wordsL_count s
        rw [h1, List.length_append] at this; omega
      have hltI : (k : Int) ≤ s.length := by omega
      have hfI : (f : Int) ≤ k := by omega
      obtain ⟨Y, hY⟩ : ∃ Y, (s.drop f).take (k - f) = Y := ⟨_, rfl⟩
      have hex := extr s f k
      rw [hY] at hex
      have HY := hide hY
      clear h1 h2 hY
      have hb7 : Below wr.heap.size wr (wr.alloc (Obj.cells #[str Y] TStr)) := (Below.refl _ _).alloc (Nat.le_refl _) _
      have HA6 := hide (reads_one wr TStr (str Y))
      have HO7 := hide (own_later HI.out.row hb7)
      have HB7 := hide (HI.out.b.trans (hb7.mono HI.out.b.size))
      have HOL := hide hol
      clear hb7 hol
      by_cases hend : k = s.length
      · have he : ((k : Int) == (s.length : Int)) = true := by simp; omega
        have HE := hide (wd_end hend hf H1.out H2.out)
        rw [HY.out] at HE
        have HEND := hide hend
        clear hend
        go_wp2_with (at_builtin; (refine wpList_append_any _ rfl (.tmp 22) (.tmp 27) _ rfl w.heap.size TStr i0 _ 1 16 Tryd.underlying58 HI0.out HZ0.out hz1 hz2 rfl (by omega) (.slice A' o.length c') o.length (o.map str) rfl HO7.out (wr.heap.size + 1) (some ⟨wr.heap.size, 0, none⟩) 1 1 [str Y] rfl HA6.out (by intro u hu; simp at hu; subst hu; rfl) (by have := HOL.out; unfold maxLen; omega) (by have := HOL.out; omega) HB7.out.size ?_); intro v' w8 ho hgr _; obtain ⟨A9, c9, rfl⟩ := row_form ho; have HR9 := hide (show w8.ownsRow w.heap.size TStr 1 (.slice A9 (o.length + 1) c9) (o ++ [Y]).length ((o ++ [Y]).map str) by simpa using ho); have HB9 := hide (HB7.out.grown hgr HB7.out.size (fun g hg => (HO7.out.lt g hg).1)); clear ho hgr)
        go_roundw
        case rel => exact ⟨k + 1, k + 1, o ++ [Y], A9, c9, by omega, by go_num, by go_num, by simp, hide ⟨HR9.out, HB9.out, fun h => absurd h (by have := HEND.out; omega), fun _ => HE.out⟩⟩
        case measure => simp [intOf]; omega
      · have hks : k < s.length := by omega
        have he : ((k : Int) == (s.length : Int)) = false := by simp; omega
        have hsz : k < (⟨s.toArray⟩ : ByteArray).size := by rw [str_size]; exact hks
        by_cases hc : s[k] = 32
        · have hcb : ((⟨s.toArray⟩ : ByteArray)[k]'hsz).toNat = 32 := by
            show s[k].toNat = 32
            rw [hc]; rfl
          have HE := hide (wd_hit hks hc hf H1.out H2.out)
          rw [HY.out] at HE
          clear hc
          go_wp2_with (at_builtin; (refine wpList_append_any _ rfl (.tmp 22) (.tmp 27) _ rfl w.heap.size TStr i0 _ 1 16 Tryd.underlying58 HI0.out HZ0.out hz1 hz2 rfl (by omega) (.slice A' o.length c') o.length (o.map str) rfl HO7.out (wr.heap.size + 1) (some ⟨wr.heap.size, 0, none⟩) 1 1 [str Y] rfl HA6.out (by intro u hu; simp at hu; subst hu; rfl) (by have := HOL.out; unfold maxLen; omega) (by have := HOL.out; omega) HB7.out.size ?_); intro v' w8 ho hgr _; obtain ⟨A9, c9, rfl⟩ := row_form ho; have HR9 := hide (show w8.ownsRow w.heap.size TStr 1 (.slice A9 (o.length + 1) c9) (o ++ [Y]).length ((o ++ [Y]).map str) by simpa using ho); have HB9 := hide (HB7.out.grown hgr HB7.out.size (fun g hg => (HO7.out.lt g hg).1)); clear ho hgr)
          go_roundw
          case rel => exact ⟨k + 1, k + 1, o ++ [Y], A9, c9, by omega, by go_num, by go_num, by simp, hide ⟨HR9.out, HB9.out, fun _ => ⟨by omega, HE.out, by simp⟩, fun h => absurd h (by omega)⟩⟩
          case measure => simp [intOf]; omega
        · obtain ⟨c, hcc⟩ : ∃ c, s[k].toNat = c := ⟨_, rfl⟩
          have hcb : ((⟨s.toArray⟩ : ByteArray)[k]'hsz).toNat = c := hcc
          have hc2 : ¬ (c : Int) = 32 := fun e => hc (UInt8.toNat_inj.1 (show s[k].toNat = 32 by omega))
          have HE := hide (wd_pass hks hc hf H2.out)
          clear hc hcc
          go_wp2_with fail
          go_roundw
          case rel => exact ⟨k + 1, f, o, A', c', by omega, by go_num, by go_num, rfl, hide ⟨HI.out.row, HI.out.b, fun _ => ⟨by omega, H1.out, HE.out⟩, fun h => absurd h (by omega)⟩⟩
          case measure => simp [intOf]; omega
    · have HE := hide (HI.out.e hlt)
      have hltI : ¬ (k : Int) ≤ s.length := by omega
      go_wp2_with fail
      go_ret
      refine ⟨⟨A', c', by rw [HE.out]; rfl, ?_⟩, HI.out.b⟩
      rw [HE.out]
      exact HI.out.row
end Go.Proofs.YtcdhngppcpgojaaDoor
