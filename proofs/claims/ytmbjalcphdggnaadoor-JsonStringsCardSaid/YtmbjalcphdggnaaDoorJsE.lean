/- The JSON reader: a strings.Builder's writes (the panic part of copyCheck is cut by the door; so they are walked here). -/
import Derived.Test.YtmbjalcphdggnaaDoorJsD
import Derived.Lib.RuneBytes
namespace Go.Proofs.YtmbjalcphdggnaaDoor
set_option linter.unusedSimpArgs false
set_option linter.unusedVariables false
open Go.RowKit
abbrev TBu : TypeId := 71
abbrev IsB (B b : Nat) (l : L8) (w : World) : Prop := Lib.IsBuilder TBu T8 B b (cs8 l) w
abbrev BuAt (B b : Nat) (l : L8) (w : World) : Prop := Lib.BuilderAt TBu T8 B b (.pointer (some ⟨b, 0, none⟩)) (cs8 l) w
theorem buSize : (Tryd.prog.info? TBu).map (·.size) = some 2 := by kernel_rfl
theorem buLies : liesAt Tryd.prog Tryd.prog.depth TBu (2 / Tryd.prog.cellsOf TBu) 0 TBu 1 = true := by kernel_rfl
theorem reads_lit (w : World) (cs : List Value) (t : TypeId) : Reads (w.alloc (.cells cs.toArray t)) (w.heap.size + 1) 1 (some ⟨w.heap.size, 0, none⟩) cs.length cs := by
  refine ⟨by simp, fun _ => ⟨_, rfl, by simp, fun j u hu => ?_⟩⟩
  have e : (⟨w.heap.size, 0, none⟩ : Addr).add j = ⟨w.heap.size, j, none⟩ := by
    unfold Addr.add
    by_cases h : j = 0
    · subst h; simp
    · simp [h]
  rw [e]
  simp only [World.cell?, heap_alloc_new]
  simpa using hu
section
variable {B b : Nat} {w w' : World} {l : L8}
theorem bu_kept {B b : Nat} {l : L8} (h : IsB B b l w) (hf : Below w.heap.size w w') : IsB B b l w' := by
  rcases h with ⟨hB, v, hb, hown, hne⟩ | ⟨hB, v, hb, hown, hne⟩
  · have hlt := Lib.BuilderAt.lt ⟨hB, v, hb, hown, hne⟩
    exact .inl ⟨hB, v, (hf.block b hlt).trans hb, row_keep hown (fun g hg => hf.block g (own_lt hown g hg)), hne⟩
  · have hlt := Lib.BuilderAt.lt ⟨hB, v, hb, hown, hne⟩
    exact .inr ⟨hB, v, (hf.block b hlt).trans hb, row_keep hown (fun g hg => hf.block g (own_lt hown g hg)), hne⟩
set_option maxRecDepth 100000 in
theorem copy_used (b : Nat) (w : World) (h0 : w.cell? ⟨b, 0, none⟩ = some (.pointer (some ⟨b, 0, none⟩))) :
    Calls Tryd.prog 53 #[.pointer (some ⟨b, 0, none⟩)] w fun e w' => e = .returned (.tuple #[]) ∧ w' = w := by
  obtain ⟨j, hj, hjs⟩ := Option.map_eq_some_iff.1 buSize
  go_enter Tryd.func53, Tryd.ntmps53
  go_wp2
  rw [Lib.run_neq_ptr_same w _ Tryd.underlying69 hj]
  go_wp2
  go_end0
  exact ⟨rfl, rfl⟩
set_option maxRecDepth 100000 in
theorem copy_fresh (b : Nat) (w : World) (h0 : w.cell? ⟨b, 0, none⟩ = some (.pointer none)) (hsh : w.shape? b = some (TBu, 2)) (hfz : w.frozen? ⟨b, 0, none⟩ = false) :
    Calls Tryd.prog 53 #[.pointer (some ⟨b, 0, none⟩)] w fun e w' => e = .returned (.tuple #[]) ∧ w' = w.setCell ⟨b, 0, none⟩ (.pointer (some ⟨b, 0, none⟩)) := by
  obtain ⟨j, hj, hjs⟩ := Option.map_eq_some_iff.1 buSize
  go_enter Tryd.func53, Tryd.ntmps53
  go_wp2
  rw [Lib.run_to_unsafe w ⟨b, 0, none⟩ Tryd.underlying69 Tryd.underlying96 hj (by rw [hjs]; decide) hsh (Nat.zero_lt_succ 1)]
  simp only [Result.andThen]
  rw [Oper.upon_value]
  go_wp2
  rw [run_callFunc_extern Tryd.func56 (by kernel_rfl) (by kernel_rfl) (by kernel_rfl) (e := Extern.AbiNoEscape.same) (by kernel_rfl)]
  rw [Lib.run_noEscape]
  simp only [Result.andThen]
  rw [Oper.upon_value]
  go_wp2
  rw [Lib.run_from_unsafe w ⟨b, 0, none⟩ Tryd.underlying96 Tryd.underlying69 hj hsh buLies]
  simp only [Result.andThen]
  rw [Oper.upon_value]
  go_wp2
  go_end0
  exact ⟨rfl, rfl⟩
theorem copy_any (h : IsB B b l w) :
    Calls Tryd.prog 53 #[.pointer (some ⟨b, 0, none⟩)] w fun e w' => e = .returned (.tuple #[]) ∧ BuAt B b l w' ∧ Below B w w' := by
  rcases h with h | h
  · refine (copy_fresh b w h.cell0 h.shape h.frozen0).mono ?_
    rintro e w' ⟨rfl, rfl⟩
    exact ⟨rfl, h.used _, (Below.refl B w).setCell (p := ⟨b, 0, none⟩) h.1 _⟩
  · refine (copy_used b w h.cell0).mono ?_
    rintro e w' ⟨rfl, rfl⟩
    exact ⟨rfl, h, Below.refl B _⟩
/-- A row grown by one block of the caller's: what it leaves of a builder, and of what is below B. -/
theorem bu_put {w1 w2 : World} {B b m : Nat} {v v' : Value} {l l' : L8} {o : Obj} (hB : B ≤ b) (hbk : w1.heap[b]? = some (.cells #[.pointer (some ⟨b, 0, none⟩), v] TBu (0, 0))) (hown : w1.ownsRow B T8 1 v l.length (cs8 l)) (hne : v.ownBlock ≠ some b) (hBw : B ≤ w1.heap.size)
    (hg : (w1.alloc o).grownBy w2 v.ownBlock) (hown' : w2.ownsRow B T8 1 v' m (cs8 l')) (hm : m = l'.length) :
    w2.cell? ⟨b, 1, none⟩ = some v ∧ w2.cell? ⟨b, 0, none⟩ = some (.pointer (some ⟨b, 0, none⟩)) ∧ w2.frozen? ⟨b, 1, none⟩ = false ∧ BuAt B b l' (w2.setCell ⟨b, 1, none⟩ v') ∧ Below B w1 (w2.setCell ⟨b, 1, none⟩ v') := by
  have hlt : b < w1.heap.size := Lib.BuilderAt.lt (bs := cs8 l) ⟨hB, v, hbk, by rw [cs8_len]; exact hown, hne⟩
  have hb2 : w2.heap[b]? = some (.cells #[.pointer (some ⟨b, 0, none⟩), v] TBu (0, 0)) := by
    rw [hg.block b (by simp; omega) (fun e => hne e.symm), Lib.alloc_old w1 _ b hlt]
    exact hbk
  subst hm
  refine ⟨by rw [Lib.cell_of_heap hb2]; rfl, by rw [Lib.cell_of_heap hb2]; rfl, Lib.frozen_of_heap hb2 1, Lib.BuilderAt.put hB hb2 (by rw [cs8_len]; exact hown') (by decide), ?_⟩
  exact ((((Below.refl B w1).alloc hBw o).grown hg (by simp; omega) (fun k hk => (hown.lt k hk).1)).setCell (p := ⟨b, 1, none⟩) hB v')
set_option maxRecDepth 100000 in
set_option maxHeartbeats 1000000 in
theorem byte_any (x : UInt8) (h : IsB B b l w) (hl : l.length ≤ 1048576) (hBw : B ≤ w.heap.size) :
    Calls Tryd.prog 50 #[.pointer (some ⟨b, 0, none⟩), .int .u8 (x.toNat : Int)] w fun e w' => e = .returned .nilIface ∧ BuAt B b (l ++ [x]) w' ∧ Below B w w' := by
  obtain ⟨i0, hi, hz0, hz1, hz2⟩ := info_parts u8_info
  go_enter Tryd.func50, Tryd.ntmps50
  go_wp2_with (go_at_call 53; refine (copy_any h).mono ?_)
  rintro e w1 ⟨rfl, ⟨hB, v, hbk, hown, hne⟩, hb1⟩
  rw [cs8_len] at hown
  have hbw : B ≤ w1.heap.size := Nat.le_trans hBw hb1.size
  have c1 : w1.cell? ⟨b, 1, none⟩ = some v := by rw [Lib.cell_of_heap hbk]; rfl
  have HN := hide (reads_lit w1 [u8v x] T8)
  go_wp2_with (at_builtin; refine wpList_append_any _ rfl _ _ 22 rfl B T8 i0 (.int .u8 0) 1 1 Tryd.underlying22 hi hz0 hz1 hz2 rfl (by decide) v l.length (cs8 l) rfl (hown.alloc _) _ (some ⟨w1.heap.size, 0, none⟩) 1 1 [u8v x] rfl HN.out (cs8_one [x]) (by unfold maxLen; omega) (by omega) (by simp; omega) ?_)
  intro v' w2 hown' hgrow _
  obtain ⟨A', c', rfl, _⟩ := own_slice hown'
  obtain ⟨d1, d0, f1, hB2, hb2⟩ := bu_put (l' := l ++ [x]) hB hbk hown hne hbw hgrow (by rw [cs8_append]; exact hown') (by simp)
  clear hown' hgrow HN
  go_wp2_with fail
  go_ret
  exact ⟨rfl, hB2, hb1.trans hb2⟩
theorem rune_cells (r : Int) : Lib.runeCells r = cs8 (Lib.encodeRune r) := (Lib.byteCells_encodeRune r).symm
set_option maxRecDepth 100000 in
set_option maxHeartbeats 1000000 in
theorem rune_any (r : Int) (hr0 : -2147483648 ≤ r) (hr1 : r ≤ 2147483647) (h : IsB B b l w) (hl : l.length ≤ 1048576) (hBw : B ≤ w.heap.size) :
    Calls Tryd.prog 44 #[.pointer (some ⟨b, 0, none⟩), .int .i32 r] w fun e w' => (∃ v, e = .returned v) ∧ BuAt B b (l ++ Lib.encodeRune r) w' ∧ Below B w w' := by
  have hk4 := Lib.runeCells_le r
  go_enter Tryd.func44, Tryd.ntmps44
  go_wp2_with (go_at_call 53; refine (copy_any h).mono ?_)
  rintro e w1 ⟨rfl, ⟨hB, v, hbk, hown, hne⟩, hb1⟩
  rw [cs8_len] at hown
  obtain ⟨A0, c0, rfl, _⟩ := own_slice hown
  have hbw : B ≤ w1.heap.size := Nat.le_trans hBw hb1.size
  have c1 : w1.cell? ⟨b, 1, none⟩ = some (.slice A0 l.length c0) := by rw [Lib.cell_of_heap hbk]; rfl
  go_wp2_with (go_at_call 54; refine (Tryd.utf8_AppendRune_plain B _ l.length (cs8 l) r hr0 hr1 _ hown (by omega) hbw).mono ?_)
  rintro e w2 ⟨v', rfl, hown', o, hgrow⟩
  obtain ⟨A', c', rfl, _⟩ := own_slice hown'
  obtain ⟨d1, d0, f1, hB2, hb2⟩ := bu_put (l' := l ++ Lib.encodeRune r) hB hbk hown hne hbw hgrow (by rw [cs8_append, ← rune_cells]; exact hown') (by rw [List.length_append, Lib.runeCells_length])
  clear hown' hgrow
  have HB2 := hide hB2
  have HB3 := hide hb2
  clear hB2 hb2
  go_wp2_with fail
  go_ret2
  exact ⟨⟨_, rfl⟩, HB2.out, hb1.trans HB3.out⟩
end
end Go.Proofs.YtmbjalcphdggnaaDoor
