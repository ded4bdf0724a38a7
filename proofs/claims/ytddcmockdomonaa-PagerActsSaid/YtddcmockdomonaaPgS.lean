/- The pager: its memory; alive, page, did, Root, Room. -/
import Derived.Test.YtddcmockdomonaaPgR
import Derived.BigRegion
namespace Go.Proofs.Ytddcmockdomonaa
set_option linter.unusedSimpArgs false
set_option linter.unusedVariables false
open Go.RowKit
abbrev TP : TypeId := 67
/-- A pager's block. -/
def pk (db sb n : Nat) (seq root frm : Int) (dead : Bool) : Array Value := #[.pointer (some ⟨db, 0, none⟩), .slice (some ⟨sb, 0, none⟩) n n, .int .i64 seq, .int .i64 root, .int .i64 frm, .bool dead]
section
variable {w : World} {F : Nat → Prop} {db : Nat} {out : Bool} {left size : Int} {S : Int → Cn} {L : List (Int × Cn)} {N : Nat} {pb sb n : Nat} {seq root frm : Int}
set_option maxHeartbeats 1000000 in
theorem alive_ok (h : Sec w F db false left size S L N) (hp : Blk w pb TP (pk db sb n seq root frm false)) :
    Calls Try.prog 28 #[.pointer (some ⟨pb, 0, none⟩)] w fun e w' => e = .returned (.int .i64 0) ∧ Below w.heap.size w w' := by
  have kx := hp.cell; have qx := hp.frozen; have zx := hp.lt
  unfold pk at kx
  have HD := hide (sec_down h)
  clear h hp
  go_enter Try.func28, Try.ntmps28
  go_wp2_with (go_at_call 24; (refine HD.out.mono ?_); rintro e w1 ⟨rfl, hb⟩; have HB := hide hb; clear hb)
  go_ret
  exact ⟨rfl, HB.out⟩
end
theorem alive_nil (w : World) : Calls Try.prog 28 #[.pointer none] w fun e w' => e = .returned (.int .i64 1) ∧ Below w.heap.size w w' := by
  go_enter Try.func28, Try.ntmps28
  go_wp2_with fail
  go_ret
  exact ⟨rfl, Below.refl _ _⟩
def pgB (n : Nat) (x : Int) : Bool := decide (2 ≤ x) && decide (x < n)
set_option maxHeartbeats 1000000 in
theorem page_any (pb db sb n : Nat) (seq root frm : Int) (dead : Bool) (x : Int) (w : World) (hp : Blk w pb TP (pk db sb n seq root frm dead)) :
    Calls Try.prog 27 #[.pointer (some ⟨pb, 0, none⟩), .int .i64 x] w fun e w' => e = .returned (.bool (pgB n x)) ∧ Below w.heap.size w w' := by
  have kx := hp.cell; have qx := hp.frozen; have zx := hp.lt
  unfold pk at kx
  clear hp
  unfold pgB
  cases d : decide (2 ≤ x)
  · go_enter Try.func27, Try.ntmps27
    go_wp2_with fail
    go_ret
    exact ⟨ret_bool (by simp), by (repeat (first | exact Below.refl _ _ | refine Below.drew ?_ | refine Below.setCell ?_ (by simp; try omega) _ | refine bal ?_ _))⟩
  · go_enter Try.func27, Try.ntmps27
    go_wp2_with fail
    go_ret
    exact ⟨ret_bool (by simp), by (repeat (first | exact Below.refl _ _ | refine Below.drew ?_ | refine Below.setCell ?_ (by simp; try omega) _ | refine bal ?_ _))⟩
set_option maxHeartbeats 1000000 in
theorem did_any (pb db sb n : Nat) (seq root frm : Int) (e0 : Int) (w : World) (hp : Blk w pb TP (pk db sb n seq root frm false)) :
    Calls Try.prog 30 #[.pointer (some ⟨pb, 0, none⟩), .int .i64 e0] w fun e w' => e = .returned (.int .i64 e0) ∧ Blk w' pb TP (pk db sb n seq root frm (e0 == 15)) ∧ w.grownBy w' (some pb) := by
  have HB := hide hp
  have kx := hp.cell; have qx := hp.frozen; have zx := hp.lt
  unfold pk at kx
  clear hp
  obtain ⟨bb, hbb⟩ : ∃ bb, (e0 == (15 : Int)) = bb := ⟨_, rfl⟩
  have HBB := hide hbb
  go_enter Try.func30, Try.ntmps30
  go_wp2_with fail
  go_ret
  rw [HBB.out]
  exact ⟨rfl, HB.out.set_ 5 (.bool bb), gby_set _ _ _ _⟩
set_option maxHeartbeats 1000000 in
theorem root_any (pb db sb n : Nat) (seq root frm : Int) (dead : Bool) (w : World) (hp : Blk w pb TP (pk db sb n seq root frm dead)) :
    Calls Try.prog 12 #[.pointer (some ⟨pb, 0, none⟩)] w fun e w' => e = .returned (.tuple #[.int .i64 seq, .int .i64 root]) ∧ Below w.heap.size w w' := by
  have kx := hp.cell; have qx := hp.frozen; have zx := hp.lt
  unfold pk at kx
  clear hp
  go_enter Try.func12, Try.ntmps12
  go_wp2_with fail
  go_region
  all_goals
    go_wp2
    refine bodyPost_ret (v := .tuple #[.int .i64 seq, .int .i64 root]) (by simp [results, Try.results12, go_sem]) rfl ⟨rfl, by first | (repeat (first | exact Below.refl _ _ | refine Below.drew ?_ | refine Below.setCell ?_ (by simp; try omega) _ | refine bal ?_ _)) | exact (Below.refl _ _).drewN _ | exact (Below.refl _ _).drew⟩
theorem root_nil (w : World) : Calls Try.prog 12 #[.pointer none] w fun e w' => e = .returned (.tuple #[.int .i64 0, .int .i64 0]) ∧ Below w.heap.size w w' := by
  go_enter Try.func12, Try.ntmps12
  go_wp2_with fail
  refine bodyPost_ret (v := .tuple #[.int .i64 0, .int .i64 0]) (by simp [results, Try.results12, go_sem]) rfl ⟨rfl, Below.refl _ _⟩
theorem room_nil (w : World) : Calls Try.prog 14 #[.pointer none] w fun e w' => e = .returned (.int .i64 0) ∧ Below w.heap.size w w' := by
  go_enter Try.func14, Try.ntmps14
  go_wp2_with fail
  go_ret
  exact ⟨rfl, Below.refl _ _⟩
/-- How many pages are free. -/
def roomN (st : Cn) : Nat := (st.drop 2).countP (fun x => x.toNat == 0)
theorem count_succ (l : Cn) {k : Nat} (h : k < l.length) : (l.take (k + 1)).countP (fun x => x.toNat == 0) = (l.take k).countP (fun x => x.toNat == 0) + (if (l[k].toNat == 0) = true then 1 else 0) := by
  rw [List.take_succ_eq_append_getElem h, List.countP_append]
  simp [List.countP_cons]
set_option maxRecDepth 100000 in
set_option maxHeartbeats 1000000 in
theorem room_any (pb db sb n : Nat) (seq root frm : Int) (dead : Bool) (st : Cn) (w : World) (hp : Blk w pb TP (pk db sb n seq root frm dead)) (hs : Blk w sb T8 (cs8 st).toArray) (hn : st.length = n) (h4 : 4 ≤ n ∧ n ≤ 65536) :
    Calls Try.prog 14 #[.pointer (some ⟨pb, 0, none⟩)] w fun e w' => e = .returned (.int .i64 (roomN st : Int)) ∧ Below w.heap.size w w' := by
  have kx := hp.cell; have qx := hp.frozen; have zx := hp.lt
  unfold pk at kx
  have HS := hide hs
  have HN := hide hn
  have HL := hide (show (st.drop 2).length = n - 2 by rw [List.length_drop, hn])
  clear hp hs hn
  have n1 : ¬ n = 2 := by omega
  go_enter Try.func14, Try.ntmps14
  go_wp2_with fail
  obtain ⟨m, hm⟩ : ∃ m, n - 2 = m := ⟨_, rfl⟩
  have hm2 : m ≤ 65536 := by omega
  have hm3 : 2 + m = n := by omega
  rw [hm] at HL ⊢
  obtain ⟨T, hT⟩ : ∃ T, st.drop 2 = T := ⟨_, rfl⟩
  have HC := hide (show ∀ j (hj : j < T.length), w.cell? ⟨sb, 2 + j, none⟩ = some (.int .u8 (T[j].toNat : Int)) from fun j hj => by
    subst hT
    have h2 : 2 + j < st.length := by rw [List.length_drop] at hj; omega
    rw [HS.out.cell, List.getElem?_toArray, cs8_get, List.getElem?_eq_getElem h2]
    simp [u8v])
  have HRM := hide (show roomN st = T.countP (fun x => x.toNat == 0) by unfold roomN; rw [hT])
  rw [hT] at HL
  have zs := HS.out.lt
  clear hT hm hm3 n1 h4 kx qx zx
  go_loopw [3, 15] (fun cv i wr => ∃ k : Nat, k ≤ m ∧ i = .int .i64 k ∧ Hid (cv = .int .i64 ((T.take k).countP (fun x => x.toNat == 0) : Nat)) ∧ Hid (wr = w)) (fun _ i _ => m - (intOf i).toNat)
  case atStart => exact ⟨0, by omega, rfl, rfl, rfl⟩
  case round =>
    obtain ⟨k, hk, rfl, HV, HW⟩ := hrel
    by_cases hlt : k < m
    · have hjl : k < T.length := by rw [HL.out]; exact hlt
      have hc := HC.out k hjl
      rw [← HW.out] at hc
      have zs' : sb < _ := HW.out ▸ zs
      obtain ⟨x, hx⟩ : ∃ x, T[k]'hjl = x := ⟨_, rfl⟩
      rw [hx] at hc
      have hsucc := count_succ T hjl
      rw [hx] at hsucc
      obtain ⟨c0, hc0⟩ : ∃ c0, (T.take k).countP (fun x => x.toNat == 0) = c0 := ⟨_, rfl⟩
      have hle : c0 ≤ k := by rw [← hc0]; have := List.countP_le_length (p := fun (x : UInt8) => x.toNat == 0) (l := T.take k); rw [List.length_take] at this; omega
      rw [hc0] at hsucc HV
      have HSU := hide hsucc
      clear hx hsucc hc0
      obtain rfl := HV.out
      cases hd : (x.toNat == 0)
      · have d1 : ((x.toNat : Int) == 0) = false := by simp at hd ⊢; omega
        rw [hd] at HSU
        go_wp2
        go_roundw
        case rel => exact ⟨k + 1, by omega, by go_num, hide (by rw [HSU.out]; simp), HW⟩
        case measure => simp [intOf]; omega
      · have d1 : ((x.toNat : Int) == 0) = true := by simp at hd ⊢; omega
        rw [hd] at HSU
        go_wp2
        go_roundw
        case rel => exact ⟨k + 1, by omega, by go_num, hide (by rw [HSU.out]; go_num), HW⟩
        case measure => simp [intOf]; omega
    · have e : k = m := by omega
      subst e
      obtain rfl := HV.out
      go_wp2
      go_ret
      refine ⟨?_, by rw [HW.out]; exact Below.refl _ _⟩
      rw [HRM.out, List.take_of_length_le (by rw [HL.out]; exact Nat.le_refl _)]
      rfl
end Go.Proofs.Ytddcmockdomonaa
