/- The pager: each; Use and Free of some pages. -/
import Derived.Test.YtddcmockdomonaaPgX
namespace Go.Proofs.Ytddcmockdomonaa
set_option linter.unusedSimpArgs false
set_option linter.unusedVariables false
open Go.RowKit
/-- A slice of pages' numbers. -/
def NB (w : World) (B : Nat) (A : Option Addr) (m : Nat) (xs : List Int) : Prop := Reads w B 1 A m (xs.map (fun x => Value.int .i64 x))
theorem NB.below {w w' : World} {B : Nat} {A : Option Addr} {m : Nat} {xs : List Int} (h : NB w B A m xs) (hb : Below B w w') : NB w' B A m xs := Reads.below h hb
theorem NB.len {w : World} {B : Nat} {A : Option Addr} {m : Nat} {xs : List Int} (h : NB w B A m xs) : xs.length = m := by have := h.1; rw [List.length_map] at this; omega
theorem NB.at_ {w : World} {B : Nat} {A : Option Addr} {m : Nat} {xs : List Int} (h : NB w B A m xs) {k : Nat} (hk : k < m) (hl : k < xs.length) : ∃ ad, A = some ad ∧ ad.block < B ∧ w.cell? (ad.add k) = some (.int .i64 xs[k]) := by
  obtain ⟨ad, u, e, hb, hu, hc⟩ := Reads.at_ h hk
  refine ⟨ad, e, hb, ?_⟩
  rw [List.getElem?_map, List.getElem?_eq_getElem hl] at hu
  injection hu with hu
  rw [hc, ← hu]
theorem cell_heap {w w' : World} {p : Addr} (h : w'.heap[p.block]? = w.heap[p.block]?) : w'.cell? p = w.cell? p := by unfold World.cell?; rw [h]
theorem NB.far {w w' : World} {F : Nat → Prop} {A : Option Addr} {m : Nat} {xs : List Int} (h : NB w w.heap.size A m xs) (hf : Fr F w w') (ha : ∀ ad, A = some ad → ¬ F ad.block) : NB w' w.heap.size A m xs := by
  refine ⟨h.1, fun h0 => ?_⟩
  obtain ⟨ad, e, hb, hc⟩ := h.2 h0
  refine ⟨ad, e, hb, fun j u hu => ?_⟩
  have e' : (ad.add j).block = ad.block := by unfold Addr.add; split <;> rfl
  have hh : w'.heap[(ad.add j).block]? = w.heap[(ad.add j).block]? := by rw [e']; exact hf.block ad.block hb (ha ad e)
  exact (cell_heap hh).trans (hc j u hu)
/-- All pages are the pager's. -/
def allPg (n : Nat) (xs : List Int) : Bool := xs.all (pgB n)
theorem foldl_take {α β : Type} (f : β → α → β) (b : β) (xs : List α) {k : Nat} (h : k < xs.length) : (xs.take (k + 1)).foldl f b = f ((xs.take k).foldl f b) xs[k] := by
  rw [List.take_succ_eq_append_getElem h, List.foldl_append]
  rfl
theorem each_nil (v f : Value) (w : World) :
    Calls Try.prog 36 #[.pointer none, v, f] w fun e w' => e = .returned (.int .i64 1) ∧ Below w.heap.size w w' := by
  go_enter Try.func36, Try.ntmps36
  go_wp2_with (go_at_call 28; (refine (alive_nil w).mono ?_); rintro e w1 ⟨rfl, hb⟩; have HB1 := hide hb; clear hb)
  go_ret
  exact ⟨rfl, HB1.out⟩
section
variable {w w' : World} {F : Nat → Prop} {pb sb db n : Nat} {left : Int} {S : Int → Cn} {L : List (Int × Cn)} {N : Nat} {seq root frm : Int} {st : Cn}
set_option maxRecDepth 100000 in
set_option maxHeartbeats 1000000 in
theorem each_bad (h : Pg w F pb sb db n left S L N seq root frm st) (A : Option Addr) (m c : Nat) (xs : List Int) (hr : NB w w.heap.size A m xs) (hm : m ≤ 200000) (hbad : allPg n xs = false) (fv : Value) :
    Calls Try.prog 36 #[.pointer (some ⟨pb, 0, none⟩), .slice A m c, fv] w fun e w' => e = .returned (.int .i64 1) ∧ Below w.heap.size w w' := by
  have HP := hide h
  have HR := hide hr
  have HL := hide hr.len
  have HBAD := hide hbad
  clear h hr hbad
  go_enter Try.func36, Try.ntmps36
  go_wp2_with (go_at_call 28; (refine (alive_ok HP.out.sec HP.out.blk).mono ?_); rintro e w1 ⟨rfl, hb⟩; have HB1 := hide hb; clear hb)
  go_loopw [19] (fun i wr => ∃ k : Nat, k ≤ m ∧ i = .int .i64 k ∧ Hid (Below w.heap.size w wr) ∧ Hid (∀ j (hj : j < xs.length), j < k → pgB n xs[j] = true)) (fun i _ => m - (intOf i).toNat)
  case atStart => exact ⟨0, by omega, rfl, HB1, hide (fun j _ h => by omega)⟩
  case round =>
    obtain ⟨k, hk, rfl, HI, HA⟩ := hrel
    by_cases hlt : k < m
    · have hlx : k < xs.length := by rw [HL.out]; exact hlt
      obtain ⟨ad, rfl, hab, hac⟩ := (HR.out.below HI.out).at_ hlt hlx
      have had : (ad.add k).block < wr.heap.size := by have e' : (ad.add k).block = ad.block := by { unfold Addr.add; split <;> rfl }; rw [e']; exact Nat.lt_of_lt_of_le hab HI.out.size
      obtain ⟨x, hx⟩ : ∃ x, xs[k]'hlx = x := ⟨_, rfl⟩
      rw [hx] at hac
      have HX := hide hx
      clear hx
      cases hp : pgB n x
      · have HPB := hide hp
        clear hp
        go_wp2_with (go_at_call 27; (refine (page_any pb db sb n seq root frm false x wr (HP.out.below HI.out).blk).mono ?_); rintro e w2 ⟨rfl, hb⟩; rw [HPB.out]; have HB2 := hide (HI.out.trans (hb.mono HI.out.size)); clear hb)
        go_ret
        exact ⟨rfl, HB2.out⟩
      · have HPB := hide hp
        clear hp
        go_wp2_with (go_at_call 27; (refine (page_any pb db sb n seq root frm false x wr (HP.out.below HI.out).blk).mono ?_); rintro e w2 ⟨rfl, hb⟩; rw [HPB.out]; have HB2 := hide (HI.out.trans (hb.mono HI.out.size)); clear hb)
        go_roundw
        case rel => exact ⟨k + 1, by omega, by go_num, HB2, hide (fun j hj h => by
          rcases Nat.lt_succ_iff_lt_or_eq.1 h with h | rfl
          · exact HA.out j hj h
          · rw [HX.out]; exact HPB.out)⟩
        case measure => simp [intOf]; omega
    · exfalso
      have : allPg n xs = true := by
        unfold allPg
        rw [List.all_eq_true]
        intro x hx
        obtain ⟨j, hj, rfl⟩ := List.getElem_of_mem hx
        exact HA.out j hj (by rw [HL.out] at hj; omega)
      rw [HBAD.out] at this
      cases this
set_option maxRecDepth 100000 in
set_option maxHeartbeats 1000000 in
theorem each_use (h : Pg w F pb sb db n left S L N seq root frm st) (A : Option Addr) (m c : Nat) (xs : List Int) (hr : NB w w.heap.size A m xs) (hm : m ≤ 200000) (hA : ∀ ad, A = some ad → ad.block ≠ sb) (hall : allPg n xs = true) (bx : Nat) (hb : Blk w bx TPP #[.pointer (some ⟨pb, 0, none⟩)]) :
    Calls Try.prog 36 #[.pointer (some ⟨pb, 0, none⟩), .slice A m c, .func (.func 38) #[] #[.pointer (some ⟨bx, 0, none⟩)]] w fun e w' => e = .returned (.int .i64 0) ∧ Pg w' F pb sb db n left S L N seq root frm (xs.foldl (updN useU) st) ∧ Fr (fun j => j = sb) w w' := by
  have HP := hide h
  have HR := hide hr
  have HL := hide hr.len
  have HNA := hide (fun ad (e : A = some ad) => show ¬ (fun j => j = sb) ad.block from hA ad e)
  have HBX := hide hb
  have HNB := hide (Blk.ne_ hb h.sblk (by decide))
  have HALL := hide (show ∀ j (hj : j < xs.length), pgB n xs[j] = true from fun j hj => List.all_eq_true.1 hall _ (List.getElem_mem hj))
  clear h hr hb hA hall
  go_enter Try.func36, Try.ntmps36
  go_wp2_with (go_at_call 28; (refine (alive_ok HP.out.sec HP.out.blk).mono ?_); rintro e w1 ⟨rfl, hb⟩; have HB1 := hide hb; clear hb)
  go_loopw [19] (fun i wr => ∃ k : Nat, k ≤ m ∧ i = .int .i64 k ∧ Hid (Below w.heap.size w wr)) (fun i _ => m - (intOf i).toNat)
  case atStart => exact ⟨0, by omega, rfl, HB1⟩
  case round =>
    obtain ⟨k, hk, rfl, HI⟩ := hrel
    by_cases hlt : k < m
    · have hlx : k < xs.length := by rw [HL.out]; exact hlt
      obtain ⟨ad, rfl, hab, hac⟩ := (HR.out.below HI.out).at_ hlt hlx
      have had : (ad.add k).block < wr.heap.size := by have e' : (ad.add k).block = ad.block := by { unfold Addr.add; split <;> rfl }; rw [e']; exact Nat.lt_of_lt_of_le hab HI.out.size
      have HPB := hide (HALL.out k hlx)
      obtain ⟨x, hx⟩ : ∃ x, xs[k]'hlx = x := ⟨_, rfl⟩
      rw [hx] at hac HPB
      clear hx
      go_wp2_with (go_at_call 27; (refine (page_any pb db sb n seq root frm false x wr (HP.out.below HI.out).blk).mono ?_); rintro e w2 ⟨rfl, hb⟩; rw [HPB.out]; have HB2 := hide (HI.out.trans (hb.mono HI.out.size)); clear hb)
      go_roundw
      case rel => exact ⟨k + 1, by omega, by go_num, HB2⟩
      case measure => simp [intOf]; omega
    · have e : k = m := by omega
      subst e
      go_wp2
      have HI0 := hide (And.intro (HP.out.below HI.out) (Fr.of_below (F := fun j => j = sb) HI.out))
      clear HI
      go_loopw [30] (fun i wr => ∃ k2 : Nat, k2 ≤ k ∧ i = .int .i64 k2 ∧ Hid (Pg wr F pb sb db n left S L N seq root frm ((xs.take k2).foldl (updN useU) st) ∧ Fr (fun j => j = sb) w wr)) (fun i _ => k - (intOf i).toNat)
      case atStart => exact ⟨0, by omega, rfl, HI0⟩
      case round =>
        obtain ⟨k2, hk2, rfl, HJ⟩ := hrel
        by_cases hlt2 : k2 < k
        · have hlx : k2 < xs.length := by rw [HL.out]; exact hlt2
          obtain ⟨ad, rfl, hab, hac⟩ := (HR.out.far HJ.out.2 HNA.out).at_ hlt2 hlx
          have had : (ad.add k2).block < wr.heap.size := by have e' : (ad.add k2).block = ad.block := by { unfold Addr.add; split <;> rfl }; rw [e']; exact Nat.lt_of_lt_of_le hab HJ.out.2.size
          have hPB := HALL.out k2 hlx
          have HST := hide (foldl_take (updN useU) st xs hlx)
          obtain ⟨x, hx⟩ : ∃ x, xs[k2]'hlx = x := ⟨_, rfl⟩
          rw [hx] at hac hPB HST
          obtain ⟨a, ha, hax⟩ : ∃ a : Nat, a < n ∧ x = a := by unfold pgB at hPB; simp at hPB; exact ⟨x.toNat, by omega, by omega⟩
          subst hax
          obtain ⟨st1, hst⟩ : ∃ st1, (xs.take k2).foldl (updN useU) st = st1 := ⟨_, rfl⟩
          rw [hst] at HJ HST
          have HBX2 := hide (HJ.out.2.blk HBX.out HNB.out)
          clear hx hPB hst
          go_wp2_with (go_at_call 38; (refine (use_one HJ.out.1 a ha bx HBX2.out).mono ?_); rintro e w3 ⟨rfl, hp, hg⟩; have HK := hide (And.intro hp (HJ.out.2.trans (Fr.of_grown (F := fun j => j = sb) hg (fun k e => by injection e with e; exact e.symm)) (fun _ _ h => h))); clear hp hg)
          go_roundw
          case rel => exact ⟨k2 + 1, by omega, by go_num, by rw [HST.out]; exact HK⟩
          case measure => simp [intOf]; omega
        · have e : k2 = k := by omega
          subst e
          go_wp2
          go_ret
          have := HJ.out
          rw [List.take_of_length_le (by rw [HL.out]; exact Nat.le_refl _)] at this
          exact ⟨rfl, this⟩
set_option maxRecDepth 100000 in
set_option maxHeartbeats 1000000 in
theorem each_free (h : Pg w F pb sb db n left S L N seq root frm st) (A : Option Addr) (m c : Nat) (xs : List Int) (hr : NB w w.heap.size A m xs) (hm : m ≤ 200000) (hA : ∀ ad, A = some ad → ad.block ≠ sb) (hall : allPg n xs = true) (bx : Nat) (hb : Blk w bx TPP #[.pointer (some ⟨pb, 0, none⟩)]) :
    Calls Try.prog 36 #[.pointer (some ⟨pb, 0, none⟩), .slice A m c, .func (.func 37) #[] #[.pointer (some ⟨bx, 0, none⟩)]] w fun e w' => e = .returned (.int .i64 0) ∧ Pg w' F pb sb db n left S L N seq root frm (xs.foldl (updN freeU) st) ∧ Fr (fun j => j = sb) w w' := by
  have HP := hide h
  have HR := hide hr
  have HL := hide hr.len
  have HNA := hide (fun ad (e : A = some ad) => show ¬ (fun j => j = sb) ad.block from hA ad e)
  have HBX := hide hb
  have HNB := hide (Blk.ne_ hb h.sblk (by decide))
  have HALL := hide (show ∀ j (hj : j < xs.length), pgB n xs[j] = true from fun j hj => List.all_eq_true.1 hall _ (List.getElem_mem hj))
  clear h hr hb hA hall
  go_enter Try.func36, Try.ntmps36
  go_wp2_with (go_at_call 28; (refine (alive_ok HP.out.sec HP.out.blk).mono ?_); rintro e w1 ⟨rfl, hb⟩; have HB1 := hide hb; clear hb)
  go_loopw [19] (fun i wr => ∃ k : Nat, k ≤ m ∧ i = .int .i64 k ∧ Hid (Below w.heap.size w wr)) (fun i _ => m - (intOf i).toNat)
  case atStart => exact ⟨0, by omega, rfl, HB1⟩
  case round =>
    obtain ⟨k, hk, rfl, HI⟩ := hrel
    by_cases hlt : k < m
    · have hlx : k < xs.length := by rw [HL.out]; exact hlt
      obtain ⟨ad, rfl, hab, hac⟩ := (HR.out.below HI.out).at_ hlt hlx
      have had : (ad.add k).block < wr.heap.size := by have e' : (ad.add k).block = ad.block := by { unfold Addr.add; split <;> rfl }; rw [e']; exact Nat.lt_of_lt_of_le hab HI.out.size
      have HPB := hide (HALL.out k hlx)
      obtain ⟨x, hx⟩ : ∃ x, xs[k]'hlx = x := ⟨_, rfl⟩
      rw [hx] at hac HPB
      clear hx
      go_wp2_with (go_at_call 27; (refine (page_any pb db sb n seq root frm false x wr (HP.out.below HI.out).blk).mono ?_); rintro e w2 ⟨rfl, hb⟩; rw [HPB.out]; have HB2 := hide (HI.out.trans (hb.mono HI.out.size)); clear hb)
      go_roundw
      case rel => exact ⟨k + 1, by omega, by go_num, HB2⟩
      case measure => simp [intOf]; omega
    · have e : k = m := by omega
      subst e
      go_wp2
      have HI0 := hide (And.intro (HP.out.below HI.out) (Fr.of_below (F := fun j => j = sb) HI.out))
      clear HI
      go_loopw [30] (fun i wr => ∃ k2 : Nat, k2 ≤ k ∧ i = .int .i64 k2 ∧ Hid (Pg wr F pb sb db n left S L N seq root frm ((xs.take k2).foldl (updN freeU) st) ∧ Fr (fun j => j = sb) w wr)) (fun i _ => k - (intOf i).toNat)
      case atStart => exact ⟨0, by omega, rfl, HI0⟩
      case round =>
        obtain ⟨k2, hk2, rfl, HJ⟩ := hrel
        by_cases hlt2 : k2 < k
        · have hlx : k2 < xs.length := by rw [HL.out]; exact hlt2
          obtain ⟨ad, rfl, hab, hac⟩ := (HR.out.far HJ.out.2 HNA.out).at_ hlt2 hlx
          have had : (ad.add k2).block < wr.heap.size := by have e' : (ad.add k2).block = ad.block := by { unfold Addr.add; split <;> rfl }; rw [e']; exact Nat.lt_of_lt_of_le hab HJ.out.2.size
          have hPB := HALL.out k2 hlx
          have HST := hide (foldl_take (updN freeU) st xs hlx)
          obtain ⟨x, hx⟩ : ∃ x, xs[k2]'hlx = x := ⟨_, rfl⟩
          rw [hx] at hac hPB HST
          obtain ⟨a, ha, hax⟩ : ∃ a : Nat, a < n ∧ x = a := by unfold pgB at hPB; simp at hPB; exact ⟨x.toNat, by omega, by omega⟩
          subst hax
          obtain ⟨st1, hst⟩ : ∃ st1, (xs.take k2).foldl (updN freeU) st = st1 := ⟨_, rfl⟩
          rw [hst] at HJ HST
          have HBX2 := hide (HJ.out.2.blk HBX.out HNB.out)
          clear hx hPB hst
          go_wp2_with (go_at_call 37; (refine (free_one HJ.out.1 a ha bx HBX2.out).mono ?_); rintro e w3 ⟨rfl, hp, hg⟩; have HK := hide (And.intro hp (HJ.out.2.trans (Fr.of_grown (F := fun j => j = sb) hg (fun k e => by injection e with e; exact e.symm)) (fun _ _ h => h))); clear hp hg)
          go_roundw
          case rel => exact ⟨k2 + 1, by omega, by go_num, by rw [HST.out]; exact HK⟩
          case measure => simp [intOf]; omega
        · have e : k2 = k := by omega
          subst e
          go_wp2
          go_ret
          have := HJ.out
          rw [List.take_of_length_le (by rw [HL.out]; exact Nat.le_refl _)] at this
          exact ⟨rfl, this⟩
theorem puse_ok (h : Pg w F pb sb db n left S L N seq root frm st) (A : Option Addr) (m c : Nat) (xs : List Int) (hr : NB w w.heap.size A m xs) (hm : m ≤ 200000) (hA : ∀ ad, A = some ad → ad.block ≠ sb) (hall : allPg n xs = true) :
    Calls Try.prog 16 #[.pointer (some ⟨pb, 0, none⟩), .slice A m c] w fun e w' => e = .returned (.int .i64 0) ∧ Pg w' F pb sb db n left S L N seq root frm (xs.foldl (updN useU) st) ∧ Fr (fun j => j = sb) w w' := by
  have HC := hide (each_use (h.below ((Below.refl w.heap.size w).alloc (Nat.le_refl _) (.cells #[.pointer (some ⟨pb, 0, none⟩)] TPP))) A m c xs ((hr.below ((Below.refl w.heap.size w).alloc (Nat.le_refl _) (.cells #[.pointer (some ⟨pb, 0, none⟩)] TPP))).more (by simp)) hm hA hall w.heap.size (Blk.new _ _ _))
  clear h hr
  go_enter Try.func16, Try.ntmps16
  go_wp2_with (go_at_call 36; (refine HC.out.mono ?_); rintro e w2 ⟨rfl, hp, hf⟩; have HK := hide (And.intro hp ((Fr.low ((Below.refl w.heap.size w).alloc (Nat.le_refl _) (.cells #[.pointer (some ⟨pb, 0, none⟩)] TPP))).trans hf (fun _ _ h => h))); clear hp hf)
  go_ret
  exact ⟨rfl, HK.out⟩
theorem puse_bad (h : Pg w F pb sb db n left S L N seq root frm st) (A : Option Addr) (m c : Nat) (xs : List Int) (hr : NB w w.heap.size A m xs) (hm : m ≤ 200000) (hbad : allPg n xs = false) :
    Calls Try.prog 16 #[.pointer (some ⟨pb, 0, none⟩), .slice A m c] w fun e w' => e = .returned (.int .i64 1) ∧ Below w.heap.size w w' := by
  have HC := hide (fun fv => each_bad (h.below ((Below.refl w.heap.size w).alloc (Nat.le_refl _) (.cells #[.pointer (some ⟨pb, 0, none⟩)] TPP))) A m c xs ((hr.below ((Below.refl w.heap.size w).alloc (Nat.le_refl _) (.cells #[.pointer (some ⟨pb, 0, none⟩)] TPP))).more (by simp)) hm hbad fv)
  clear h hr
  go_enter Try.func16, Try.ntmps16
  go_wp2_with (go_at_call 36; (refine (HC.out _).mono ?_); rintro e w2 ⟨rfl, hb⟩; have HK := hide (((Below.refl w.heap.size w).alloc (Nat.le_refl _) (.cells #[.pointer (some ⟨pb, 0, none⟩)] TPP)).trans (hb.mono (by simp))); clear hb)
  go_ret
  exact ⟨rfl, HK.out⟩
theorem puse_nil (w : World) (v : Value) :
    Calls Try.prog 16 #[.pointer none, v] w fun e w' => e = .returned (.int .i64 1) ∧ Below w.heap.size w w' := by
  go_enter Try.func16, Try.ntmps16
  go_wp2_with (go_at_call 36; (refine (each_nil _ _ _).mono ?_); rintro e w2 ⟨rfl, hb⟩; have HK := hide (((Below.refl w.heap.size w).alloc (Nat.le_refl _) (.cells #[.pointer none] TPP)).trans (hb.mono (by simp))); clear hb)
  go_ret
  exact ⟨rfl, HK.out⟩
theorem pfree_ok (h : Pg w F pb sb db n left S L N seq root frm st) (A : Option Addr) (m c : Nat) (xs : List Int) (hr : NB w w.heap.size A m xs) (hm : m ≤ 200000) (hA : ∀ ad, A = some ad → ad.block ≠ sb) (hall : allPg n xs = true) :
    Calls Try.prog 15 #[.pointer (some ⟨pb, 0, none⟩), .slice A m c] w fun e w' => e = .returned (.int .i64 0) ∧ Pg w' F pb sb db n left S L N seq root frm (xs.foldl (updN freeU) st) ∧ Fr (fun j => j = sb) w w' := by
  have HC := hide (each_free (h.below ((Below.refl w.heap.size w).alloc (Nat.le_refl _) (.cells #[.pointer (some ⟨pb, 0, none⟩)] TPP))) A m c xs ((hr.below ((Below.refl w.heap.size w).alloc (Nat.le_refl _) (.cells #[.pointer (some ⟨pb, 0, none⟩)] TPP))).more (by simp)) hm hA hall w.heap.size (Blk.new _ _ _))
  clear h hr
  go_enter Try.func15, Try.ntmps15
  go_wp2_with (go_at_call 36; (refine HC.out.mono ?_); rintro e w2 ⟨rfl, hp, hf⟩; have HK := hide (And.intro hp ((Fr.low ((Below.refl w.heap.size w).alloc (Nat.le_refl _) (.cells #[.pointer (some ⟨pb, 0, none⟩)] TPP))).trans hf (fun _ _ h => h))); clear hp hf)
  go_ret
  exact ⟨rfl, HK.out⟩
theorem pfree_bad (h : Pg w F pb sb db n left S L N seq root frm st) (A : Option Addr) (m c : Nat) (xs : List Int) (hr : NB w w.heap.size A m xs) (hm : m ≤ 200000) (hbad : allPg n xs = false) :
    Calls Try.prog 15 #[.pointer (some ⟨pb, 0, none⟩), .slice A m c] w fun e w' => e = .returned (.int .i64 1) ∧ Below w.heap.size w w' := by
  have HC := hide (fun fv => each_bad (h.below ((Below.refl w.heap.size w).alloc (Nat.le_refl _) (.cells #[.pointer (some ⟨pb, 0, none⟩)] TPP))) A m c xs ((hr.below ((Below.refl w.heap.size w).alloc (Nat.le_refl _) (.cells #[.pointer (some ⟨pb, 0, none⟩)] TPP))).more (by simp)) hm hbad fv)
  clear h hr
  go_enter Try.func15, Try.ntmps15
  go_wp2_with (go_at_call 36; (refine (HC.out _).mono ?_); rintro e w2 ⟨rfl, hb⟩; have HK := hide (((Below.refl w.heap.size w).alloc (Nat.le_refl _) (.cells #[.pointer (some ⟨pb, 0, none⟩)] TPP)).trans (hb.mono (by simp))); clear hb)
  go_ret
  exact ⟨rfl, HK.out⟩
theorem pfree_nil (w : World) (v : Value) :
    Calls Try.prog 15 #[.pointer none, v] w fun e w' => e = .returned (.int .i64 1) ∧ Below w.heap.size w w' := by
  go_enter Try.func15, Try.ntmps15
  go_wp2_with (go_at_call 36; (refine (each_nil _ _ _).mono ?_); rintro e w2 ⟨rfl, hb⟩; have HK := hide (((Below.refl w.heap.size w).alloc (Nat.le_refl _) (.cells #[.pointer none] TPP)).trans (hb.mono (by simp))); clear hb)
  go_ret
  exact ⟨rfl, HK.out⟩
end
end Go.Proofs.Ytddcmockdomonaa
