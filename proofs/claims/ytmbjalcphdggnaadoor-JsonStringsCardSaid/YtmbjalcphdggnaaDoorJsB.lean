/- The JSON reader: what is at a place. -/
import Derived.Test.YtmbjalcphdggnaaDoorJsA
namespace Go.Proofs.YtmbjalcphdggnaaDoor
set_option linter.unusedSimpArgs false
set_option linter.unusedVariables false
open Go.RowKit
abbrev TR : TypeId := 50
def isS (s cs : L8) : Bool := match s with
  | [] => false
  | c :: _ => cs.contains c
def isDg (c : UInt8) : Bool := decide (48 ≤ c.toNat) && decide (c.toNat ≤ 57)
def digS (s : L8) : Bool := match s with
  | [] => false
  | c :: _ => isDg c
theorem drop_cons {b : L8} {i : Nat} (h : i < b.length) : b.drop i = b[i] :: b.drop (i + 1) := List.drop_eq_getElem_cons h
theorem isS_at {b cs : L8} {i : Nat} (h : i < b.length) : isS (b.drop i) cs = cs.contains b[i] := by rw [drop_cons h]; rfl
theorem isS_end {b cs : L8} {i : Nat} (h : b.length ≤ i) : isS (b.drop i) cs = false := by rw [List.drop_of_length_le h]; rfl
theorem digS_at {b : L8} {i : Nat} (h : i < b.length) : digS (b.drop i) = isDg b[i] := by rw [drop_cons h]; rfl
theorem digS_end {b : L8} {i : Nat} (h : b.length ≤ i) : digS (b.drop i) = false := by rw [List.drop_of_length_le h]; rfl
/-- A reader in memory. -/
structure Rd (w : World) (rb : Nat) (A : Option Addr) (n c : Nat) (b : L8) (at_ k ta : Nat) (tx : L8) : Prop where
  blk : Blk w rb TR #[.slice A n c, .int .i64 (at_ : Int), .int .i64 (k : Int), .int .i64 (ta : Int), .string ⟨tx.toArray⟩]
  rd : RB w w.heap.size A n b
  hc : n ≤ c
  far : ∀ ad, A = some ad → ad.block ≠ rb
  hn : n ≤ 262144
  ha : at_ ≤ n
section
variable {w w' : World} {rb : Nat} {A : Option Addr} {n c : Nat} {b : L8} {at_ k ta : Nat} {tx : L8}
theorem Rd.len (h : Rd w rb A n c b at_ k ta tx) : b.length = n := h.rd.len
theorem Rd.below (h : Rd w rb A n c b at_ k ta tx) (hb : Below w.heap.size w w') : Rd w' rb A n c b at_ k ta tx :=
  { h with blk := h.blk.below hb h.blk.lt, rd := (h.rd.below hb).more hb.size }
theorem Rd.fr {F : Nat → Prop} (h : Rd w rb A n c b at_ k ta tx) (hf : Fr F w w') (hr : ¬ F rb) (hA : ∀ ad, A = some ad → ¬ F ad.block) : Rd w' rb A n c b at_ k ta tx :=
  { h with blk := hf.blk h.blk hr, rd := (h.rd.far (Nat.le_refl _) hf hA).more hf.size }
/-- The reader's own block turned. -/
theorem Rd.own {at' k' ta' : Nat} {tx' : L8} (h : Rd w rb A n c b at_ k ta tx) (hg : w.grownBy w' (some rb)) (hB : Blk w' rb TR #[.slice A n c, .int .i64 (at' : Int), .int .i64 (k' : Int), .int .i64 (ta' : Int), .string ⟨tx'.toArray⟩]) (ha : at' ≤ n) : Rd w' rb A n c b at' k' ta' tx' :=
  { h with blk := hB, rd := (h.rd.far (Nat.le_refl _) (Fr.of_grown (F := fun j => j = rb) hg (fun k e => by injection e with e; exact e.symm)) (fun ad e => h.far ad e)).more hg.size, ha := ha }
theorem index_ge (l : L8) (c : UInt8) : decide (0 ≤ Lib.indexByte l c) = l.contains c := by
  induction l with
  | nil => rfl
  | cons x l ih =>
    have hg := Lib.indexByte_ge l c
    rw [List.contains_cons, ← ih]
    rw [show Lib.indexByte (x :: l) c = if x == c then 0 else if Lib.indexByte l c == -1 then -1 else Lib.indexByte l c + 1 from rfl]
    by_cases h : x = c
    · subst h
      simp
    · have h1 : (x == c) = false := by simpa using h
      have h2 : (c == x) = false := by simpa using fun e : c = x => h e.symm
      rw [h1, h2]
      simp only [Bool.false_eq_true, if_false, Bool.false_or]
      by_cases h0 : Lib.indexByte l c = -1
      · rw [h0]; decide
      · have h3 : (Lib.indexByte l c == -1) = false := by simpa using h0
        rw [h3]
        simp only [Bool.false_eq_true, if_false]
        simp
        omega
theorem byte_back (x : UInt8) : ((x.toNat : Int).toNat).toUInt8 = x := by simp
set_option maxRecDepth 100000 in
theorem is_any (cs : L8) (i : Nat) (h : Rd w rb A n c b at_ k ta tx) :
    Calls Tryd.prog 28 #[.pointer (some ⟨rb, 0, none⟩), .int .i64 (i : Int), .string ⟨cs.toArray⟩] w fun e w' => e = .returned (.bool (isS (b.drop i) cs)) ∧ Below w.heap.size w w' := by
  obtain ⟨so, hso⟩ : ∃ so : ByteArray, ⟨cs.toArray⟩ = so := ⟨_, rfl⟩
  have hcs : cs = so.data.toList := by rw [← hso]
  rw [hso, hcs]
  clear hso hcs
  have H := hide h
  have HL := hide h.len
  have kr := h.blk.cell; have fr := h.blk.frozen; have zr := h.blk.lt
  by_cases hi : i < n
  · obtain ⟨ad, rfl, had, hc⟩ := RB.at_ h.rd hi (by rw [h.len]; exact hi)
    have HI := hide (isS_at (cs := so.data.toList) (show i < b.length by rw [h.len]; exact hi))
    obtain ⟨x, hx⟩ : ∃ x, b[i]'(by rw [h.len]; exact hi) = x := ⟨_, rfl⟩
    rw [hx] at hc HI
    clear h hx
    go_enter Tryd.func28, Tryd.ntmps28
    go_wp2_with (go_at_call 40; (refine (Tryd.strings_IndexByte so _ _).mono ?_); rintro e w1 ⟨rfl, rfl⟩)
    go_ret
    exact ⟨by rw [HI.out, ← index_ge]; rfl, Below.refl _ _⟩
  · have HI := hide (isS_end (cs := so.data.toList) (show b.length ≤ i by rw [h.len]; omega))
    clear h
    go_enter Tryd.func28, Tryd.ntmps28
    go_wp2_with fail
    go_ret
    exact ⟨by rw [HI.out]; rfl, Below.refl _ _⟩
set_option maxRecDepth 100000 in
theorem digit_any (i : Nat) (h : Rd w rb A n c b at_ k ta tx) :
    Calls Tryd.prog 30 #[.pointer (some ⟨rb, 0, none⟩), .int .i64 (i : Int)] w fun e w' => e = .returned (.bool (digS (b.drop i))) ∧ Below w.heap.size w w' := by
  have kr := h.blk.cell; have fr := h.blk.frozen; have zr := h.blk.lt
  by_cases hi : i < n
  · obtain ⟨ad, rfl, had, hc⟩ := RB.at_ h.rd hi (by rw [h.len]; exact hi)
    have HI := hide (digS_at (show i < b.length by rw [h.len]; exact hi))
    obtain ⟨x, hx⟩ : ∃ x, b[i]'(by rw [h.len]; exact hi) = x := ⟨_, rfl⟩
    rw [hx] at hc HI
    clear h hx
    by_cases h1 : 48 ≤ x.toNat
    · have d1 : decide ((48 : Int) ≤ (x.toNat : Int)) = true := by simp; omega
      go_enter Tryd.func30, Tryd.ntmps30
      go_wp2_with fail
      go_ret
      refine ⟨?_, Below.refl _ _⟩
      rw [HI.out]
      unfold isDg
      have d2 : decide (48 ≤ x.toNat) = true := by simpa using h1
      rw [d2]
      simp
      omega
    · have d1 : decide ((48 : Int) ≤ (x.toNat : Int)) = false := by simp; omega
      go_enter Tryd.func30, Tryd.ntmps30
      go_wp2_with fail
      go_ret
      refine ⟨?_, Below.refl _ _⟩
      rw [HI.out]
      unfold isDg
      have d2 : decide (48 ≤ x.toNat) = false := by simpa using h1
      rw [d2]
      simp
  · have HI := hide (digS_end (show b.length ≤ i by rw [h.len]; omega))
    clear h
    go_enter Tryd.func30, Tryd.ntmps30
    go_wp2_with fail
    go_ret
    exact ⟨by rw [HI.out]; rfl, Below.refl _ _⟩
/-- What a text at fault gives up by. -/
def flt (ta : Nat) (e : Nat) : List PanicEntry := [{ v := .iface 44 (.agg #[.int .i64 (ta : Int), .int .i64 (e : Int)]), recovered := false }]
theorem fail_any (e0 : Nat) (h : Rd w rb A n c b at_ k ta tx) :
    Calls Tryd.prog 20 #[.pointer (some ⟨rb, 0, none⟩), .int .i64 (e0 : Int)] w fun e w' => e = .panicked (flt ta e0) ∧ Below w.heap.size w w' := by
  have kr := h.blk.cell; have fr := h.blk.frozen; have zr := h.blk.lt
  clear h
  go_enter Tryd.func20, Tryd.ntmps20
  go_wp2_with fail
  exact ⟨rfl, rfl, Below.refl _ _⟩
/-- Behind digits. -/
def runDg (s : L8) : Nat := (s.takeWhile isDg).length
theorem run_le (s : L8) : runDg s ≤ s.length := (List.takeWhile_sublist _).length_le
theorem runDg_cons (x : UInt8) (s : L8) : runDg (x :: s) = if isDg x then runDg s + 1 else 0 := by
  unfold runDg
  rw [List.takeWhile_cons]
  split <;> rfl
theorem runDg_at (i : Nat) (h : i < b.length) : runDg (b.drop i) = if isDg b[i] then runDg (b.drop (i + 1)) + 1 else 0 := by rw [drop_cons h, runDg_cons]
set_option maxRecDepth 100000 in
set_option maxHeartbeats 2000000 in
theorem digits_ok (i : Nat) (h : Rd w rb A n c b at_ k ta tx) (hd : digS (b.drop i) = true) :
    Calls Tryd.prog 45 #[.pointer (some ⟨rb, 0, none⟩), .int .i64 (i : Int)] w fun e w' => e = .returned (.int .i64 ((i + runDg (b.drop i) : Nat) : Int)) ∧ Below w.heap.size w w' := by
  have H := hide h
  have HD := hide hd
  have HL := hide h.len
  have hn := h.hn
  have hi : i < n := by
    rcases Nat.lt_or_ge i n with h1 | h1
    · exact h1
    · rw [digS_end (by rw [h.len]; exact h1)] at hd; cases hd
  clear h hd
  go_enter Tryd.func45, Tryd.ntmps45
  go_wp2_with (go_at_call 30; (refine (digit_any i H.out).mono ?_); rw [HD.out]; rintro e w1 ⟨rfl, hb⟩; have HB1 := hide hb; clear hb)
  go_loopw [1] (fun iv wr => ∃ j : Nat, i ≤ j ∧ j ≤ n ∧ iv = .int .i64 (j : Int) ∧ Hid (Below w.heap.size w wr) ∧ Hid (j + runDg (b.drop j) = i + runDg (b.drop i))) (fun iv _ => n - (intOf iv).toNat)
  case atStart => exact ⟨i, by omega, by omega, rfl, HB1, hide rfl⟩
  case round =>
    obtain ⟨j, hij, hj, rfl, HB, HR⟩ := hrel
    cases hd : digS (b.drop j)
    · have HDJ := hide hd
      have he : runDg (b.drop j) = 0 := by
        rcases Nat.lt_or_ge j b.length with h1 | h1
        · rw [runDg_at j h1]
          rw [digS_at h1] at hd
          rw [hd]
          rfl
        · rw [List.drop_of_length_le h1]; rfl
      have HJE := hide (show j = i + runDg (b.drop i) by have := HR.out; omega)
      clear hd he
      go_wp2_with (go_at_call 30; (refine (digit_any j (H.out.below HB.out)).mono ?_); rw [HDJ.out]; rintro e w2 ⟨rfl, hb⟩; have HB2 := hide (HB.out.trans (hb.mono HB.out.size)); clear hb)
      go_ret
      exact ⟨by rw [← HJE.out]; rfl, HB2.out⟩
    · have HDJ := hide hd
      have hjn : j < n := by
        rcases Nat.lt_or_ge j n with h1 | h1
        · exact h1
        · rw [digS_end (by rw [HL.out]; exact h1)] at hd; cases hd
      have hjb : j < b.length := by rw [HL.out]; exact hjn
      have he : runDg (b.drop j) = runDg (b.drop (j + 1)) + 1 := by
        rw [runDg_at j hjb]
        rw [digS_at hjb] at hd
        rw [hd]
        rfl
      have HRN := hide (show j + 1 + runDg (b.drop (j + 1)) = i + runDg (b.drop i) by have := HR.out; omega)
      clear hd he hjb
      go_wp2_with (go_at_call 30; (refine (digit_any j (H.out.below HB.out)).mono ?_); rw [HDJ.out]; rintro e w2 ⟨rfl, hb⟩; have HB2 := hide (HB.out.trans (hb.mono HB.out.size)); clear hb)
      go_roundw
      case rel => exact ⟨j + 1, by omega, by omega, by go_num, HB2, HRN⟩
      case measure => simp [intOf]; omega
set_option maxRecDepth 100000 in
theorem digits_bad (i : Nat) (h : Rd w rb A n c b at_ k ta tx) (hd : digS (b.drop i) = false) :
    Calls Tryd.prog 45 #[.pointer (some ⟨rb, 0, none⟩), .int .i64 (i : Int)] w fun e w' => e = .panicked (flt ta 11) ∧ Below w.heap.size w w' := by
  have H := hide h
  have HD := hide hd
  clear h hd
  go_enter Tryd.func45, Tryd.ntmps45
  go_wp2_with (first | (go_at_call 20; (refine (fail_any 11 (H.out.below HB1.out)).mono ?_); rintro e w2 ⟨rfl, hb⟩; have HB2 := hide (HB1.out.trans (hb.mono HB1.out.size)); clear hb) | (go_at_call 30; (refine (digit_any i H.out).mono ?_); rw [HD.out]; rintro e w1 ⟨rfl, hb⟩; have HB1 := hide hb; clear hb))
  exact ⟨rfl, rfl, HB2.out⟩
end
end Go.Proofs.YtmbjalcphdggnaaDoor
