/- Points: the reference's On; what two stretches of one line have in common. -/
import Derived.Test.YticmoijngfpeeaaGeoB
namespace Go.Proofs.Yticmoijngfpeeaa
set_option linter.unusedSimpArgs false
set_option linter.unusedVariables false
open Go.RowKit
def ronV (a b p : Pt) : Bool := (turnV a b p == 0) && (betweenV a.x b.x p.x && betweenV a.y b.y p.y)
set_option maxRecDepth 100000 in
set_option maxHeartbeats 1000000 in
theorem ron_any (a b p : Pt) (w : World) (ha : a.good) (hb : b.good) (hp : p.good) :
    Calls Try.prog 13 #[.agg #[.int .i64 a.x, .int .i64 a.y], .agg #[.int .i64 b.x, .int .i64 b.y], .agg #[.int .i64 p.x, .int .i64 p.y]] w fun e w' => e = .returned (.bool (ronV a b p)) ∧ Below w.heap.size w w' := by
  have HB0 := hide (bel3 w a b p)
  have HX0 := hide (Box3.new w a b p)
  have HV : Hid (∀ t1 t2 t3 : Bool, (turnV a b p == 0) = t1 → betweenV a.x b.x p.x = t2 → betweenV a.y b.y p.y = t3 → ronV a b p = (t1 && (t2 && t3))) := fun t1 t2 t3 h1 h2 h3 => by unfold ronV; rw [h1, h2, h3]
  go_enter Try.func13, Try.ntmps13
  go_wp2_with fail
  refine (rturn_any a b p _ ha hb hp).mono ?_
  rintro e w1 ⟨rfl, hb1⟩
  have HB1 := hide (btr HB0.out hb1)
  have HX1 := hide (HX0.out.later hb1)
  clear hb1
  cases h1 : (turnV a b p == 0)
  · have HQ := hide (HV.out _ _ _ h1 rfl rfl)
    go_wp2
    go_ret
    exact ⟨ret_bool (by rw [HQ.out]; rfl), HB1.out⟩
  · have H1 := hide h1
    obtain ⟨x3, x4, x5⟩ := HX1.out
    have k3 := x3.cell; have k4 := x4.cell; have k5 := x5.cell
    clear x3 x4 x5
    go_wp2_with fail
    refine (between_any _ _ _ _).mono ?_
    rintro e w4 ⟨rfl, rfl⟩
    cases h2 : betweenV a.x b.x p.x
    · have HQ := hide (HV.out _ _ _ H1.out h2 rfl)
      go_wp2
      go_ret
      exact ⟨ret_bool (by rw [HQ.out]; rfl), HB1.out⟩
    · have H2 := hide h2
      clear h2
      go_wp2_with fail
      refine (between_any _ _ _ _).mono ?_
      rintro e w5 ⟨rfl, rfl⟩
      have HQ := hide (HV.out _ _ _ H1.out H2.out rfl)
      go_wp2
      go_ret
      exact ⟨ret_bool (by rw [HQ.out]; rfl), HB1.out⟩

/-! Boxes that are written -/
theorem PB.set {W : World} {g : Nat} {a : Pt} (h : PB W g a) (x y : Int) : PB ((W.setCell ⟨g, 0, none⟩ (.int .i64 x)).setCell ⟨g, 1, none⟩ (.int .i64 y)) g ⟨x, y⟩ := by
  have := Blk.set_ (Blk.set_ h 0 (.int .i64 x)) 1 (.int .i64 y)
  simpa [PB] using this
theorem PB.far {W : World} {g k : Nat} {a : Pt} (h : PB W g a) (hk : g ≠ k) (x y : Value) : PB ((W.setCell ⟨k, 0, none⟩ x).setCell ⟨k, 1, none⟩ y) g a := Blk.far (Blk.far h (p := ⟨k, 0, none⟩) hk x) (p := ⟨k, 1, none⟩) hk y
theorem bset {w W : World} {k : Nat} (h : Below w.heap.size w W) (hk : w.heap.size ≤ k) (x y : Value) : Below w.heap.size w ((W.setCell ⟨k, 0, none⟩ x).setCell ⟨k, 1, none⟩ y) := (h.setCell (p := ⟨k, 0, none⟩) hk x).setCell (p := ⟨k, 1, none⟩) hk y
theorem Box4.set12 {W : World} {g : Nat} {a b c d : Pt} (h : Box4 W g a b c d) (p q : Pt) :
    Box4 ((((W.setCell ⟨g, 0, none⟩ (.int .i64 p.x)).setCell ⟨g, 1, none⟩ (.int .i64 p.y)).setCell ⟨g + 1, 0, none⟩ (.int .i64 q.x)).setCell ⟨g + 1, 1, none⟩ (.int .i64 q.y)) g p q c d :=
  ⟨(h.1.set p.x p.y).far (by omega) _ _, (h.2.1.far (by omega) _ _).set q.x q.y, (h.2.2.1.far (by omega) _ _).far (by omega) _ _, (h.2.2.2.far (by omega) _ _).far (by omega) _ _⟩
theorem Box4.set34 {W : World} {g : Nat} {a b c d : Pt} (h : Box4 W g a b c d) (p q : Pt) :
    Box4 ((((W.setCell ⟨g + 1 + 1, 0, none⟩ (.int .i64 p.x)).setCell ⟨g + 1 + 1, 1, none⟩ (.int .i64 p.y)).setCell ⟨g + 1 + 1 + 1, 0, none⟩ (.int .i64 q.x)).setCell ⟨g + 1 + 1 + 1, 1, none⟩ (.int .i64 q.y)) g a b p q :=
  ⟨(h.1.far (by omega) _ _).far (by omega) _ _, (h.2.1.far (by omega) _ _).far (by omega) _ _, (h.2.2.1.set p.x p.y).far (by omega) _ _, (h.2.2.2.far (by omega) _ _).set q.x q.y⟩

def lineQ (a b c d : Pt) : Int :=
  let k := orderV (if 0 < orderV a c then a else c) (if orderV d b < 0 then d else b)
  if 0 < k then 0 else if k = 0 then 1 else 3
def lineV (a b c d : Pt) : Int := lineQ (endsV a b).1 (endsV a b).2 (endsV c d).1 (endsV c d).2
theorem Box4.all {W : World} {g : Nat} {a b c d : Pt} (h : Box4 W g a b c d) :
    ((∀ i, W.cell? ⟨g, i, none⟩ = #[Value.int IntKind.i64 a.x, Value.int IntKind.i64 a.y][i]?) ∧ (∀ i, W.cell? ⟨g + 1, i, none⟩ = #[Value.int IntKind.i64 b.x, Value.int IntKind.i64 b.y][i]?) ∧
      (∀ i, W.cell? ⟨g + 1 + 1, i, none⟩ = #[Value.int IntKind.i64 c.x, Value.int IntKind.i64 c.y][i]?) ∧ ∀ i, W.cell? ⟨g + 1 + 1 + 1, i, none⟩ = #[Value.int IntKind.i64 d.x, Value.int IntKind.i64 d.y][i]?) ∧
    (∀ i, W.frozen? ⟨g, i, none⟩ = false) ∧ (∀ i, W.frozen? ⟨g + 1, i, none⟩ = false) ∧ (∀ i, W.frozen? ⟨g + 1 + 1, i, none⟩ = false) ∧ ∀ i, W.frozen? ⟨g + 1 + 1 + 1, i, none⟩ = false :=
  ⟨⟨Blk.cell h.1, Blk.cell h.2.1, Blk.cell h.2.2.1, Blk.cell h.2.2.2⟩, Blk.frozen h.1, Blk.frozen h.2.1, Blk.frozen h.2.2.1, Blk.frozen h.2.2.2⟩
/-! The stretch in common: its two ends' boxes, whichever was made first -/
def Two (w W : World) (g f t : Nat) (a b c d p q : Pt) : Prop := Below w.heap.size w W ∧ Box4 W g a b c d ∧ PB W f p ∧ PB W t q ∧ f ≠ t ∧ w.heap.size ≤ f ∧ w.heap.size ≤ t ∧ g + 1 + 1 + 1 < f ∧ g + 1 + 1 + 1 < t
theorem Two.later {w W W' : World} {g f t : Nat} {a b c d p q : Pt} (h : Two w W g f t a b c d p q) (hb : Below W.heap.size W W') : Two w W' g f t a b c d p q :=
  ⟨btr h.1 hb, h.2.1.later hb, h.2.2.1.later hb, h.2.2.2.1.later hb, h.2.2.2.2⟩
theorem Two.setF {w W : World} {g f t : Nat} {a b c d p q : Pt} (h : Two w W g f t a b c d p q) (r : Pt) :
    Two w ((W.setCell ⟨f, 0, none⟩ (.int .i64 r.x)).setCell ⟨f, 1, none⟩ (.int .i64 r.y)) g f t a b c d r q := by
  obtain ⟨h1, ⟨b1, b2, b3, b4⟩, h3, h4, h5, h6, h7, h8, h9⟩ := h
  exact ⟨bset h1 h6 _ _, ⟨b1.far (by omega) _ _, b2.far (by omega) _ _, b3.far (by omega) _ _, b4.far (by omega) _ _⟩, h3.set _ _, h4.far (fun e => h5 e.symm) _ _, h5, h6, h7, h8, h9⟩
theorem Two.setT {w W : World} {g f t : Nat} {a b c d p q : Pt} (h : Two w W g f t a b c d p q) (r : Pt) :
    Two w ((W.setCell ⟨t, 0, none⟩ (.int .i64 r.x)).setCell ⟨t, 1, none⟩ (.int .i64 r.y)) g f t a b c d p r := by
  obtain ⟨h1, ⟨b1, b2, b3, b4⟩, h3, h4, h5, h6, h7, h8, h9⟩ := h
  exact ⟨bset h1 h7 _ _, ⟨b1.far (by omega) _ _, b2.far (by omega) _ _, b3.far (by omega) _ _, b4.far (by omega) _ _⟩, h3.far h5 _ _, h4.set _ _, h5, h6, h7, h8, h9⟩
theorem Two.mk1 {w W : World} {a b c d : Pt} (h : Below w.heap.size w W) (hX : Box4 W w.heap.size a b c d) (p q : Pt) :
    ∃ W', (((W.alloc (Obj.cells #[Value.int IntKind.i64 p.x, Value.int IntKind.i64 p.y] 23)).alloc (Obj.cells #[Value.int IntKind.i64 q.x, Value.int IntKind.i64 q.y] 23)).drew) = W' ∧
      Two w W' w.heap.size W.heap.size (W.heap.size + 1) a b c d p q ∧ Two w W' w.heap.size (W.heap.size + 1) W.heap.size a b c d q p := by
  have hl := hX.lts.1.2.2.2
  have h1 : PB ((W.alloc (pblk p.x p.y)).alloc (pblk q.x q.y)) W.heap.size p := (PB.new W p).al _
  have h2 : PB ((W.alloc (pblk p.x p.y)).alloc (pblk q.x q.y)) (W.heap.size + 1) q := by have := PB.new (W.alloc (pblk p.x p.y)) q; simpa using this
  have hb : Below W.heap.size W ((W.alloc (pblk p.x p.y)).alloc (pblk q.x q.y)).drew := (bel2 W p q).drew
  have hX' := hX.later hb
  have hB' := btr h hb
  exact ⟨_, rfl, ⟨hB', hX', h1.drew, h2.drew, by omega, by omega, by omega, by omega, by omega⟩, ⟨hB', hX', h2.drew, h1.drew, by omega, by omega, by omega, by omega, by omega⟩⟩
theorem Two.facts {w W : World} {g f t : Nat} {a b c d p q : Pt} (h : Two w W g f t a b c d p q) :
    ((∀ i, W.cell? ⟨g, i, none⟩ = #[Value.int IntKind.i64 a.x, Value.int IntKind.i64 a.y][i]?) ∧ (∀ i, W.cell? ⟨g + 1, i, none⟩ = #[Value.int IntKind.i64 b.x, Value.int IntKind.i64 b.y][i]?) ∧
      (∀ i, W.cell? ⟨g + 1 + 1, i, none⟩ = #[Value.int IntKind.i64 c.x, Value.int IntKind.i64 c.y][i]?) ∧ ∀ i, W.cell? ⟨g + 1 + 1 + 1, i, none⟩ = #[Value.int IntKind.i64 d.x, Value.int IntKind.i64 d.y][i]?) ∧
    (∀ i, W.cell? ⟨f, i, none⟩ = #[Value.int IntKind.i64 p.x, Value.int IntKind.i64 p.y][i]?) ∧ (∀ i, W.cell? ⟨t, i, none⟩ = #[Value.int IntKind.i64 q.x, Value.int IntKind.i64 q.y][i]?) ∧
    (∀ i, W.frozen? ⟨f, i, none⟩ = false) ∧ ∀ i, W.frozen? ⟨t, i, none⟩ = false :=
  ⟨h.2.1.all.1, Blk.cell h.2.2.1, Blk.cell h.2.2.2.1, Blk.frozen h.2.2.1, Blk.frozen h.2.2.2.1⟩
theorem Two.nes {w W : World} {g f t : Nat} {a b c d p q : Pt} (h : Two w W g f t a b c d p q) : g ≠ f ∧ f ≠ g ∧ g + 1 ≠ f ∧ f ≠ g + 1 ∧ g + 1 + 1 ≠ f ∧ f ≠ g + 1 + 1 ∧ g + 1 + 1 + 1 ≠ f ∧ f ≠ g + 1 + 1 + 1 ∧ g ≠ t ∧ t ≠ g ∧ g + 1 ≠ t ∧ t ≠ g + 1 ∧ g + 1 + 1 ≠ t ∧ t ≠ g + 1 + 1 ∧ g + 1 + 1 + 1 ≠ t ∧ t ≠ g + 1 + 1 + 1 := by
  have := h.2.2.2.2; omega
theorem lineQ_of {a b c d p q : Pt} (h1 : (if 0 < orderV a c then a else c) = p) (h2 : (if orderV d b < 0 then d else b) = q) :
    lineQ a b c d = if 0 < orderV p q then 0 else if orderV p q = 0 then 1 else 3 := by
  unfold lineQ; rw [h1, h2]
set_option maxRecDepth 100000 in
set_option maxHeartbeats 1000000 in
theorem line_any (a b c d : Pt) (w : World) :
    Calls Try.prog 26 #[.agg #[.int .i64 a.x, .int .i64 a.y], .agg #[.int .i64 b.x, .int .i64 b.y], .agg #[.int .i64 c.x, .int .i64 c.y], .agg #[.int .i64 d.x, .int .i64 d.y]] w fun e w' => e = .returned (.int .i64 (lineV a b c d)) ∧ Below w.heap.size w w' := by
  have HB0 := hide (bel4 w a b c d)
  have HX0 := hide (Box4.new w a b c d)
  unfold lineV
  generalize hab : endsV a b = ab
  generalize hcd : endsV c d = cd
  obtain ⟨a1, b1⟩ := ab
  obtain ⟨c1, d1⟩ := cd
  have HAB := hide hab
  have HCD := hide hcd
  clear hab hcd
  go_enter Try.func26, Try.ntmps26
  go_wp2_with fail
  refine (ends_any a b _).mono ?_
  rintro e w1 ⟨rfl, hb1⟩
  rw [HAB.out]
  simp only
  have HB1 := hide (btr HB0.out hb1)
  have HX1 := hide (HX0.out.later hb1)
  clear hb1
  obtain ⟨⟨k1, k2, k3, k4⟩, q1, q2, q3, q4⟩ := HX1.out.all
  obtain ⟨⟨z1, z2, z3, z4⟩, _⟩ := HX1.out.lts
  go_wp2_with fail
  refine (ends_any c d _).mono ?_
  rintro e w2 ⟨rfl, hb2⟩
  rw [HCD.out]
  simp only
  have HX2 := hide (((HX1.out.set12 a1 b1).later hb2).set34 c1 d1)
  have HB2 := hide (bset (k := w.heap.size + 1 + 1 + 1) (bset (k := w.heap.size + 1 + 1) (btr (bset (bset HB1.out (Nat.le_refl _) _ _) (Nat.le_succ _) _ _) hb2) (by omega) (.int .i64 c1.x) (.int .i64 c1.y)) (by omega) (.int .i64 d1.x) (.int .i64 d1.y))
  have HY := hide ((HX1.out.set12 a1 b1).later hb2)
  clear hb2 k1 k2 k3 k4 q1 q2 q3 q4 z1 z2 z3 z4 HX1 HB1 HX0 HB0
  obtain ⟨⟨k1, k2, k3, k4⟩, q1, q2, q3, q4⟩ := HY.out.all
  obtain ⟨⟨z1, z2, z3, z4⟩, z5, z6, z7, z8⟩ := HY.out.lts
  clear HY
  go_wp2_with fail
  obtain ⟨W, hW, HB3, HX3⟩ : ∃ W, ((((w2.setCell ⟨w.heap.size + 1 + 1, 0, none⟩ (.int .i64 c1.x)).setCell ⟨w.heap.size + 1 + 1, 1, none⟩ (.int .i64 c1.y)).setCell ⟨w.heap.size + 1 + 1 + 1, 0, none⟩ (.int .i64 d1.x)).setCell ⟨w.heap.size + 1 + 1 + 1, 1, none⟩ (.int .i64 d1.y)) = W ∧ Hid (Below w.heap.size w W) ∧ Hid (Box4 W w.heap.size a1 b1 c1 d1) := ⟨_, rfl, HB2, HX2⟩
  rw [hW]
  clear hW HB2 HX2 k1 k2 k3 k4 q1 q2 q3 q4 z1 z2 z3 z4 z5 z6 z7 z8
  obtain ⟨⟨k1, k2, k3, k4⟩, q1, q2, q3, q4⟩ := HX3.out.all
  obtain ⟨⟨z1, z2, z3, z4⟩, z5, z6, z7, z8⟩ := HX3.out.lts
  go_region
  all_goals clear k1 k2 k3 k4 q1 q2 q3 q4 z1 z2 z3 z4 z5 z6 z7 z8
  all_goals first
    | (obtain ⟨W', hW, hT, _⟩ := Two.mk1 HB3.out HX3.out c1 b1
       rw [hW]
       have HT := hide hT
       clear hW hT
       have HG : Hid (w.heap.size ≤ w.heap.size) := hide (Nat.le_refl _)
       clear HB3 HX3
       generalize W.heap.size + 1 = t at *
       generalize W.heap.size = f at *)
    | (obtain ⟨W', hW, _, hT⟩ := Two.mk1 HB3.out HX3.out b1 c1
       rw [hW]
       have HT := hide hT
       clear hW hT
       have HG : Hid (w.heap.size ≤ w.heap.size) := hide (Nat.le_refl _)
       clear HB3 HX3
       generalize W.heap.size + 1 = f at *
       generalize W.heap.size = t at *)
  all_goals cases h1 : decide (0 < orderV a1 c1)
  all_goals cases h2 : decide (orderV d1 b1 < 0)
  all_goals
    first
      | (have HQ := hide (lineQ_of (a := a1) (b := b1) (c := c1) (d := d1) (p := a1) (q := d1) (if_pos (of_decide_eq_true h1)) (if_pos (of_decide_eq_true h2)))
         generalize hr : lineQ a1 b1 c1 d1 = r at HQ
         cases h3 : decide (0 < orderV a1 d1)
         all_goals cases h4 : (orderV a1 d1 == 0))
      | (have HQ := hide (lineQ_of (a := a1) (b := b1) (c := c1) (d := d1) (p := a1) (q := b1) (if_pos (of_decide_eq_true h1)) (if_neg (of_decide_eq_false h2)))
         generalize hr : lineQ a1 b1 c1 d1 = r at HQ
         cases h3 : decide (0 < orderV a1 b1)
         all_goals cases h4 : (orderV a1 b1 == 0))
      | (have HQ := hide (lineQ_of (a := a1) (b := b1) (c := c1) (d := d1) (p := c1) (q := d1) (if_neg (of_decide_eq_false h1)) (if_pos (of_decide_eq_true h2)))
         generalize hr : lineQ a1 b1 c1 d1 = r at HQ
         cases h3 : decide (0 < orderV c1 d1)
         all_goals cases h4 : (orderV c1 d1 == 0))
      | (have HQ := hide (lineQ_of (a := a1) (b := b1) (c := c1) (d := d1) (p := c1) (q := b1) (if_neg (of_decide_eq_false h1)) (if_neg (of_decide_eq_false h2)))
         generalize hr : lineQ a1 b1 c1 d1 = r at HQ
         cases h3 : decide (0 < orderV c1 b1)
         all_goals cases h4 : (orderV c1 b1 == 0))
  all_goals
    have HR := hide hr
    have HR2 : Hid (r = if (true : Bool) = true then r else r) := hide (by simp)
    clear hr HR2
    have HH3 := hide h3
    have HH4 := hide h4
    clear h3 h4
    obtain ⟨⟨k1, k2, k3, k4⟩, k5, k6, q5, q6⟩ := HT.out.facts
    obtain ⟨n1, n2, n3, n4, n5, n6, n7, n8, n9, n10, n11, n12, n13, n14, n15, n16⟩ := HT.out.nes
    have nft : f ≠ t := HT.out.2.2.2.2.1
    have ntf : t ≠ f := fun e => nft e.symm
    go_wp2_with fail
    refine (order_any _ _ _).mono ?_
    rintro e w3 ⟨rfl, hb3⟩
    have HT3 := hide (HT.out.later hb3)
    clear hb3 HT k1 k2 k3 k4 k5 k6 q5 q6
    obtain ⟨⟨k1, k2, k3, k4⟩, k5, k6, q5, q6⟩ := HT3.out.facts
    have z5 : f < w3.heap.size := HT3.out.2.2.1.lt
    have z6 : t < w3.heap.size := HT3.out.2.2.2.1.lt
    go_wp2_with fail
    refine (order_any _ _ _).mono ?_
    rintro e w4 ⟨rfl, hb4⟩
    first
      | have HT4 := hide (HT3.out.later hb4)
      | have HT4 := hide ((HT3.out.setF a1).later hb4)
    clear hb4 HT3 k1 k2 k3 k4 k5 k6 q5 q6 z5 z6
    obtain ⟨⟨k1, k2, k3, k4⟩, k5, k6, q5, q6⟩ := HT4.out.facts
    have z5 : f < w4.heap.size := HT4.out.2.2.1.lt
    have z6 : t < w4.heap.size := HT4.out.2.2.2.1.lt
    go_wp2_with fail
    refine (order_any _ _ _).mono ?_
    rintro e w5 ⟨rfl, hb5⟩
    first
      | have HT5 := hide (HT4.out.later hb5)
      | have HT5 := hide ((HT4.out.setT d1).later hb5)
    clear hb5 HT4 k1 k2 k3 k4 k5 k6 q5 q6 z5 z6 h1 h2
    have h3 := HH3.out
    have h4 := HH4.out
    go_wp2
    go_ret
    refine ⟨ret_int ?_, HT5.out.1⟩
    rw [HR.out, HQ.out]
    simp at h3 h4
    first
      | (simp [h3, h4]; done)
      | (exfalso; omega)
end Go.Proofs.Yticmoijngfpeeaa
