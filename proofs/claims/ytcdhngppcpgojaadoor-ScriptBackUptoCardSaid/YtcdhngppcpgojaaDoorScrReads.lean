/- The law ScriptReads returns true. -/
import Derived.Test.YtcdhngppcpgojaaDoorScrRp
namespace Go.Proofs.YtcdhngppcpgojaaDoor
set_option linter.unusedSimpArgs false
set_option linter.unusedVariables false
open Go.RowKit
theorem Parse.same {ws : List (List UInt8)} {x y : Ac} (h : Parse ws x) (k : Parse ws y) : x.bare = y.bare := by
  have e0 : x.kind = y.kind := h.k.symm.trans k.k
  have e1 := h.s.symm.trans k.s
  have e2 := h.n.symm.trans k.n
  have e3 := h.m.symm.trans k.m
  have e4 := h.t.symm.trans k.t
  have e5 := h.ok.symm.trans k.ok
  have e6 := h.a.symm.trans k.a
  have e7 := h.b.symm.trans k.b
  have e8 := h.o.symm.trans k.o
  have e9 := h.p.symm.trans k.p
  injection e1 with e1
  injection e2 with e2
  injection e3 with e3
  injection e4 with e4
  injection e5 with e5
  injection e6 with e6
  injection e7 with e7
  injection e8 with e8
  injection e9 with e9
  injection e9 with e9 _
  have e10 : x.p = y.p := by rw [h.pl, k.pl, e9]
  unfold Ac.bare Ac.at_
  simp only [e0, e1, e2, e3, e4, e5, e6, e7, e8, e9, e10]
/-- What is answered, in one form. -/
structure ToF (base : Nat) (ws : List (List UInt8)) (y : Ac) (ok : Bool) (w' : World) : Prop where
  r : Pth w' base y
  l : y.p = y.path.length
  b : y.p ≤ 128
  i : ∀ p ∈ y.path, in64 p.1 ∧ in64 p.2
  yes : ok = true → ∃ z, Parse ws z ∧ y.bare = z.bare
  no : ok = false → y = ac0 ∧ ∀ z, ¬ Parse ws z
theorem ToP.form {base : Nat} {ws : List (List UInt8)} {v n : Value} {e : Ending} {w' : World} (h : ToP base ws v n e w') : ∃ (y : Ac) (ok : Bool), e = .returned (.tuple #[.agg y.cells, cond ok v n]) ∧ ToF base ws y ok w' := by
  rcases h with ⟨y, A, c, he, hp, hr, hi⟩ | ⟨he, hn⟩
  · obtain ⟨m, _, hm, _, hpt⟩ := path_law hp.p
    have := (pts_len _ _ _ _ hpt).2
    exact ⟨y.at_ A c, true, he, hr, hp.pl, by show y.p ≤ 128; rw [hp.pl]; omega, hi, fun _ => ⟨y, hp, rfl⟩, fun h => by cases h⟩
  · exact ⟨ac0, false, he, World.ownsRow_nil _ _ _ _, rfl, by decide, (fun p hp => by cases hp), (fun h => by cases h), fun _ => ⟨rfl, hn⟩⟩
theorem ToF.sl {base : Nat} {ws : List (List UInt8)} {y : Ac} {ok : Bool} {w1 w' : World} (h : ToF base ws y ok w1) (hb : Below w1.heap.size w1 w') : Sl 2 pEnc w' w'.heap.size y.A y.p y.path := by
  obtain ⟨A, c, e, _, _, hs⟩ := Sl.of_owns (l := y.path) (n := y.p) (enc := pEnc) (own_later h.r hb) rfl h.l.symm rfl
  injection e with e1 _ _
  rw [e1]
  exact hs
theorem ToF.agree {b1 b2 : Nat} {ws : List (List UInt8)} {y z : Ac} {o1 o2 : Bool} {w1 w2 : World} (h : ToF b1 ws y o1 w1) (k : ToF b2 ws z o2 w2) : o1 = o2 ∧ y.bare = z.bare := by
  cases o1 <;> cases o2
  · obtain ⟨rfl, _⟩ := h.no rfl
    obtain ⟨rfl, _⟩ := k.no rfl
    exact ⟨rfl, rfl⟩
  · obtain ⟨x, hx, _⟩ := k.yes rfl
    exact absurd hx ((h.no rfl).2 x)
  · obtain ⟨x, hx, _⟩ := h.yes rfl
    exact absurd hx ((k.no rfl).2 x)
  · obtain ⟨x, hx, e1⟩ := h.yes rfl
    obtain ⟨x', hx', e2⟩ := k.yes rfl
    exact ⟨rfl, by rw [e1, e2]; exact hx.same hx'⟩
set_option maxRecDepth 100000 in
set_option maxHeartbeats 2000000 in
theorem reads_any (s : List UInt8) (w : World) (ht : Wt w.heap.size w) (hl : s.length ≤ 600000000) :
    Calls Tryd.prog 6 #[str s] w fun e w' => e = .returned (.bool true) ∧ Below w.heap.size w w' := by
  have HC1 := hide (toact_any s w ht hl)
  have HC2 := hide (fun w1 => rtoact_any s w1 hl)
  have HT := hide ht
  obtain ⟨ws, hws⟩ : ∃ ws, wordsL s = ws := ⟨_, rfl⟩
  rw [hws] at HC1 HC2
  clear ht hl hws
  go_enter Tryd.func6, Tryd.ntmps6
  go_upto_region 2 with (go_at_call 17; (refine HC1.out.mono ?_); rintro e w1 ⟨hT, hb1⟩; obtain ⟨y, ok1, rfl, hF⟩ := hT.form; have HF1 := hide hF; have HB1 := hide hb1; clear hT hF hb1; obtain ⟨kind, a1, n, mask, okind, a, b, A, p, c, path, owner, text⟩ := y; simp only [Ac.cells])
  obtain ⟨g1, hg1⟩ : ∃ g, w1.heap.size = g := ⟨_, rfl⟩
  obtain ⟨W1, hW1, hk1, hb1, hb1'⟩ : ∃ W1, w1.alloc (Obj.cells #[.int .i64 kind, .int .i64 a1, .int .i64 n, .int .u64 mask, .int .i64 okind, .int .i64 a, .int .i64 b, .slice A p c, str owner, str text] TAct) = W1 ∧ Blk W1 g1 TAct #[.int .i64 kind, .int .i64 a1, .int .i64 n, .int .u64 mask, .int .i64 okind, .int .i64 a, .int .i64 b, .slice A p c, str owner, str text] ∧ Below w.heap.size w W1 ∧ Below w1.heap.size w1 W1 := ⟨_, rfl, by rw [← hg1]; exact Blk.new _ _ _, HB1.out.trans ((Below.refl _ _).alloc HB1.out.size _), (Below.refl _ _).alloc (Nat.le_refl _) _⟩
  rw [hW1, hg1]
  have HK1 := hide hk1
  have HBW := hide hb1
  have HBX := hide hb1'
  clear hg1 hW1 hk1 hb1 hb1'
  go_upto_region 3 with (go_at_call 19; (refine (HC2.out W1).mono ?_); rintro e w2 ⟨hT, hb2⟩; obtain ⟨y2, ok2, rfl, hF⟩ := hT.form; have HF2 := hide hF; have HB2 := hide hb2; clear hT hF hb2; obtain ⟨kind', a1', n', mask', okind', a', b', A', p', c', path', owner', text'⟩ := y2; simp only [Ac.cells])
  obtain ⟨g2, hg2⟩ : ∃ g, w2.heap.size = g := ⟨_, rfl⟩
  obtain ⟨W2, hW2, hk1, hk2, hb2, hbx, hby⟩ : ∃ W2, w2.alloc (Obj.cells #[.int .i64 kind', .int .i64 a1', .int .i64 n', .int .u64 mask', .int .i64 okind', .int .i64 a', .int .i64 b', .slice A' p' c', str owner', str text'] TAct) = W2 ∧ Blk W2 g1 TAct #[.int .i64 kind, .int .i64 a1, .int .i64 n, .int .u64 mask, .int .i64 okind, .int .i64 a, .int .i64 b, .slice A p c, str owner, str text] ∧ Blk W2 g2 TAct #[.int .i64 kind', .int .i64 a1', .int .i64 n', .int .u64 mask', .int .i64 okind', .int .i64 a', .int .i64 b', .slice A' p' c', str owner', str text'] ∧ Below w.heap.size w W2 ∧ Below w1.heap.size w1 W2 ∧ Below w2.heap.size w2 W2 :=
    ⟨_, rfl, (HK1.out.below HB2.out HK1.out.lt).alloc _, by rw [← hg2]; exact Blk.new _ _ _, (HBW.out.trans (HB2.out.mono HBW.out.size)).alloc (Nat.le_trans HBW.out.size HB2.out.size) _, (HBX.out.trans (HB2.out.mono HBX.out.size)).alloc (Nat.le_trans HBX.out.size HB2.out.size) _, (Below.refl _ _).alloc (Nat.le_refl _) _⟩
  rw [hW2, hg2]
  have HS1 := hide (fun w3 (h : Below W2.heap.size W2 w3) => HF1.out.sl (hbx.trans (h.mono hbx.size)))
  have HS2 := hide (fun w3 (h : Below W2.heap.size W2 w3) => HF2.out.sl (hby.trans (h.mono hby.size)))
  have HL := hide (show p ≤ 128 ∧ p' ≤ 128 from ⟨HF1.out.b, HF2.out.b⟩)
  obtain ⟨hok, hsm⟩ := HF1.out.agree HF2.out
  have HSM := hide hsm
  have HNO := hide (show ok1 = false → (⟨kind, a1, n, mask, okind, a, b, A, p, c, path, owner, text⟩ : Ac) = ac0 from fun h => (HF1.out.no h).1)
  have HA := hide (answers_any W2 (HT.out.below hb2).wd)
  have HK1 := hide hk1
  have HK2 := hide hk2
  have HBW := hide hb2
  clear hg2 hW2 hk1 hk2 hb2 hbx hby hsm HF1 HF2 HC1 HC2 HBX HB2 HB1
  subst hok
  cases ok1
  · obtain ⟨rfl, rfl, rfl, rfl, rfl, rfl, rfl, rfl, rfl, rfl, rfl, rfl, rfl⟩ : kind = 0 ∧ a1 = 0 ∧ n = 0 ∧ mask = 0 ∧ okind = 0 ∧ a = 0 ∧ b = 0 ∧ A = none ∧ p = 0 ∧ c = 0 ∧ path = [] ∧ owner = [] ∧ text = [] := by
      have h := HNO.out rfl
      unfold ac0 at h
      injection h with h1 h2 h3 h4 h5 h6 h7 h8 h9 h10 h11 h12 h13
      exact ⟨h1, h2, h3, h4, h5, h6, h7, h8, h9, h10, h11, h12, h13⟩
    clear HSM HNO HL HS2
    have k1 := HK1.out.cell; have z1 := HK1.out.lt
    go_wp2_with (first | (go_at_call 9; (refine HA.out.mono ?_); rintro e w3 ⟨rfl, hb3⟩; have HB3 := hide hb3; have kb := HK1.out.below hb3 HK1.out.lt; clear k1 z1; have k1 := kb.cell; have z1 := kb.lt; have HM := hide (same_any ac0 ac0 w3 (HS1.out w3 hb3) (HS1.out w3 hb3) ⟨by decide, by decide⟩); unfold Ac.cells ac0 at HM; clear hb3 kb) | (go_at_call 18; (refine HM.out.mono ?_); rintro e w4 ⟨⟨t, rfl, ht⟩, hb4⟩; obtain rfl := ht.2 rfl; have HB4 := hide (HB3.out.trans (hb4.mono HB3.out.size)); clear ht hb4))
    go_ret
    exact ⟨rfl, HBW.out.trans (HB4.out.mono HBW.out.size)⟩
  · have k1 := HK1.out.cell; have z1 := HK1.out.lt
    have k2 := HK2.out.cell; have z2 := HK2.out.lt
    clear HNO
    go_wp2_with (first | (go_at_call 9; (refine HA.out.mono ?_); rintro e w3 ⟨rfl, hb3⟩; have HB3 := hide hb3; have kb := HK1.out.below hb3 HK1.out.lt; have kc := HK2.out.below hb3 HK2.out.lt; clear k1 z1 k2 z2; have k1 := kb.cell; have z1 := kb.lt; have k2 := kc.cell; have z2 := kc.lt; have HM := hide (same_any ⟨kind, a1, n, mask, okind, a, b, A, p, c, path, owner, text⟩ ⟨kind', a1', n', mask', okind', a', b', A', p', c', path', owner', text'⟩ w3 (HS1.out w3 hb3) (HS2.out w3 hb3) ⟨by have := HL.out.1; show p ≤ 4000000; omega, by have := HL.out.2; show p' ≤ 4000000; omega⟩); unfold Ac.cells at HM; clear hb3 kb kc) | (go_at_call 18; (refine HM.out.mono ?_); rintro e w4 ⟨⟨t, rfl, ht⟩, hb4⟩; obtain rfl := ht.2 HSM.out; have HB4 := hide (HB3.out.trans (hb4.mono HB3.out.size)); clear ht hb4))
    go_ret
    exact ⟨rfl, HBW.out.trans (HB4.out.mono HBW.out.size)⟩
end Go.Proofs.YtcdhngppcpgojaaDoor
