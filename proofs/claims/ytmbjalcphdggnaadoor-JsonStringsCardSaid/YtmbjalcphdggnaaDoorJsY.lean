/- Blanks change nothing: the plain laws. -/
import Derived.Test.YtmbjalcphdggnaaDoorJsX
namespace Go.Proofs.YtmbjalcphdggnaaDoor
set_option linter.unusedSimpArgs false
set_option linter.unusedVariables false
open Go.RowKit
def topS (F : Nat) (u : L8) : Got JV := (nextS u).bind fun T0 => (valF F 0 T0).bind fun r => if r.2.k = 0 then .ok r.1 else .bad r.2.ts 11
theorem parse_top {u : L8} (h : u.length ≤ 262144) : parseS u = topS (3 * u.length + 4) u := by unfold parseS; rw [if_neg (by omega)]; rfl
theorem top_more {u : L8} {F F' : Nat} (h : 3 * u.length + 1 ≤ F) (hF : F ≤ F') : topS F' u = topS F u := by
  unfold topS
  cases hn : nextS u with
  | bad p e => rfl
  | ok T0 =>
    have := nextS_W hn
    simp only [Got.bind]
    rw [valF_mono F F' 0 T0 (valF_In F 0 T0 (by omega)) hF]
theorem top_ok {u : L8} {F : Nat} {J : JV} (h : topS F u = .ok J) : ∃ T0 T1, nextS u = .ok T0 ∧ valF F 0 T0 = .ok (J, T1) ∧ T1.k = 0 := by
  unfold topS at h
  obtain ⟨T0, h0, h⟩ := Got.bind_ok h
  obtain ⟨⟨J1, T1⟩, h1, h⟩ := Got.bind_ok h
  dsimp only at h
  split at h
  · next hk =>
    injection h with h
    subst h
    exact ⟨T0, T1, h0, h1, hk⟩
  · cases h
theorem top_blank {s a : L8} (hs : blk_ s) {F : Nat} (hF : 3 * a.length + 1 ≤ F) :
    (∀ J, topS F a = .ok J → topS F (s ++ (a ++ s)) = .ok J) ∧ (∀ p e, topS F a = .bad p e → ∃ p', topS F (s ++ (a ++ s)) = .bad p' e) := by
  have hd := blk_dl hs
  have hR : ∃ Tr, nextS s = .ok Tr := ⟨_, blk_next hs⟩
  have e0 : nextS (s ++ (a ++ s)) = nextS (a ++ s) := next_bl s hs _
  refine ⟨fun J h => ?_, fun p e h => ?_⟩
  · obtain ⟨T0, T1, h0, h1, hk⟩ := top_ok h
    obtain ⟨T0', g0, x0⟩ := next_ext hd hR h0
    rcases valF_ext hd hR 0 F 0 T0 T0' J T1 x0 h1 with ⟨T1', g1, x1⟩ | ⟨z, _⟩
    · rw [Nat.add_zero] at g1
      unfold topS
      rw [e0, g0]
      simp only [Got.bind]
      rw [g1]
      simp only
      rcases x1 with ⟨q, _⟩ | ⟨_, q⟩
      · exact absurd hk q
      · rw [blk_next hs] at q
        injection q with q
        subst q
        rfl
    · omega
  · unfold topS at h ⊢
    rw [e0]
    rcases Got.bind_bad h with h0 | ⟨T0, h0, h⟩
    · obtain ⟨p', g0⟩ := next_bad hs h0
      exact ⟨p', by rw [g0]; rfl⟩
    · obtain ⟨T0', g0, x0⟩ := next_ext hd hR h0
      have hW := nextS_W h0
      rw [g0]
      simp only [Got.bind]
      rcases Got.bind_bad h with h1 | ⟨⟨J1, T1⟩, h1, h⟩
      · have he : e ≠ 0 := fun q => valF_In F 0 T0 (by omega) p (by rw [h1, q])
        obtain ⟨p', g1⟩ := valF_bad hs F 0 T0 T0' p e he x0 h1
        exact ⟨p', by rw [g1]⟩
      · rcases valF_ext hd hR 0 F 0 T0 T0' J1 T1 x0 h1 with ⟨T1', g1, x1⟩ | ⟨z, _⟩
        · rw [Nat.add_zero] at g1
          rw [g1]
          simp only
          dsimp only at h
          split at h
          · cases h
          · next hk =>
            injection h with _ he
            subst he
            rcases x1 with ⟨_, rfl⟩ | ⟨q, _⟩
            · exact ⟨_, by rw [if_neg (by exact hk)]⟩
            · exact absurd q hk
        · omega
theorem parse_blank {s a : L8} (hs : blk_ s) (hl : a.length + 2 * s.length ≤ 262144) :
    (∀ J, parseS a = .ok J → parseS (s ++ (a ++ s)) = .ok J) ∧ (∀ p e, parseS a = .bad p e → ∃ p', parseS (s ++ (a ++ s)) = .bad p' e) := by
  have hl2 : (s ++ (a ++ s)).length = a.length + 2 * s.length := by simp; omega
  rw [parse_top (by omega), parse_top (by omega)]
  rw [← top_more (u := a) (F' := 3 * (s ++ (a ++ s)).length + 4) (by omega) (by omega)]
  exact top_blank hs (by omega)
theorem val_k {F dp : Nat} {T : Tk} {r : JV × Tk} (h : valF F dp T = .ok r) : T.k ≠ 0 ∧ T.k ≠ 93 := by
  cases F with
  | zero => simp [valF] at h
  | succ F =>
    unfold valF at h
    refine ⟨fun e => ?_, fun e => ?_⟩
    · rw [if_neg (by omega), if_neg (by omega), if_neg (by omega)] at h; cases h
    · rw [if_neg (by omega), if_neg (by omega), if_neg (by omega)] at h; cases h
theorem sign_next (c : UInt8) (t : L8) (h : sgL.contains c = true) : nextS (c :: t) = .ok ⟨c.toNat, [], c :: t, t⟩ := by
  have hc : blL.contains c = false := by
    have := List.contains_iff_mem.1 h
    unfold sgL at this
    simp at this
    rcases this with rfl | rfl | rfl | rfl | rfl | rfl <;> decide
  unfold nextS
  rw [blS_no hc, List.drop_zero]
  simp only [lexS]
  rw [if_pos h]
  rfl
/-- One value in a list, up to what stands behind it. -/
theorem item {a x : L8} {J : JV} {F G : Nat} (hx : dl x) {Tr : Tk} (hR : nextS x = .ok Tr) (h : topS F a = .ok J) (hG : F ≤ G) :
    ∃ T', nextS (a ++ x) = .ok T' ∧ T'.k ≠ 93 ∧ (valF G 1 T' = .ok (J, Tr) ∨ ∃ p, valF G 1 T' = .bad p 12) := by
  obtain ⟨T0, T1, h0, h1, hk⟩ := top_ok h
  obtain ⟨T0', g0, x0⟩ := next_ext hx ⟨Tr, hR⟩ h0
  have hk93 := val_k h1
  refine ⟨T0', g0, ?_, ?_⟩
  · rcases x0 with ⟨_, rfl⟩ | ⟨q, _⟩
    · exact hk93.2
    · exact absurd q hk93.1
  · have hv := valF_ext hx ⟨Tr, hR⟩ 1 F 0 T0 T0' J T1 x0 h1
    rcases hv with ⟨T1', g1, x1⟩ | ⟨_, p, g1⟩
    · rw [Nat.zero_add] at g1
      rw [valF_mono F G 1 T0' (by rw [g1]; exact Got.In.ok _) hG, g1]
      rcases x1 with ⟨q, _⟩ | ⟨_, q⟩
      · exact absurd hk q
      · rw [hR] at q
        injection q with q
        rw [q]
        exact .inl rfl
    · rw [Nat.zero_add] at g1
      rw [valF_mono F G 1 T0' (by rw [g1]; intro p' e; injection e with _ e; cases e) hG, g1]
      exact .inr ⟨p, rfl⟩
theorem loop_ne {f kind shut dp : Nat} {T : Tk} {first : Bool} {t : L8} {ks : List L8} {vs : List JV} (h : T.k ≠ shut) (hk : kind ≠ 7) : loopF (f + 1) kind shut dp T first t ks vs = (if first then .ok T else wantS 44 T).bind fun T2 => (valF f dp T2).bind fun r => loopF f kind shut dp r.2 false t ks (vs ++ [r.1]) := by
  rw [loopF, if_neg h]
  simp only [if_neg hk]
theorem loop_end {f kind shut dp : Nat} {T : Tk} {first : Bool} {t : L8} {ks : List L8} {vs : List JV} (h : T.k = shut) : loopF (f + 1) kind shut dp T first t ks vs = (nextS T.s).bind fun T' => .ok (.mk kind t ks vs, T') := by
  rw [loopF, if_pos h]
theorem top_list {s a b : L8} {J K : JV} {F G : Nat} (hs : blk_ s) (ha : topS F a = .ok J) (hb : topS F b = .ok K) (hG : F + 5 ≤ G) :
    topS G (s ++ (91 :: (s ++ (a ++ (s ++ (44 :: (s ++ (b ++ (s ++ [93])))))))) ) = .ok (.mk 6 [] [] [J, K]) ∨ ∃ p, topS G (s ++ (91 :: (s ++ (a ++ (s ++ (44 :: (s ++ (b ++ (s ++ [93])))))))) ) = .bad p 12 := by
  obtain ⟨G, rfl⟩ : ∃ g, G = g + 5 := ⟨G - 5, by omega⟩
  have hx2 : dl (s ++ [93]) := by
    cases s with
    | nil => exact .inr ⟨93, [], rfl, .inr (.inr rfl)⟩
    | cons c t => exact .inr ⟨c, t ++ [93], rfl, .inl (hs c (List.mem_cons_self ..))⟩
  have hx1 : ∀ z : L8, dl (s ++ (44 :: z)) := fun z => by
    cases s with
    | nil => exact .inr ⟨44, z, rfl, .inr (.inl rfl)⟩
    | cons c t => exact .inr ⟨c, t ++ (44 :: z), rfl, .inl (hs c (List.mem_cons_self ..))⟩
  have n2 : nextS (s ++ [93]) = .ok ⟨93, [], [93], []⟩ := by rw [next_bl s hs, sign_next 93 [] (by decide)]; rfl
  have n1 : ∀ z : L8, nextS (s ++ (44 :: z)) = .ok ⟨44, [], 44 :: z, z⟩ := fun z => by rw [next_bl s hs, sign_next 44 z (by decide)]; rfl
  obtain ⟨Tb, b1, b2, b3⟩ := item (G := G + 1) hx2 n2 hb (by omega)
  obtain ⟨Ta, a1, a2, a3⟩ := item (G := G + 2) (hx1 (s ++ (b ++ (s ++ [93])))) (n1 _) ha (by omega)
  have n0 : ∀ z : L8, nextS (s ++ (91 :: z)) = .ok ⟨91, [], 91 :: z, z⟩ := fun z => by rw [next_bl s hs, sign_next 91 z (by decide)]; rfl
  have m1 : nextS (s ++ (a ++ (s ++ (44 :: (s ++ (b ++ (s ++ [93]))))))) = .ok Ta := by rw [next_bl s hs, a1]
  have m2 : nextS (s ++ (b ++ (s ++ [93]))) = .ok Tb := by rw [next_bl s hs, b1]
  have m3 : nextS [] = .ok ⟨0, [], [], []⟩ := rfl
  unfold topS
  rw [n0]
  simp only [Got.bind]
  have v0 : ∀ z : L8, valF (G + 5) 0 ⟨91, [], 91 :: z, z⟩ = manyF (G + 4) 6 93 1 [] ⟨91, [], 91 :: z, z⟩ := fun z => by simp [valF]
  rw [v0]
  have v1 : ∀ z : L8, nextS z = .ok Ta → manyF (G + 4) 6 93 1 [] ⟨91, [], 91 :: z, z⟩ = loopF (G + 3) 6 93 1 Ta true [] [] [] := fun z hz => by
    unfold manyF
    rw [if_neg (by omega)]
    simp only
    rw [hz]
    rfl
  rw [v1 _ m1]
  have v2 : loopF (G + 3) 6 93 1 Ta true [] [] [] = (valF (G + 2) 1 Ta).bind fun r => loopF (G + 2) 6 93 1 r.2 false [] [] [r.1] := by
    rw [loop_ne a2 (by decide)]
    rfl
  rw [v2]
  rcases a3 with a3 | ⟨p, a3⟩
  · rw [a3]
    simp only [Got.bind]
    have v3 : loopF (G + 2) 6 93 1 ⟨44, [], 44 :: (s ++ (b ++ (s ++ [93]))), s ++ (b ++ (s ++ [93]))⟩ false [] [] [J] = (valF (G + 1) 1 Tb).bind fun r => loopF (G + 1) 6 93 1 r.2 false [] [] ([J] ++ [r.1]) := by
      rw [loop_ne (by show (44 : Nat) ≠ 93; omega) (by decide)]
      have hw : (if false = true then Got.ok (⟨44, [], 44 :: (s ++ (b ++ (s ++ [93]))), s ++ (b ++ (s ++ [93]))⟩ : Tk) else wantS 44 ⟨44, [], 44 :: (s ++ (b ++ (s ++ [93]))), s ++ (b ++ (s ++ [93]))⟩) = .ok Tb := by
        rw [if_neg (by decide)]
        unfold wantS
        rw [if_pos rfl]
        exact m2
      rw [hw]
      rfl
    rw [v3]
    rcases b3 with b3 | ⟨p, b3⟩
    · rw [b3]
      simp only [Got.bind]
      have v4 : loopF (G + 1) 6 93 1 ⟨93, [], [93], []⟩ false [] [] ([J] ++ [K]) = .ok (.mk 6 [] [] [J, K], ⟨0, [], [], []⟩) := by
        rw [loop_end (show (⟨93, [], [93], []⟩ : Tk).k = 93 from rfl)]
        simp only
        rw [m3]
        rfl
      rw [v4]
      exact .inl rfl
    · rw [b3]
      exact .inr ⟨p, rfl⟩
  · rw [a3]
    exact .inr ⟨p, rfl⟩
theorem parse_list {s a b : L8} {J K : JV} (hs : blk_ s) (ha : parseS a = .ok J) (hb : parseS b = .ok K) (hla : a.length ≤ 10000) (hlb : b.length ≤ 10000) (hls : s.length ≤ 100) :
    parseS (s ++ (91 :: (s ++ (a ++ (s ++ (44 :: (s ++ (b ++ (s ++ [93])))))))) ) = .ok (.mk 6 [] [] [J, K]) ∨ ∃ p, parseS (s ++ (91 :: (s ++ (a ++ (s ++ (44 :: (s ++ (b ++ (s ++ [93])))))))) ) = .bad p 12 := by
  rw [parse_top (by omega)] at ha hb
  rw [parse_top (by simp; omega)]
  have hL : (s ++ (91 :: (s ++ (a ++ (s ++ (44 :: (s ++ (b ++ (s ++ [93])))))))) ).length = a.length + b.length + 5 * s.length + 3 := by simp; omega
  have ha' := (top_more (u := a) (F' := 3 * a.length + 3 * b.length + 4) (by omega) (by omega)).trans ha
  have hb' := (top_more (u := b) (F' := 3 * a.length + 3 * b.length + 4) (by omega) (by omega)).trans hb
  exact top_list hs ha' hb' (by omega)
end Go.Proofs.YtmbjalcphdggnaaDoor
