/- The law ScriptWrites returns true. -/
import Derived.Test.YtcdhngppcpgojaaDoorScrP
namespace Go.Proofs.YtcdhngppcpgojaaDoor
set_option linter.unusedSimpArgs false
set_option linter.unusedVariables false
open Go.RowKit
def bare (x : Ac) : Ac := x.at_ none 0
theorem outs_bare (l : List Ac) : outs (l.map bare) = outs l := by
  unfold outs
  rw [List.flatMap_map]
  rfl
theorem good_bare (l : List Ac) : (∀ x ∈ l.map bare, x.good) ↔ ∀ x ∈ l, x.good := by
  constructor
  · intro h x hx
    exact h (bare x) (List.mem_map_of_mem hx)
  · intro h x hx
    obtain ⟨y, hy, rfl⟩ := List.mem_map.1 hx
    exact h y hy
theorem SV_bare (l : List Ac) : SV (l.map bare) = SV l := by
  unfold SV
  by_cases h : ∀ x ∈ l, x.good
  · rw [if_pos ((good_bare l).2 h), if_pos h, outs_bare, List.length_map]
  · rw [if_neg (fun h2 => h ((good_bare l).1 h2)), if_neg h]
theorem row_apart {w : World} {b1 b2 : Nat} {e1 e2 : TypeId} {s1 s2 n1 n2 : Nat} {v1 v2 : Value} {x1 x2 : List Value} (h1 : w.ownsRow b1 e1 s1 v1 n1 x1) (h2 : w.ownsRow b2 e2 s2 v2 n2 x2) (hne : e2 ≠ e1) : ∀ g, v1.ownBlock = some g → some g ≠ v2.ownBlock := by
  intro g hg hh
  rcases h1.2 with ⟨rfl, _⟩ | ⟨g1, cap, cur, rfl, _, hc, _⟩
  · simp [Value.ownBlock] at hg
  · simp [Value.ownBlock] at hg
    subst hg
    exact own_blk_ne h2 (t := e1) hc hne hh.symm
/-- The acts so far, each of its own. -/
structure WI (w : World) (l : List Ac) (k : Nat) (v : Value) (ys : List Ac) (wr : World) : Prop where
  b : Below w.heap.size w wr
  n : ys.length = k
  e : ys.map bare = (l.take k).map bare
  m : ∀ y ∈ ys, ∃ x ∈ l, ∃ A c, y = x.at_ A c
  p : ∀ y ∈ ys, Pth wr w.heap.size y
  o : wr.ownsRow w.heap.size TAct 10 v k (ys.flatMap Ac.enc)
theorem WI.later {w wr w' : World} {l : List Ac} {k : Nat} {v : Value} {ys : List Ac} (h : WI w l k v ys wr) (hb : Below wr.heap.size wr w') : WI w l k v ys w' :=
  ⟨h.b.trans (hb.mono h.b.size), h.n, h.e, h.m, fun y hy => own_later (h.p y hy) hb, own_later h.o hb⟩
theorem WI.al {w wr : World} {l : List Ac} {k c n : Nat} {A A0 : Option Addr} {ys : List Ac} (h : WI w l k (.slice A k c) ys wr) (hl : AL w w.heap.size A0 n l) : AL wr wr.heap.size A k ys := by
  refine ⟨⟨h.n, Reads.of_own h.o⟩, fun y hy => ?_, fun y hy => ?_⟩
  · obtain ⟨x, hx, A', c', rfl⟩ := h.m y hy
    have hp := h.p _ hy
    have ho := hl.ok x hx
    exact ⟨ho.h0, ho.h1, ho.h2, ho.h3, ho.h4, ho.h5, ho.h6, ⟨ho.sl.len, Reads.of_own hp⟩, ho.hp⟩
  · obtain ⟨x, hx, A', c', rfl⟩ := h.m y hy
    exact hl.sz x hx
theorem WI.sv {w wr : World} {l : List Ac} {k : Nat} {v : Value} {ys : List Ac} (h : WI w l k v ys wr) (hk : l.length ≤ k) : SV ys = SV l := by
  rw [← SV_bare ys, h.e, List.take_of_length_le hk, SV_bare]
theorem WI.add {w wr w' : World} {l : List Ac} {k : Nat} {v v' : Value} {ys : List Ac} {x y : Ac} (h : WI w l k v ys wr) (hk : k < l.length) (hx : l[k] = x) (hy : ∃ A c, y = x.at_ A c) (hp : Pth wr w.heap.size y) (hg : wr.grownBy w' v.ownBlock) (ho : w'.ownsRow w.heap.size TAct 10 v' (k + 1) (ys.flatMap Ac.enc ++ y.enc)) : WI w l (k + 1) v' (ys ++ [y]) w' := by
  have hk2 : ∀ z, Pth wr w.heap.size z → Pth w' w.heap.size z := fun z hz => row_keep hz (fun g hg' => hg.block g (hz.lt g hg').2 (row_apart hz h.o (by decide) g hg'))
  obtain ⟨A, c, rfl⟩ := hy
  refine ⟨h.b.trans (grown_below h.o hg h.b.size), by simp [h.n], ?_, ?_, ?_, by simpa using ho⟩
  · rw [List.map_append, h.e, List.take_succ_eq_append_getElem hk, List.map_append, hx]; rfl
  · intro z hz
    rcases List.mem_append.1 hz with h1 | h1
    · exact h.m z h1
    · simp at h1; subst h1; exact ⟨x, by rw [← hx]; exact List.getElem_mem _, A, c, rfl⟩
  · intro z hz
    rcases List.mem_append.1 hz with h1 | h1
    · exact hk2 z (h.p z h1)
    · simp at h1; subst h1; exact hk2 _ hp
theorem act_info : (Tryd.prog.info? TAct).map (fun i => (i.zero, i.size, i.bytes)) = some (some (.agg #[.int .i64 0, .int .i64 0, .int .i64 0, .int .u64 0, .int .i64 0, .int .i64 0, .int .i64 0, .slice none 0 0, .string ⟨#[]⟩, .string ⟨#[]⟩]), 10, 112) := by kernel_rfl
theorem reads_cs (w : World) (t : TypeId) (cs : Array Value) : Reads (w.alloc (.cells cs t)) (w.heap.size + 1) cs.size (some ⟨w.heap.size, 0, none⟩) 1 cs.toList := by
  refine ⟨by simp, fun _ => ⟨_, rfl, Nat.lt_succ_self _, fun j y hy => ?_⟩⟩
  rw [show (⟨w.heap.size, 0, none⟩ : Addr).add j = ⟨w.heap.size, j, none⟩ by unfold Addr.add; split <;> simp_all, (Blk.new w t cs).cell, ← Array.getElem?_toList]
  exact hy
theorem enc_one (x : Ac) : ∀ u ∈ x.enc, u.oneCell' = true := by
  intro u hu
  simp [Ac.enc, Ac.cells] at hu
  rcases hu with rfl | rfl | rfl | rfl | rfl | rfl | rfl | rfl | rfl | rfl <;> rfl
set_option maxRecDepth 100000 in
set_option maxHeartbeats 1000000 in
theorem writes_any (l : List Ac) (A : Option Addr) (n c : Nat) (w : World) (h : AL w w.heap.size A n l) (hwd : Wd w) (hn : n ≤ 1048576) :
    Calls Tryd.prog 4 #[.slice A n c] w fun e w' => e = .returned (.bool true) ∧ Below w.heap.size w w' := by
  have H := hide h
  have HW := hide hwd
  have hl := h.sl.len
  obtain ⟨i0, hi0, hz0, hz1, hz2⟩ := info_parts act_info
  have HI0 := hide hi0
  have HZ0 := hide hz0
  clear h hwd hi0 hz0
  go_enter Tryd.func4, Tryd.ntmps4
  go_wp2
  go_loopw [3, 4] (fun v i wr => ∃ (k : Nat) (ys : List Ac) (A' : Option Addr) (c' : Nat), k ≤ n ∧ i = .int .i64 k ∧ v = .slice A' k c' ∧ Hid (WI w l k v ys wr)) (fun _ i _ => n - (intOf i).toNat)
  case atStart => exact ⟨0, [], none, 0, by omega, rfl, rfl, hide ⟨Below.refl _ _, rfl, rfl, (fun y hy => by cases hy), (fun y hy => by cases hy), World.ownsRow_nil _ _ _ _⟩⟩
  case round =>
    obtain ⟨k, ys, A', c', hk, rfl, rfl, HI⟩ := hrel
    by_cases hlt : k < n
    · obtain ⟨bg, o, rfl, hbg, hc⟩ := Sl.at (H.out.sl.below HI.out.b) Ac.enc_len (by omega) (by omega)
      obtain ⟨x, hx⟩ : ∃ x, l[k]'(by omega) = x := ⟨_, rfl⟩
      have hcx := hc k (by omega)
      rw [hx] at hcx
      have hxm : x ∈ l := by rw [← hx]; exact List.getElem_mem _
      have hxo := (H.out.ok x hxm).below HI.out.b
      have hxs := H.out.sz x hxm
      have z0 : bg < wr.heap.size := Nat.lt_of_lt_of_le hbg HI.out.b.size
      have HC := hide (own_any x wr (hxo.more HI.out.b.size) hxs.1)
      have HX := hide hx
      clear hx
      obtain ⟨kind, s, an, mask, okind, a, b, A, p, pc, path, owner, text⟩ := x
      have c0 := hcx 0 _ rfl
      have c1 := hcx 1 _ rfl
      have c2 := hcx 2 _ rfl
      have c3 := hcx 3 _ rfl
      have c4 := hcx 4 _ rfl
      have c5 := hcx 5 _ rfl
      have c6 := hcx 6 _ rfl
      have c7 := hcx 7 _ rfl
      have c8 := hcx 8 _ rfl
      have c9 := hcx 9 _ rfl
      simp only [Nat.add_zero] at c0
      clear hc hcx hxm hxo hxs
      simp only at c0 c1 c2 c3 c4 c5 c6 c7 c8 c9
      unfold Ac.cells at HC
      simp only at HC
      go_wp2_with (first | (go_at_call 12; (refine HC.out.mono ?_); rintro e w7 ⟨⟨Ay, cy, rfl, hp7⟩, hb7⟩; simp only [Ac.cells, Ac.at_]; have HI7 := hide (HI.out.later hb7); have HP7 := hide (own_base hp7 HI.out.b.size); have hb8 : Below w7.heap.size w7 (w7.alloc (Obj.cells #[.int .i64 kind, .int .i64 s, .int .i64 an, .int .u64 mask, .int .i64 okind, .int .i64 a, .int .i64 b, .slice Ay p cy, str owner, str text] TAct)) := (Below.refl _ _).alloc (Nat.le_refl _) _; have HI8 := hide (HI7.out.later hb8); have HP8 := hide (own_later HP7.out hb8); have HA8 := hide (reads_cs w7 TAct #[.int .i64 kind, .int .i64 s, .int .i64 an, .int .u64 mask, .int .i64 okind, .int .i64 a, .int .i64 b, .slice Ay p cy, str owner, str text]); have hl7 := HI8.out.b.size; clear hb7 hp7 hb8 c0 c1 c2 c3 c4 c5 c6 c7 c8 c9) | (at_builtin; (refine wpList_append_any _ rfl (.tmp 15) (.tmp 21) _ rfl w.heap.size TAct i0 _ 10 112 Tryd.underlying30 HI0.out HZ0.out hz1 hz2 rfl (by omega) (.slice A' k c') k (ys.flatMap Ac.enc) rfl HI8.out.o (w7.heap.size + 1) (some ⟨w7.heap.size, 0, none⟩) 1 1 (Ac.enc ⟨kind, s, an, mask, okind, a, b, Ay, p, cy, path, owner, text⟩) rfl HA8.out (enc_one _) (by unfold maxLen; omega) (by omega) hl7 ?_); intro v' w9 ho hgr _; obtain ⟨A9, c9, rfl⟩ := row_form ho; have HR9 := hide (HI8.out.add (by omega) HX.out ⟨Ay, cy, rfl⟩ HP8.out hgr ho); clear ho hgr))
      go_roundw
      case rel => exact ⟨k + 1, _, A9, c9, by omega, by go_num, rfl, HR9⟩
      case measure => simp [intOf]; omega
    · have hkn : k = n := by omega
      subst hkn
      have hsv := HI.out.sv (by omega)
      have HC1 := hide (sscript_any ys A' k c' wr (HI.out.al H.out) (HW.out.below HI.out.b) hn)
      have HB := hide HI.out.b
      obtain ⟨⟨S, E⟩, hS⟩ : ∃ S, SV l = S := ⟨_, rfl⟩
      rw [hS] at hsv
      unfold SP at HC1
      rw [hsv] at HC1
      simp only at HC1
      have HS := hide hS
      clear hS hsv HI
      go_upto_region 7 with (go_at_call 13; (refine HC1.out.mono ?_); rintro e w7 ⟨rfl, hb7⟩; have HB7 := hide (HB.out.trans (hb7.mono HB.out.size)); clear hb7)
      have HC2 := hide (rscript_any l A k c w7 ((H.out.below HB7.out).more HB7.out.size) hn)
      unfold SP at HC2
      rw [HS.out] at HC2
      simp only at HC2
      go_upto_region 8 with (go_at_call 14; (refine HC2.out.mono ?_); rintro e w8 ⟨rfl, hb8⟩; have HB8 := hide (HB7.out.trans (hb8.mono HB7.out.size)); have HC3 := hide (answers_any w8 (HW.out.below (HB7.out.trans (hb8.mono HB7.out.size)))); clear hb8)
      go_wp2_with (go_at_call 9; (refine HC3.out.mono ?_); rintro e w9 ⟨rfl, hb9⟩; have HB9 := hide (HB8.out.trans (hb9.mono HB8.out.size)); clear hb9)
      go_ret
      exact ⟨rfl, HB9.out⟩
end Go.Proofs.YtcdhngppcpgojaaDoor
