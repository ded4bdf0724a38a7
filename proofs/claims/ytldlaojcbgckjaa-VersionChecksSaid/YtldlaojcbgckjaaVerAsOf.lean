/- The law VersionAsOf returns true, whatever list and time. -/
import Derived.Test.YtldlaojcbgckjaaVerC
namespace Go.Proofs.Ytldlaojcbgckjaa
set_option linter.unusedSimpArgs false
set_option linter.unusedVariables false
open Go.RowKit
theorem rasof_none {l : List Ver} {t r : Int} (h : CutAt l t 0) (hr : RAsOf l t r) : r = -1 := by
  rcases hr with ⟨h1, _⟩ | ⟨k, rfl, hk, h1, _⟩
  · exact h1
  · have := h.2.2 k hk (by omega); omega
theorem rasof_some {l : List Ver} {t r : Int} {q : Nat} (hq : q < l.length) (h : CutAt l t (q + 1)) (hr : RAsOf l t r) : r = q := by
  rcases hr with ⟨_, h2⟩ | ⟨k, rfl, hk, h1, h2⟩
  · have := h.2.1 q hq (by omega); have := h2 q hq; omega
  · rcases Nat.lt_trichotomy k q with h3 | h3 | h3
    · have := h2 q hq h3; have := h.2.1 q hq (by omega); omega
    · rw [h3]
    · have := h.2.2 k hk (by omega); omega
abbrev vblk (s t r : Int) : Obj := Obj.cells #[Value.int IntKind.i64 s, Value.int IntKind.i64 t, Value.int IntKind.i64 r] 24

set_option maxRecDepth 100000 in
set_option maxHeartbeats 1000000 in
theorem lawAsOf_any (l : List Ver) (A : Option Addr) (n c : Nat) (t : Int) (w : World) (hr : VR w w.heap.size A n l) (hn : n * 24 ≤ 140737488351232) :
    Calls Try.prog 3 #[.slice A n c, .int .i64 t] w fun e w' => e = .returned (.bool true) ∧ Below w.heap.size w w' := by
  go_enter Try.func3, Try.ntmps3
  go_wp2_with fail
  refine (own_any l A n c _ hr hn).mono ?_
  rintro e w1 ⟨A1, c1, rfl, _, hr1, hb1⟩
  have HB1 := hide hb1
  clear hb1
  go_wp2_with fail
  refine (asof_any l A1 n c1 t _ hr1 (by omega)).mono ?_
  rintro e w2 ⟨x, rfl, hx, hb⟩
  have HB2 := hide (HB1.out.trans (hb.mono HB1.out.size))
  clear hb hr1
  rcases hx with ⟨hch, rfl⟩ | ⟨hch, hcut, rfl⟩ | ⟨q, hq, hch, hcut, rfl⟩
  · unfold zeroV
    have B3 := HB2.out.alloc HB2.out.size (vblk 0 0 0)
    have K3 : Blk (w2.alloc (vblk 0 0 0)) w2.heap.size 24 #[Value.int IntKind.i64 0, Value.int IntKind.i64 0, Value.int IntKind.i64 0] := Blk.new _ _ _
    have HR := hide (hr.later B3)
    have hn' : n ≤ 9223372036854775807 := by omega
    have HB3 := hide B3
    clear B3
    go_wp2_with fail
    refine (rcheck_any l A n c _ HR.out hn').mono ?_
    rintro e w3 ⟨rfl, hb⟩
    have HB4 := hide (HB3.out.trans (hb.mono HB3.out.size))
    have K4 := hide (K3.below hb K3.lt)
    clear K3 hb HR
    go_wp2_with fail
    refine (answers_any _).mono ?_
    rintro e w4 ⟨rfl, hb⟩
    have HB5 := hide (HB4.out.trans (hb.mono HB4.out.size))
    have K5 := K4.out.below hb K4.out.lt
    have kc := K5.cell
    clear hb
    go_wp2
    go_ret
    exact ⟨rfl, HB5.out⟩
  · unfold zeroV
    have HCUT := hide hcut
    have B3 := HB2.out.alloc HB2.out.size (vblk 0 0 0)
    have K3 : Blk (w2.alloc (vblk 0 0 0)) w2.heap.size 24 #[Value.int IntKind.i64 0, Value.int IntKind.i64 0, Value.int IntKind.i64 0] := Blk.new _ _ _
    have HR := hide (hr.later B3)
    have hn' : n ≤ 9223372036854775807 := by omega
    have HB3 := hide B3
    clear B3 hcut
    go_wp2_with fail
    refine (rcheck_any l A n c _ HR.out hn').mono ?_
    rintro e w3 ⟨rfl, hb⟩
    have HB4 := hide (HB3.out.trans (hb.mono HB3.out.size))
    have K4 := hide (K3.below hb K3.lt)
    have HR4 := hide (HR.out.later hb)
    clear K3 hb HR
    go_wp2_with fail
    refine (rasof_any l A n c t _ HR4.out hn').mono ?_
    rintro e w4 ⟨k, rfl, hk, rfl⟩
    obtain rfl := rasof_none HCUT.out hk
    clear hk
    go_wp2_with fail
    refine (answers_any _).mono ?_
    rintro e w4 ⟨rfl, hb⟩
    have HB5 := hide (HB4.out.trans (hb.mono HB4.out.size))
    have K5 := K4.out.below hb K4.out.lt
    have kc := K5.cell
    clear hb
    go_wp2
    go_ret
    exact ⟨rfl, HB5.out⟩
  · unfold Ver.val
    have HCUT := hide hcut
    have B3 := HB2.out.alloc HB2.out.size (vblk l[q].s l[q].t l[q].r)
    have K3 : Blk (w2.alloc (vblk l[q].s l[q].t l[q].r)) w2.heap.size 24 #[Value.int IntKind.i64 l[q].s, Value.int IntKind.i64 l[q].t, Value.int IntKind.i64 l[q].r] := Blk.new _ _ _
    have HR := hide (hr.later B3)
    have hn' : n ≤ 9223372036854775807 := by omega
    have HB3 := hide B3
    clear B3 hcut
    go_wp2_with fail
    refine (rcheck_any l A n c _ HR.out hn').mono ?_
    rintro e w3 ⟨rfl, hb⟩
    have HB4 := hide (HB3.out.trans (hb.mono HB3.out.size))
    have K4 := hide (K3.below hb K3.lt)
    have HR4 := hide (HR.out.later hb)
    clear K3 hb HR
    go_wp2_with fail
    refine (rasof_any l A n c t _ HR4.out hn').mono ?_
    rintro e w4 ⟨k, rfl, hk, rfl⟩
    obtain rfl := rasof_some hq HCUT.out hk
    have hl := hr.len
    obtain ⟨bb, o, rfl, hbl, hc⟩ := VR.at HR4.out (by omega)
    obtain ⟨c0, c1, c2⟩ := hc q (by omega)
    have kc := K4.out.cell
    have kz := K4.out.lt
    have hqn : q < n := by omega
    clear hk hc
    go_wp2
    refine wp_region_later (by kernel_rfl) (by kernel_rfl) ?_
    repeat (first | go_big_quiet_step ((go_at_call 11; exact Calls.later (answers_any _))) | quiet_step ((go_at_call 11; exact Calls.later (answers_any _))))
    refine wpQuiet_nil ?_; intro _ hw'; obtain ⟨L, hL⟩ := hw'; subst hL
    go_wp2
    go_ret
    exact ⟨rfl, HB4.out.trans (L.h.mono HB4.out.size)⟩
end Go.Proofs.Ytldlaojcbgckjaa
