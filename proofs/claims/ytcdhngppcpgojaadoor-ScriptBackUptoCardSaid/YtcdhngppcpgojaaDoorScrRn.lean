/- The document's act of a line: joined. -/
import Derived.Test.YtcdhngppcpgojaaDoorScrRm
namespace Go.Proofs.YtcdhngppcpgojaaDoor
set_option linter.unusedSimpArgs false
set_option linter.unusedVariables false
open Go.RowKit
theorem some_true {α : Type} {o : Option α} {b : Bool} (h : b = o.isSome) (hb : b = true) : ∃ v, o = some v := by
  cases o with
  | none => rw [h] at hb; cases hb
  | some v => exact ⟨v, rfl⟩
theorem true_some {α : Type} {o : Option α} {b : Bool} {v : α} (h : b = o.isSome) (hv : o = some v) : b = true := by rw [h, hv]; rfl
theorem rfields (w : World) (s : List UInt8) (ws : List (List UInt8)) (gw g nn c : Nat) (ok0 : Bool) (kx : Int) (hkx : kix (wat ws 0) = kx) (hL : lens ws) (hN : ws.length = nn) (h10 : 10 ≤ nn) (hnb : nn ≤ 600000001) :
    St 7 w s ws gw g nn c true ok0 #[.int .i64 kx, .int .i64 0, .int .i64 0, .int .u64 0, .int .i64 0, .int .i64 0, .int .i64 0, .slice none 0 0, .string ⟨#[]⟩, .string ⟨#[]⟩] := by
  refine seg1 w s ws gw g nn c true ok0 kx _ _ _ _ _ _ _ _ _ hL hN h10 (fun N1 ok1 h1 v1 => ?_)
  refine seg2 w s ws gw g nn c _ ok1 _ _ _ _ _ _ _ _ _ _ hL hN h10 (fun N2 ok2 h2 v2 => ?_)
  refine seg3 w s ws gw g nn c _ ok2 _ _ _ _ _ _ _ _ _ _ hL hN h10 (fun N3 ok3 h3 v3 => ?_)
  refine seg18 w s ws gw g nn c _ ok3 _ hN h10 (fun _ _ => ?_)
  refine seg4 w s ws gw g nn c _ ok3 _ _ _ _ _ _ _ _ _ _ hL hN h10 (fun N4 ok4 h4 v4 => ?_)
  refine seg5 w s ws gw g nn c _ ok4 _ _ _ _ _ _ _ _ _ _ hL hN h10 (fun N5 ok5 h5 v5 => ?_)
  refine seg6 w s ws gw g nn c _ ok5 _ _ _ _ _ _ _ _ _ _ hL hN h10 (fun N6 ok6 h6 v6 => ?_)
  refine seg7 w s ws gw g nn c _ ok6 _ _ _ _ _ _ _ _ _ _ hL hN h10 (fun N7 ok7 h7 v7 => ?_)
  refine seg8 w s ws gw g nn c _ ok7 _ _ _ _ _ _ _ _ _ _ hL hN h10 (fun N8 ok8 h8 v8 => ?_)
  refine seg30 w s ws gw g nn c _ ok8 _ hL hN h10 (fun N9 ok9 h9 v9 => ?_)
  refine seg31 w s ws gw g nn c _ ok9 N9 _ hnb (fun hng y hy => hng ?_) (fun hA hok h0 h128 hnn => ?_)
  · have k0 := hy.k0
    have hk := hy.k
    rw [hkx] at hk
    obtain ⟨n, e9, hn1, hn2, _⟩ := path_law hy.p
    have hol := hy.ol
    have e8 := v8 _ hy.o
    have en := v9 _ e9
    refine ⟨?_, true_some h9 e9, by omega, by omega, by omega⟩
    rw [true_some h1 hy.s, true_some h2 hy.n, true_some h3 hy.m, true_some h4 hy.t, true_some h5 hy.ok, true_some h6 hy.a, true_some h7 hy.b, true_some h8 hy.o]
    simp
    rw [e8]
    omega
  · simp only [Bool.and_eq_true, decide_eq_true_eq] at hA
    obtain ⟨⟨⟨⟨⟨⟨⟨⟨⟨a1, ak⟩, a2⟩, a3⟩, a4⟩, a5⟩, a6⟩, a7⟩, a8⟩, ao⟩ := hA
    obtain ⟨m, rfl⟩ : ∃ m : Nat, N9 = (m : Int) := ⟨N9.toNat, by omega⟩
    obtain ⟨x1, e1⟩ := some_true h1 a1
    obtain ⟨x2, e2⟩ := some_true h2 a2
    obtain ⟨x3, e3⟩ := some_true h3 a3
    obtain ⟨x4, e4⟩ := some_true h4 a4
    obtain ⟨x5, e5⟩ := some_true h5 a5
    obtain ⟨x6, e6⟩ := some_true h6 a6
    obtain ⟨x7, e7⟩ := some_true h7 a7
    obtain ⟨x8, e8⟩ := some_true h8 a8
    obtain ⟨x9, e9⟩ := some_true h9 hok
    have q1 := v1 _ e1
    have q2 := v2 _ e2
    have q3 := v3 _ e3
    have q4 := v4 _ e4
    have q5 := v5 _ e5
    have q6 := v6 _ e6
    have q7 := v7 _ e7
    have q8 := v8 _ e8
    have q9 := v9 _ e9
    subst q1 q2 q3 q4 q5 q6 q7 q8 q9
    have hpb := path_back (ws := ws) (n := m) e9 (by omega) (by omega)
    refine seg33 w s ws gw g nn c m kx N1 N2 x3 N5 N6 N7 N8 N4 hL hN (by omega) (by omega) (fun hp y hy => ?_) (fun l hl A' c' => ?_)
    · have := hy.p
      rw [hpb, hp] at this
      cases this
    · have hlen := (pts_len _ _ _ _ hl).2
      exact ⟨⟨kx, N1, N2, x3, N5, N6, N7, none, m, 0, l, N8, N4⟩, rfl, ⟨hkx, by simpa using ak, e1, e2, e3, e4, e5, e6, e7, e8, by show N8.length ≤ 32; omega, by rw [hpb, hl], by simp [hlen]⟩, rfl, rfl⟩
end Go.Proofs.YtcdhngppcpgojaaDoor
