/- The sectors' laws: grown. -/
import Derived.Test.YthlgkhnkcjihiaaSecT
namespace Go.Proofs.Ythlgkhnkcjihiaa
set_option linter.unusedSimpArgs false
set_option linter.unusedVariables false
open Go.RowKit
/-- What grown answers: both disks, alike, in blocks of their own. -/
def GrownAt (w : World) (b bw : Nat) (N : Nat) (w' : World) : Prop :=
  ∃ F G r, Two w' b bw F G 6 r.ss r N ∧ (∀ j, F j → w.heap.size ≤ j) ∧ (∀ j, G j → w.heap.size ≤ j) ∧ Below w.heap.size w w'
theorem ref_empty (w : World) (size : Int) : Ref (w.alloc (Obj.cells (rk size (.slice none 0 0) 0 0 false) TR)) (fun j => j = w.heap.size) w.heap.size size [] 0 0 false 0 :=
  ⟨.slice none 0 0, [], { blk := Blk.new _ _ _, fb := rfl, row := ⟨rfl, .inl ⟨rfl, rfl⟩⟩, fu := fun g hg => by simp [Value.ownBlock] at hg, fil := fun x hx => by simp at hx, hL := rfl, hn := Nat.le_refl _, hN := by omega, hl := by omega, hsu := Nat.le_refl _, flt := fun j hj => by subst hj; simp }⟩
theorem two_new {w w1 : World} {size : Int} {b : Nat} (h : Sec w1 (fun j => w.heap.size ≤ j ∧ j < w1.heap.size) b false 0 size (fun _ => 0) [] 0) :
    Two (w1.alloc (Obj.cells (rk size (.slice none 0 0) 0 0 false) TR)) b w1.heap.size (fun j => w.heap.size ≤ j ∧ j < w1.heap.size) (fun j => j = w1.heap.size) size (RS.ss ⟨[], 0, 0, false⟩) ⟨[], 0, 0, false⟩ 0 :=
  ⟨h.below ((Below.refl _ _).alloc (Nat.le_refl _) _), ref_empty w1 size, fun j hj h => by omega⟩
set_option maxRecDepth 100000 in
set_option maxHeartbeats 1000000 in
theorem grown_any (acts : List ActV) (A : Option Addr) (n c : Nat) (w : World) (hr : AR w w.heap.size A n acts) (ho : okActs acts) (hn : n ≤ 140737488351232) :
    Calls Try.prog 8 #[.slice A n c] w fun e w' => ∃ b bw, e = .returned (.tuple #[.pointer (some ⟨b, 0, none⟩), .pointer (some ⟨bw, 0, none⟩)]) ∧ GrownAt w b bw 200 w' := by
  have HR := hide hr
  have HO := hide ho
  clear hr ho
  go_enter Try.func8, Try.ntmps8
  go_wp2_with (go_at_call 14; (refine (sec_new 6 w (by omega)).mono ?_); rintro e w1 ⟨rfl, h1, hb1⟩; have H1 := hide h1; have HB1 := hide hb1; clear h1 hb1)
  go_loopw [7] (fun i wr => ∃ j : Nat, j ≤ n ∧ j ≤ 100 ∧ i = .int .i64 j ∧ Hid (GrownAt w (w.heap.size + 1) w1.heap.size (2 * j) wr)) (fun i _ => n - (intOf i).toNat)
  case atStart => exact ⟨0, by omega, by omega, rfl, hide ⟨_, _, _, two_new H1.out, fun j hj => hj.1, fun j hj => by have := HB1.out.size; omega, bal HB1.out _⟩⟩
  case round =>
    obtain ⟨j, hj, hj6, rfl, HI⟩ := hrel
    by_cases hlt : j < n ∧ j < 100
    · obtain ⟨hlt, hlt6⟩ := hlt
      obtain ⟨F, G, r, ht, hF, hG, hb⟩ := HI.out
      obtain ⟨bg, o, rfl, hbg, hc⟩ := Sl.at (HR.out.below hb) (fun _ => rfl) (by omega) (by omega : 0 < n)
      have hll := HR.out.len
      obtain ⟨a, ha⟩ : ∃ a, acts[j] = a := ⟨_, rfl⟩
      have hok := HO.out j (by omega)
      have c0 := hc j (by omega) 0 _ rfl
      have c1 := hc j (by omega) 1 _ rfl
      have c2 := hc j (by omega) 2 _ rfl
      have c3 := hc j (by omega) 3 _ rfl
      have c4 := hc j (by omega) 4 _ rfl
      rw [ha] at c0 c1 c2 c3 c4 hok
      simp only [Nat.add_zero] at c0
      have z0 : bg < wr.heap.size := Nat.lt_of_lt_of_le hbg hb.size
      have HT := hide ht
      have HFF := hide hF
      have HGG := hide hG
      have HB := hide hb
      have HOK := hide hok
      have i60 : (j : Int) < 100 := by omega
      clear ht hF hG hb hc hok HI ha hll
      go_wp2_with (go_at_call 20; (refine (act_any HT.out (by omega) a HOK.out).mono ?_); rintro e w2 ⟨⟨β, rfl, _⟩, ⟨F', G', h2, hF', hG'⟩, hf⟩; rw [st_alike 6 a r HT.out.ref.su] at h2; have H2 := hide h2; have HF2 := hide hF'; have HG2 := hide hG'; have HFR := hide hf; clear h2 hF' hG' hf)
      go_roundw
      case rel => exact ⟨j + 1, by omega, by omega, by go_num, hide ⟨F', G', _, H2.out, fun x hx => (HF2.out x hx).elim (HFF.out x) (fun h => Nat.le_trans HB.out.size h), fun x hx => (HG2.out x hx).elim (HGG.out x) (fun h => Nat.le_trans HB.out.size h), HB.out.trans (HFR.out.below HB.out.size (fun x hx => hx.elim (HFF.out x) (HGG.out x)))⟩⟩
      case measure => simp [intOf]; omega
    · obtain ⟨F, G, r, ht, hF, hG, hb⟩ := HI.out
      have HG : Hid (GrownAt w (w.heap.size + 1) w1.heap.size 200 wr) := hide ⟨F, G, r, ⟨ht.sec.more (by omega) (by omega), ht.ref.more (by omega) (by omega), ht.ap⟩, hF, hG, hb⟩
      clear ht hF hG hb HI
      by_cases hlt2 : j < n
      · have i60 : ¬ (j : Int) < 100 := by omega
        go_wp2
        refine bodyPost_ret (v := .tuple #[.pointer (some ⟨w.heap.size + 1, 0, none⟩), .pointer (some ⟨w1.heap.size, 0, none⟩)]) (by simp [results, Try.results8, go_sem]) rfl ⟨_, _, rfl, HG.out⟩
      · go_wp2
        refine bodyPost_ret (v := .tuple #[.pointer (some ⟨w.heap.size + 1, 0, none⟩), .pointer (some ⟨w1.heap.size, 0, none⟩)]) (by simp [results, Try.results8, go_sem]) rfl ⟨_, _, rfl, HG.out⟩
end Go.Proofs.Ythlgkhnkcjihiaa
