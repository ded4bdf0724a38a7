/- The sectors' laws: an act on both disks. -/
import Derived.Test.YthlgkhnkcjihiaaSecQ
namespace Go.Proofs.Ythlgkhnkcjihiaa
set_option linter.unusedSimpArgs false
set_option linter.unusedVariables false
open Go.RowKit
abbrev TA : TypeId := 51
/-- Both disks, each in its own blocks. -/
structure Two (w : World) (b bw : Nat) (F G : Nat → Prop) (size : Int) (s : SS) (r : RS) (N : Nat) : Prop where
  sec : Sec' w F b size s N
  ref : Ref' w G bw size r N
  ap : ∀ j, F j → ¬ G j
def FG (F G : Nat → Prop) (j : Nat) : Prop := F j ∨ G j
section
variable {w w' : World} {b bw : Nat} {F G F' G' : Nat → Prop} {size : Int} {s s' : SS} {r r' : RS} {N N' : Nat}
theorem Two.below (h : Two w b bw F G size s r N) (hb : Below w.heap.size w w') : Two w' b bw F G size s r N := ⟨h.sec.below hb, h.ref.below hb, h.ap⟩
/-- The sector's disk has turned. -/
theorem Two.left {out : Bool} {left : Int} {S : Int → Int} {L : List (Int × Int)} (h : Two w b bw F G size s r N) (hs : Sec w' F' b out left size S L N') (hf : Fr F w w') (hF : ∀ j, F' j → F j ∨ w.heap.size ≤ j) (hN : N ≤ N') (hN2 : N' ≤ 200000) : Two w' b bw F' G size ⟨out, left, S, L⟩ r N' :=
  ⟨hs, (h.ref.apart hf (fun j hg hfj => h.ap j hfj hg)).more hN hN2, fun j hj hg => (hF j hj).elim (fun h1 => h.ap j h1 hg) (fun h1 => absurd (h.ref.lt j hg) (by omega))⟩
/-- The document's disk has turned. -/
theorem Two.right {LG : List (Int × Int)} {sure : Nat} {left : Int} {out : Bool} (h : Two w b bw F G size s r N) (hr : Ref w' G' bw size LG sure left out N') (hf : Fr G w w') (hG : ∀ j, G' j → G j ∨ w.heap.size ≤ j) (hN : N ≤ N') (hN2 : N' ≤ 100000) : Two w' b bw F G' size s ⟨LG, sure, left, out⟩ N' :=
  ⟨(h.sec.apart hf (fun j hfj hg => h.ap j hfj hg)).more hN hN2, hr, fun j hj hg => (hG j hg).elim (fun h1 => h.ap j hj h1) (fun h1 => absurd (h.sec.lt j hj) (by omega))⟩
end
def ActPost (w : World) (b bw : Nat) (F G : Nat → Prop) (size : Int) (s : SS) (r : RS) (N : Nat) (a : ActV) (e : Ending) (w' : World) : Prop :=
  (∃ β, e = .returned (.bool β) ∧ (s = r.ss → β = true)) ∧ (∃ F' G', Two w' b bw F' G' size (stS size a s) (stR size a r) (N + 2) ∧ (∀ j, F' j → F j ∨ w.heap.size ≤ j) ∧ (∀ j, G' j → G j ∨ w.heap.size ≤ j)) ∧ Fr (FG F G) w w'
theorem FG.l {F G : Nat → Prop} {w w' : World} (h : Fr F w w') : Fr (FG F G) w w' := (Fr.refl (FG F G) w).trans h (fun j _ hj => .inl hj)
theorem FG.r {F G : Nat → Prop} {w w' : World} (h : Fr G w w') : Fr (FG F G) w w' := (Fr.refl (FG F G) w).trans h (fun j _ hj => .inr hj)
theorem FG.tr {F G : Nat → Prop} {a b c : World} (h : Fr (FG F G) a b) (k : Fr (FG F G) b c) : Fr (FG F G) a c := h.trans k (fun _ _ h => h)
set_option maxRecDepth 100000 in
set_option maxHeartbeats 1000000 in
theorem act_else {w : World} {b bw : Nat} {F G : Nat → Prop} {size : Int} {s : SS} {r : RS} {N : Nat} (h : Two w b bw F G size s r N) (hN : N < 99000) (kind at_ fill mask : Int) (odd : Bool)
    (h1 : kind ≠ 1) (h2 : kind ≠ 2) (h3 : kind ≠ 3) (h4 : kind ≠ 4) (h5 : kind ≠ 5) :
    Calls Try.prog 20 #[.pointer (some ⟨b, 0, none⟩), .pointer (some ⟨bw, 0, none⟩), .agg #[.int .i64 kind, .int .i64 at_, .int .u8 fill, .bool odd, .int .u64 mask]] w (ActPost w b bw F G size s r N ⟨kind, at_, fill, odd, mask⟩) := by
  have HT := hide h
  have HA := hide (h.below ((Below.refl w.heap.size w).alloc (Nat.le_refl _) (Obj.cells #[.int .i64 kind, .int .i64 at_, .int .u8 fill, .bool odd, .int .u64 mask] TA)))
  have HB0 := hide ((Below.refl w.heap.size w).alloc (Nat.le_refl _) (Obj.cells #[.int .i64 kind, .int .i64 at_, .int .u8 fill, .bool odd, .int .u64 mask] TA))
  have HK := hide (Blk.new w TA #[.int .i64 kind, .int .i64 at_, .int .u8 fill, .bool odd, .int .u64 mask])
  clear h
  have e1 : stS size ⟨kind, at_, fill, odd, mask⟩ s = s := by unfold stS; simp [h2, h3, h4, h5]
  have e2 : stR size ⟨kind, at_, fill, odd, mask⟩ r = r := by unfold stR; simp [h2, h3, h4, h5]
  have HE := hide (And.intro e1 e2)
  have d1 : (kind == 1) = false := by simpa using h1
  have d2 : (kind == 2) = false := by simpa using h2
  have d3 : (kind == 3) = false := by simpa using h3
  have d4 : (kind == 4) = false := by simpa using h4
  have d5 : (kind == 5) = false := by simpa using h5
  clear h1 h2 h3 h4 h5 e1 e2
  go_enter Try.func20, Try.ntmps20
  go_wp2_with fail
  go_ret
  refine ⟨⟨_, rfl, fun _ => rfl⟩, ⟨F, G, ?_, fun j h => .inl h, fun j h => .inl h⟩, Fr.of_below HB0.out⟩
  rw [HE.out.1, HE.out.2]
  exact ⟨HA.out.sec.more (by omega) (by omega), HA.out.ref.more (by omega) (by omega), HA.out.ap⟩
set_option maxRecDepth 100000 in
set_option maxHeartbeats 1000000 in
theorem act_3 {w : World} {b bw : Nat} {F G : Nat → Prop} {size : Int} {s : SS} {r : RS} {N : Nat} (h : Two w b bw F G size s r N) (hN : N < 99000) (at_ fill mask : Int) (odd : Bool) :
    Calls Try.prog 20 #[.pointer (some ⟨b, 0, none⟩), .pointer (some ⟨bw, 0, none⟩), .agg #[.int .i64 3, .int .i64 at_, .int .u8 fill, .bool odd, .int .u64 mask]] w (ActPost w b bw F G size s r N ⟨3, at_, fill, odd, mask⟩) := by
  obtain ⟨kind, hk⟩ : ∃ kind : Int, (3 : Int) = kind := ⟨_, rfl⟩
  rw [hk]
  have HT := hide h
  have HA := hide (h.below ((Below.refl w.heap.size w).alloc (Nat.le_refl _) (Obj.cells #[.int .i64 kind, .int .i64 at_, .int .u8 fill, .bool odd, .int .u64 mask] TA)))
  have HB0 := hide ((Below.refl w.heap.size w).alloc (Nat.le_refl _) (Obj.cells #[.int .i64 kind, .int .i64 at_, .int .u8 fill, .bool odd, .int .u64 mask] TA))
  have HK := hide (Blk.new w TA #[.int .i64 kind, .int .i64 at_, .int .u8 fill, .bool odd, .int .u64 mask])
  clear h
  have d1 : (kind == 1) = false := by simp; omega
  have d2 : (kind == 2) = false := by simp; omega
  have d3 : (kind == 3) = true := by simp; omega
  have HKD := hide hk
  clear hk
  go_enter Try.func20, Try.ntmps20
  go_wp2_with (first | (go_at_call 18; (refine (sec_barrier HA.out.sec (by omega)).mono ?_); rintro e w1 ⟨rfl, h1, hf1⟩; have H1 := hide (HA.out.left h1 hf1 (fun j hj => .inl hj) (Nat.le_refl _) (by omega)); have HF1 := hide hf1; clear h1 hf1) | (go_at_call 19; (refine (ref_barrier H1.out.ref).mono ?_); rintro e w2 ⟨rfl, h2, hf2⟩; have H2 := hide (H1.out.right h2 hf2 (fun j hj => .inl hj) (Nat.le_refl _) (by omega)); have HF2 := hide hf2; clear h2 hf2))
  go_ret
  have hk := HKD.out
  subst hk
  refine ⟨⟨_, rfl, fun e => by rw [e]; simp [RS.ss]⟩, ⟨F, G, ⟨H2.out.sec.more (by omega) (by omega), H2.out.ref.more (by omega) (by omega), H2.out.ap⟩, fun j h => .inl h, fun j h => .inl h⟩, ?_⟩
  exact FG.tr (Fr.of_below HB0.out) (FG.tr (FG.l HF1.out) (FG.r HF2.out))
set_option maxRecDepth 100000 in
set_option maxHeartbeats 1000000 in
theorem act_5 {w : World} {b bw : Nat} {F G : Nat → Prop} {size : Int} {s : SS} {r : RS} {N : Nat} (h : Two w b bw F G size s r N) (hN : N < 99000) (at_ fill mask : Int) (odd : Bool) (hm : 0 ≤ mask ∧ mask < 18446744073709551616) :
    Calls Try.prog 20 #[.pointer (some ⟨b, 0, none⟩), .pointer (some ⟨bw, 0, none⟩), .agg #[.int .i64 5, .int .i64 at_, .int .u8 fill, .bool odd, .int .u64 mask]] w (ActPost w b bw F G size s r N ⟨5, at_, fill, odd, mask⟩) := by
  obtain ⟨kind, hk⟩ : ∃ kind : Int, (5 : Int) = kind := ⟨_, rfl⟩
  rw [hk]
  have HT := hide h
  have HA := hide (h.below ((Below.refl w.heap.size w).alloc (Nat.le_refl _) (Obj.cells #[.int .i64 kind, .int .i64 at_, .int .u8 fill, .bool odd, .int .u64 mask] TA)))
  have HB0 := hide ((Below.refl w.heap.size w).alloc (Nat.le_refl _) (Obj.cells #[.int .i64 kind, .int .i64 at_, .int .u8 fill, .bool odd, .int .u64 mask] TA))
  have HK := hide (Blk.new w TA #[.int .i64 kind, .int .i64 at_, .int .u8 fill, .bool odd, .int .u64 mask])
  clear h
  have d1 : (kind == 1) = false := by simp; omega
  have d2 : (kind == 2) = false := by simp; omega
  have d3 : (kind == 3) = false := by simp; omega
  have d4 : (kind == 4) = false := by simp; omega
  have d5 : (kind == 5) = true := by simp; omega
  have HKD := hide hk
  clear hk
  go_enter Try.func20, Try.ntmps20
  go_wp2_with (first | (go_at_call 35; (refine (ref_crash HA.out.ref mask hm).mono ?_); rintro e w1 ⟨rfl, ⟨G1, h1, hG1⟩, hf1⟩; have H1 := hide (HA.out.right h1 hf1 hG1 (Nat.le_refl _) (by omega)); have HF1 := hide hf1; have HG1 := hide hG1; have kk := (HK.out.cell 4); have k1 : w1.cell? ⟨w.heap.size, 4, none⟩ = some (.int .u64 mask) := by { rw [World.cell?_of_block (hf1.block w.heap.size HK.out.lt (fun hg => absurd (HT.out.ref.lt _ hg) (by omega)))]; exact kk }; have z1 := Nat.lt_of_lt_of_le HK.out.lt hf1.size; clear h1 hf1 kk hG1) | (go_at_call 10; (refine (sec_crash H1.out.sec mask hm (by omega)).mono ?_); rintro e w2 ⟨rfl, h2, hf2⟩; have H2 := hide (H1.out.left h2 hf2 (fun j hj => .inl hj) (Nat.le_refl _) (by omega)); have HF2 := hide hf2; clear h2 hf2))
  go_ret
  have hk := HKD.out
  subst hk
  refine ⟨⟨_, rfl, fun e => rfl⟩, ⟨F, G1, ⟨H2.out.sec.more (by omega) (by omega), H2.out.ref.more (by omega) (by omega), H2.out.ap⟩, fun j h => .inl h, fun j h => (HG1.out j h).imp id (fun h => Nat.le_trans HB0.out.size h)⟩, ?_⟩
  exact FG.tr (Fr.of_below HB0.out) (FG.tr (FG.r HF1.out) (FG.l HF2.out))
end Go.Proofs.Ythlgkhnkcjihiaa
