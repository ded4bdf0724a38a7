/- The acts of the sectors' laws, as they lie in memory. -/
import Derived.Test.YthlgkhnkcjihiaaLib
namespace Go.Proofs.Ythlgkhnkcjihiaa
open Go.RowKit
def bEnc (b : Bool) : List Value := [.bool b]
abbrev BR (w : World) (B : Nat) (A : Option Addr) (n : Nat) (l : List Bool) : Prop := Sl 1 bEnc w B A n l
/-- An act. -/
structure ActV where
  kind : Int
  at_ : Int
  fill : Int
  odd : Bool
  mask : Int
def ActV.enc (x : ActV) : List Value := [.int .i64 x.kind, .int .i64 x.at_, .int .u8 x.fill, .bool x.odd, .int .u64 x.mask]
theorem ActV.enc_len (x : ActV) : x.enc.length = 5 := rfl
def ActV.ok (x : ActV) : Prop := (-9223372036854775808 ≤ x.kind ∧ x.kind < 9223372036854775808) ∧ (-9223372036854775808 ≤ x.at_ ∧ x.at_ < 9223372036854775808) ∧ (0 ≤ x.fill ∧ x.fill < 256) ∧ (0 ≤ x.mask ∧ x.mask < 18446744073709551616)
abbrev AR (w : World) (B : Nat) (A : Option Addr) (n : Nat) (l : List ActV) : Prop := Sl 5 ActV.enc w B A n l
def okActs (l : List ActV) : Prop := ∀ (i : Nat) (h : i < l.length), (l[i]).ok
end Go.Proofs.Ythlgkhnkcjihiaa
