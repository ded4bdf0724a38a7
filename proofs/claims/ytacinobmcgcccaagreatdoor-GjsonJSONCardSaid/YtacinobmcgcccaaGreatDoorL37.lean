/- The reference: back, Edges. -/
import Derived.Test.YtacinobmcgcccaaGreatDoorL36
import Derived.Test.YtacinobmcgcccaaGreatDoorL31
import Derived.Test.YtacinobmcgcccaaGreatDoorL14
import Derived.Test.YtacinobmcgcccaaGreatDoorL16
import Derived.Test.YtacinobmcgcccaaGreatDoorL15
set_option linter.unusedSimpArgs false
set_option linter.unusedVariables false
namespace Go.Proofs.YtacinobmcgcccaaGreatDoor
open Go.RowKit Go.Shelf
def placeV (l:List Eg) (e:Eg):Int:=if e∈l then (l.idxOf e:Int) else -1
abbrev ER (w:World) (B:Nat) (A:Option Addr) (n:Nat) (l:List Eg):Prop:=Sl 4 Eg.enc w B A n l
def dropK:Nat→Code→Code
 | 0,c=>c
 | n+1,.seq _ b=>dropK n b
 | _,c=>c
noncomputable def BK (k:Nat):Code:=dropK k ((Tryz.f18.body).getD .skip)
noncomputable def CK (k:Nat):Code:=match BK k with
 | .seq a _=>a
 | c=>c
def PairI (outer:List Pt) (l:List Eg) (i:Nat):Prop:=(∀ a (h:a<l.length),a<i→placeV l l[a]=a∧decide (l[a].back∈l)≠decide (l[a]∈edgesL outer)) ∧ ∀ a b (ha:a<l.length) (hb:b<l.length),a<b→a<i→okE l[a] l[b]
def PairJ (l:List Eg) (i j:Nat):Prop:=∀ b (hi:i<l.length) (hb:b<l.length),i<b→b<j→okE l[i] l[b]
end Go.Proofs.YtacinobmcgcccaaGreatDoor
