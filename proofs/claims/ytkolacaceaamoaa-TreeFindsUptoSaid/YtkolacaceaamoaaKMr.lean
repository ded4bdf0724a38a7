/- The memory of a tree that a law has, from round to round. -/
import Derived.Test.YtkolacaceaamoaaKMo
set_option linter.unusedSimpArgs false
set_option linter.unusedVariables false
namespace Go.Proofs.Ytkolacaceaamoaa
open Go.RowKit
/-- The tree's memory, from round to round. -/
structure NlS (w:World) (c:Pct) (tb:Nat) (m3:Pst) (wr:World):Prop where
 pg:PgS wr c m3
 tr:Blk wr tb TTr #[.pointer (some ⟨c.pb,0,none⟩)]
 nt:¬ PF m3.F c.pb c.sb tb
 pl:∀ j,PF m3.F c.pb c.sb j → w.heap.size ≤ j
 tl:w.heap.size ≤ tb
 bel:Below w.heap.size w wr
section
variable {w wr w':World} {c:Pct} {tb:Nat} {m3:Pst}
theorem NlS.below (h:NlS w c tb m3 wr) (hb:Below wr.heap.size wr w'):NlS w c tb m3 w':=⟨Pg.below h.pg hb,h.tr.below hb h.tr.lt,h.nt,h.pl,h.tl,h.bel.trans (hb.mono h.bel.size)⟩
theorem NlS.got (h:NlS w c tb m3 wr) (hp:PgS w' c m3) (hf:Fr (PF m3.F c.pb c.sb) wr w'):NlS w c tb m3 w':=⟨hp,hf.blk h.tr h.nt,h.nt,h.pl,h.tl,h.bel.trans (hf.below h.bel.size h.pl)⟩
end
end Go.Proofs.Ytkolacaceaamoaa
