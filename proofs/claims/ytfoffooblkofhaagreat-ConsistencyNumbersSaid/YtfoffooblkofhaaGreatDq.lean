/- A plain operation of a region in its order. -/
import Derived.Test.YtfoffooblkofhaaGreatBq
set_option linter.unusedVariables false
set_option linter.unusedSimpArgs false
namespace Go.Proofs.YtfoffooblkofhaaGreat
open Go Go.RowKit Go.Sort Go.Lib
namespace Tx
open Sw Mm Pl
section
variable {P : Program} {ops : Array Oper} {Q : Exit → Act → World → Prop} {S : World → Prop}
/-- a plain operation of a region in its order, guarded or not -/
theorem wpList_pureX {rest : List Oper} {op : Oper} {v : Value} {a : Act} {w : World} (hw : Region.wanted op (yielded ops a.tmps) = true) (hy : (execOp a.eval op).run P w = .ok (.value v) w) (h : wpList P ops Q rest (a.put op.dst v) w) : wpList P ops Q (op :: rest) a w :=
  wpList_step fun K hK => by
    rw [if_pos hw]
    simp only [Oper.wp, hy, Oper.upon]
    exact hK _ _ h
end
end Tx
end Go.Proofs.YtfoffooblkofhaaGreat
