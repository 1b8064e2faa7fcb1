import Derived.Test.YtgfmiladfeoldaaGreatDoorPk6
set_option linter.unusedSimpArgs false
set_option linter.unusedVariables false
set_option maxRecDepth 100000
set_option maxHeartbeats 16000000
namespace Go.Proofs.YtgfmiladfeoldaaGreatDoor
open Go.RowKit NatP
theorem Cd {l:List Nat}{x:Nat}(h:l.length=1)(hx:l[0]?=some x):val l=x:=by
 match l,h with
 | [y],_=>simp at hx;subst hx;simp[val]
theorem Ya {w w':World}{p:Addr}{v:Value}(h:Below w.heap.size w w')(hc:w.cell? p=some v):w'.cell? p=some v:=
 (h.cell (World.block_lt_of_cell? w p hc)).trans hc
open LexP
end Go.Proofs.YtgfmiladfeoldaaGreatDoor
