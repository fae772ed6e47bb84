/-
  Small laws that the base's laws need. No condition.
-/
import Derived.Test.YtmhikkbdhboodaaGreatZc16
namespace Go.Proofs.YtmhikkbdhboodaaGreat
open Go.RowKit Go.Maps
set_option linter.unusedVariables false

variable {w w':World} {p p':CsP} {room nx nx':Nat} {m m':List (Int × Value)} {I:List CI}
theorem cells_apart {L:List Cl} (h:CellsAt w p room nx L):Apart L:=by
 obtain⟨I,⟨m,h⟩,rfl⟩:=h
 exact h.keys
end Go.Proofs.YtmhikkbdhboodaaGreat
