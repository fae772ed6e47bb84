/-
  No cell of these rows narrows 'for every input' (looked for: loops, veiled, ifaces, maps, wideKeys, modest, calm, conditions, laid).
  DERIVED. THE GIVEN ROWS OF THIS SEAT. 10 by the template 'for every input the law returns true; each argument reads behind the call as it read before'; 0 by the template 'total and deterministic' (their statements: YtmhikkbdhboodaaGreatTotals.lean).
  GIVEN WITH THE SEED: the statements are not yours to turn. If you find one false, say at which input.
  Laid BY PROGRAM, IN A SANDBOX (cutbox-rows.mjs): the forced cells as the released guide's own fill.sh prints them over the translation eb42b688abbf4de1… (all of the seat's roots in one cut). By AI agents, Wed Nov 11 2026. No macro, syntax, notation, axiom, sorry.
-/
import Derived.Test.YtmhikkbdhboodaaGreatChecked
import GoSem.Claim
import GoSem.ClaimJoined
import GoSem.ClaimMapViews
import Derived.JoinedTies
import Derived.KernelRfl
namespace Go.Proofs.YtmhikkbdhboodaaGreat
/- THE CELL 'sum', in the pinned program and in every row, IS THE sha256 OF THE DUMP (.gsa) THAT YtmhikkbdhboodaaGreatProg.lean LOADS. Nothing in Lean hashes anything: it is a label: what it is worth is what the hold of that sum in a sandbox is worth. -/
noncomputable def Tryz.pinned : Pinned := { name := "ytmhikkbdhboodaagreat", sum := "eb42b688abbf4de1827ed37f61af3373403ee6ee48da8c19e0899f2ffbf097fe", checked := Tryz.checked }
namespace Rows
def none {H : Type} : Left H := { results := [], args := [] }

/-- 'tapsterlaw08.LimiterRuns': WHATEVER THE INPUT: true; the input reads as it did. -/
def limiterRunsSpec : ChangeSpec := { name := "limiterRuns", fn := fun _ => fun
  | [d1, d2, d3, d4] => { results := [.lit (.bool true)], args := [d1, d2, d3, d4] }
  | _ => none }
def limiterRunsRow : OpenClaim := { program := "ytmhikkbdhboodaagreat", sum := "eb42b688abbf4de1827ed37f61af3373403ee6ee48da8c19e0899f2ffbf097fe", func := "tapster/tapsterlaw08.LimiterRuns", spec := "limiterRuns", unfollowed := true, recurses := true, named := ["math/bits.divideError", "math/bits.overflowError"], apart := false }
def LimiterRunsSaid : Prop := limiterRunsRow.holds Tryz.pinned (OpenSpec.ofChange limiterRunsSpec)

/-- ITS FALSE NEIGHBOUR: 'it returns false'. Refute it at one input. -/
def limiterRunsWrong : ChangeSpec := { name := "limiterRuns", fn := fun _ => fun
  | [d1, d2, d3, d4] => { results := [.lit (.bool false)], args := [d1, d2, d3, d4] }
  | _ => none }
def LimiterRunsWrongFalsely : Prop := limiterRunsRow.holds Tryz.pinned (OpenSpec.ofChange limiterRunsWrong)

/-- 'tapsterlaw08.LimiterSteps': WHATEVER THE INPUT: true; the input reads as it did. -/
def limiterStepsSpec : ChangeSpec := { name := "limiterSteps", fn := fun _ => fun
  | [d1, d2, d3, d4, d5] => { results := [.lit (.bool true)], args := [d1, d2, d3, d4, d5] }
  | _ => none }
def limiterStepsRow : OpenClaim := { program := "ytmhikkbdhboodaagreat", sum := "eb42b688abbf4de1827ed37f61af3373403ee6ee48da8c19e0899f2ffbf097fe", func := "tapster/tapsterlaw08.LimiterSteps", spec := "limiterSteps", unfollowed := true, recurses := true, named := ["math/bits.divideError", "math/bits.overflowError"], apart := false }
def LimiterStepsSaid : Prop := limiterStepsRow.holds Tryz.pinned (OpenSpec.ofChange limiterStepsSpec)

/-- ITS FALSE NEIGHBOUR: 'it returns false'. Refute it at one input. -/
def limiterStepsWrong : ChangeSpec := { name := "limiterSteps", fn := fun _ => fun
  | [d1, d2, d3, d4, d5] => { results := [.lit (.bool false)], args := [d1, d2, d3, d4, d5] }
  | _ => none }
def LimiterStepsWrongFalsely : Prop := limiterStepsRow.holds Tryz.pinned (OpenSpec.ofChange limiterStepsWrong)

/-- 'tapsterlaw08.LimiterStates': WHATEVER THE INPUT: true; the input reads as it did. -/
def limiterStatesSpec : ChangeSpec := { name := "limiterStates", fn := fun _ => fun
  | [d1, d2, d3, d4, d5] => { results := [.lit (.bool true)], args := [d1, d2, d3, d4, d5] }
  | _ => none }
def limiterStatesRow : OpenClaim := { program := "ytmhikkbdhboodaagreat", sum := "eb42b688abbf4de1827ed37f61af3373403ee6ee48da8c19e0899f2ffbf097fe", func := "tapster/tapsterlaw08.LimiterStates", spec := "limiterStates", unfollowed := true, recurses := true, named := ["math/bits.divideError", "math/bits.overflowError"], apart := false }
def LimiterStatesSaid : Prop := limiterStatesRow.holds Tryz.pinned (OpenSpec.ofChange limiterStatesSpec)

/-- ITS FALSE NEIGHBOUR: 'it returns false'. Refute it at one input. -/
def limiterStatesWrong : ChangeSpec := { name := "limiterStates", fn := fun _ => fun
  | [d1, d2, d3, d4, d5] => { results := [.lit (.bool false)], args := [d1, d2, d3, d4, d5] }
  | _ => none }
def LimiterStatesWrongFalsely : Prop := limiterStatesRow.holds Tryz.pinned (OpenSpec.ofChange limiterStatesWrong)

/-- 'tapsterlaw10.CellsSweeps': WHATEVER THE INPUT: true; the input reads as it did. -/
def cellsSweepsSpec : ChangeSpec := { name := "cellsSweeps", fn := fun _ => fun
  | [d1, d2] => { results := [.lit (.bool true)], args := [d1, d2] }
  | _ => none }
def cellsSweepsRow : OpenClaim := { program := "ytmhikkbdhboodaagreat", sum := "eb42b688abbf4de1827ed37f61af3373403ee6ee48da8c19e0899f2ffbf097fe", func := "tapster/tapsterlaw10.CellsSweeps", spec := "cellsSweeps", unfollowed := true, recurses := true, named := ["math/bits.divideError", "math/bits.overflowError"], apart := false }
def CellsSweepsSaid : Prop := cellsSweepsRow.holds Tryz.pinned (OpenSpec.ofChange cellsSweepsSpec)

/-- ITS FALSE NEIGHBOUR: 'it returns false'. Refute it at one input. -/
def cellsSweepsWrong : ChangeSpec := { name := "cellsSweeps", fn := fun _ => fun
  | [d1, d2] => { results := [.lit (.bool false)], args := [d1, d2] }
  | _ => none }
def CellsSweepsWrongFalsely : Prop := cellsSweepsRow.holds Tryz.pinned (OpenSpec.ofChange cellsSweepsWrong)

/-- 'tapsterlaw10.CellsNewest': WHATEVER THE INPUT: true; the input reads as it did. -/
def cellsNewestSpec : ChangeSpec := { name := "cellsNewest", fn := fun _ => fun
  | [d1, d2, d3, d4] => { results := [.lit (.bool true)], args := [d1, d2, d3, d4] }
  | _ => none }
def cellsNewestRow : OpenClaim := { program := "ytmhikkbdhboodaagreat", sum := "eb42b688abbf4de1827ed37f61af3373403ee6ee48da8c19e0899f2ffbf097fe", func := "tapster/tapsterlaw10.CellsNewest", spec := "cellsNewest", unfollowed := true, recurses := true, named := ["math/bits.divideError", "math/bits.overflowError"], apart := false }
def CellsNewestSaid : Prop := cellsNewestRow.holds Tryz.pinned (OpenSpec.ofChange cellsNewestSpec)

/-- ITS FALSE NEIGHBOUR: 'it returns false'. Refute it at one input. -/
def cellsNewestWrong : ChangeSpec := { name := "cellsNewest", fn := fun _ => fun
  | [d1, d2, d3, d4] => { results := [.lit (.bool false)], args := [d1, d2, d3, d4] }
  | _ => none }
def CellsNewestWrongFalsely : Prop := cellsNewestRow.holds Tryz.pinned (OpenSpec.ofChange cellsNewestWrong)

/-- 'tapsterlaw10.CellsSteps': WHATEVER THE INPUT: true; the input reads as it did. -/
def cellsStepsSpec : ChangeSpec := { name := "cellsSteps", fn := fun _ => fun
  | [d1, d2, d3, d4, d5] => { results := [.lit (.bool true)], args := [d1, d2, d3, d4, d5] }
  | _ => none }
def cellsStepsRow : OpenClaim := { program := "ytmhikkbdhboodaagreat", sum := "eb42b688abbf4de1827ed37f61af3373403ee6ee48da8c19e0899f2ffbf097fe", func := "tapster/tapsterlaw10.CellsSteps", spec := "cellsSteps", unfollowed := true, recurses := true, named := ["math/bits.divideError", "math/bits.overflowError"], apart := false }
def CellsStepsSaid : Prop := cellsStepsRow.holds Tryz.pinned (OpenSpec.ofChange cellsStepsSpec)

/-- ITS FALSE NEIGHBOUR: 'it returns false'. Refute it at one input. -/
def cellsStepsWrong : ChangeSpec := { name := "cellsSteps", fn := fun _ => fun
  | [d1, d2, d3, d4, d5] => { results := [.lit (.bool false)], args := [d1, d2, d3, d4, d5] }
  | _ => none }
def CellsStepsWrongFalsely : Prop := cellsStepsRow.holds Tryz.pinned (OpenSpec.ofChange cellsStepsWrong)

/-- 'tapsterlaw10.CellsKeep': WHATEVER THE INPUT: true; the input reads as it did. -/
def cellsKeepSpec : ChangeSpec := { name := "cellsKeep", fn := fun _ => fun
  | [d1, d2] => { results := [.lit (.bool true)], args := [d1, d2] }
  | _ => none }
def cellsKeepRow : OpenClaim := { program := "ytmhikkbdhboodaagreat", sum := "eb42b688abbf4de1827ed37f61af3373403ee6ee48da8c19e0899f2ffbf097fe", func := "tapster/tapsterlaw10.CellsKeep", spec := "cellsKeep", unfollowed := true, recurses := true, named := ["math/bits.divideError", "math/bits.overflowError"], apart := false }
def CellsKeepSaid : Prop := cellsKeepRow.holds Tryz.pinned (OpenSpec.ofChange cellsKeepSpec)

/-- ITS FALSE NEIGHBOUR: 'it returns false'. Refute it at one input. -/
def cellsKeepWrong : ChangeSpec := { name := "cellsKeep", fn := fun _ => fun
  | [d1, d2] => { results := [.lit (.bool false)], args := [d1, d2] }
  | _ => none }
def CellsKeepWrongFalsely : Prop := cellsKeepRow.holds Tryz.pinned (OpenSpec.ofChange cellsKeepWrong)

/-- 'tapsterlaw10.CellsFull': WHATEVER THE INPUT: true; the input reads as it did. -/
def cellsFullSpec : ChangeSpec := { name := "cellsFull", fn := fun _ => fun
  | [d1, d2, d3, d4] => { results := [.lit (.bool true)], args := [d1, d2, d3, d4] }
  | _ => none }
def cellsFullRow : OpenClaim := { program := "ytmhikkbdhboodaagreat", sum := "eb42b688abbf4de1827ed37f61af3373403ee6ee48da8c19e0899f2ffbf097fe", func := "tapster/tapsterlaw10.CellsFull", spec := "cellsFull", unfollowed := true, recurses := true, named := ["math/bits.divideError", "math/bits.overflowError"], apart := false }
def CellsFullSaid : Prop := cellsFullRow.holds Tryz.pinned (OpenSpec.ofChange cellsFullSpec)

/-- ITS FALSE NEIGHBOUR: 'it returns false'. Refute it at one input. -/
def cellsFullWrong : ChangeSpec := { name := "cellsFull", fn := fun _ => fun
  | [d1, d2, d3, d4] => { results := [.lit (.bool false)], args := [d1, d2, d3, d4] }
  | _ => none }
def CellsFullWrongFalsely : Prop := cellsFullRow.holds Tryz.pinned (OpenSpec.ofChange cellsFullWrong)

/-- 'tapsterlaw10.CellsOther': WHATEVER THE INPUT: true; the input reads as it did. -/
def cellsOtherSpec : ChangeSpec := { name := "cellsOther", fn := fun _ => fun
  | [d1, d2, d3, d4] => { results := [.lit (.bool true)], args := [d1, d2, d3, d4] }
  | _ => none }
def cellsOtherRow : OpenClaim := { program := "ytmhikkbdhboodaagreat", sum := "eb42b688abbf4de1827ed37f61af3373403ee6ee48da8c19e0899f2ffbf097fe", func := "tapster/tapsterlaw10.CellsOther", spec := "cellsOther", unfollowed := true, recurses := true, named := ["math/bits.divideError", "math/bits.overflowError"], apart := false }
def CellsOtherSaid : Prop := cellsOtherRow.holds Tryz.pinned (OpenSpec.ofChange cellsOtherSpec)

/-- ITS FALSE NEIGHBOUR: 'it returns false'. Refute it at one input. -/
def cellsOtherWrong : ChangeSpec := { name := "cellsOther", fn := fun _ => fun
  | [d1, d2, d3, d4] => { results := [.lit (.bool false)], args := [d1, d2, d3, d4] }
  | _ => none }
def CellsOtherWrongFalsely : Prop := cellsOtherRow.holds Tryz.pinned (OpenSpec.ofChange cellsOtherWrong)

/-- 'tapsterlaw10.CellsCopies': WHATEVER THE INPUT: true; the input reads as it did. -/
def cellsCopiesSpec : ChangeSpec := { name := "cellsCopies", fn := fun _ => fun
  | [d1, d2] => { results := [.lit (.bool true)], args := [d1, d2] }
  | _ => none }
def cellsCopiesRow : OpenClaim := { program := "ytmhikkbdhboodaagreat", sum := "eb42b688abbf4de1827ed37f61af3373403ee6ee48da8c19e0899f2ffbf097fe", func := "tapster/tapsterlaw10.CellsCopies", spec := "cellsCopies", unfollowed := true, recurses := true, named := ["math/bits.divideError", "math/bits.overflowError"], apart := false }
def CellsCopiesSaid : Prop := cellsCopiesRow.holds Tryz.pinned (OpenSpec.ofChange cellsCopiesSpec)

/-- ITS FALSE NEIGHBOUR: 'it returns false'. Refute it at one input. -/
def cellsCopiesWrong : ChangeSpec := { name := "cellsCopies", fn := fun _ => fun
  | [d1, d2] => { results := [.lit (.bool false)], args := [d1, d2] }
  | _ => none }
def CellsCopiesWrongFalsely : Prop := cellsCopiesRow.holds Tryz.pinned (OpenSpec.ofChange cellsCopiesWrong)

/- THE SECOND FORM. 'bulk': how many values and letters a reading holds, each counted each time it is reached (what is shared counts as often as it is met; a slice's spare places count too). A statement '..UptoSaid' is the law's where the arguments, and the package variables that the reading takes, are together of bulk at most 1048576: NARROWER than '..Said'. Prove '..Said' where nothing that the law and all that it calls make is longer than what came in: it says more and counts as full. Else prove '..UptoSaid'. A law counts once. -/
mutual
def uptoBulk {H : Type} : DataW H → Nat
  | .lit (.string bytes) => bytes.length + 1
  | .lit _ => 1
  | .nil => 1
  | .ptr d => uptoBulk d + 1
  | .slice elems spare => uptoBulkAll elems + uptoBulkAll spare + 1
  | .agg parts => uptoBulkAll parts + 1
  | .iface _ d => uptoBulk d + 1
  | .map entries => uptoBulkEntries entries + 1
  | .held _ => 1
def uptoBulkAll {H : Type} : List (DataW H) → Nat
  | [] => 0
  | d :: r => uptoBulk d + uptoBulkAll r
def uptoBulkEntries {H : Type} : List (Lit × DataW H) → Nat
  | [] => 0
  | x :: r => uptoBulkEntry x + uptoBulkEntries r
def uptoBulkEntry {H : Type} : Lit × DataW H → Nat
  | (.string bytes, d) => bytes.length + uptoBulk d + 1
  | (_, d) => uptoBulk d + 1
 end
def uptoSmall : (H : Type) → List (DataW H) → Bool := fun _ ds => decide (uptoBulkAll ds ≤ 1048576)
def OpenSpec.upto (s : _root_.Go.ChangeSpec) : _root_.Go.OpenSpec := { _root_.Go.OpenSpec.ofChange s with cond := some uptoSmall }

/-- 'tapsterlaw08.LimiterRuns', WHERE WHAT IT READS IS OF BULK AT MOST 1048576: true; the input reads as it did. -/
def limiterRunsUptoRow : OpenClaim := { program := "ytmhikkbdhboodaagreat", sum := "eb42b688abbf4de1827ed37f61af3373403ee6ee48da8c19e0899f2ffbf097fe", func := "tapster/tapsterlaw08.LimiterRuns", spec := "limiterRuns", unfollowed := true, recurses := true, named := ["math/bits.divideError", "math/bits.overflowError"], apart := false, narrowed := true }
def LimiterRunsUptoSaid : Prop := limiterRunsUptoRow.holds Tryz.pinned (OpenSpec.upto limiterRunsSpec)

/-- 'tapsterlaw08.LimiterSteps', WHERE WHAT IT READS IS OF BULK AT MOST 1048576: true; the input reads as it did. -/
def limiterStepsUptoRow : OpenClaim := { program := "ytmhikkbdhboodaagreat", sum := "eb42b688abbf4de1827ed37f61af3373403ee6ee48da8c19e0899f2ffbf097fe", func := "tapster/tapsterlaw08.LimiterSteps", spec := "limiterSteps", unfollowed := true, recurses := true, named := ["math/bits.divideError", "math/bits.overflowError"], apart := false, narrowed := true }
def LimiterStepsUptoSaid : Prop := limiterStepsUptoRow.holds Tryz.pinned (OpenSpec.upto limiterStepsSpec)

/-- 'tapsterlaw08.LimiterStates', WHERE WHAT IT READS IS OF BULK AT MOST 1048576: true; the input reads as it did. -/
def limiterStatesUptoRow : OpenClaim := { program := "ytmhikkbdhboodaagreat", sum := "eb42b688abbf4de1827ed37f61af3373403ee6ee48da8c19e0899f2ffbf097fe", func := "tapster/tapsterlaw08.LimiterStates", spec := "limiterStates", unfollowed := true, recurses := true, named := ["math/bits.divideError", "math/bits.overflowError"], apart := false, narrowed := true }
def LimiterStatesUptoSaid : Prop := limiterStatesUptoRow.holds Tryz.pinned (OpenSpec.upto limiterStatesSpec)

/-- 'tapsterlaw10.CellsSweeps', WHERE WHAT IT READS IS OF BULK AT MOST 1048576: true; the input reads as it did. -/
def cellsSweepsUptoRow : OpenClaim := { program := "ytmhikkbdhboodaagreat", sum := "eb42b688abbf4de1827ed37f61af3373403ee6ee48da8c19e0899f2ffbf097fe", func := "tapster/tapsterlaw10.CellsSweeps", spec := "cellsSweeps", unfollowed := true, recurses := true, named := ["math/bits.divideError", "math/bits.overflowError"], apart := false, narrowed := true }
def CellsSweepsUptoSaid : Prop := cellsSweepsUptoRow.holds Tryz.pinned (OpenSpec.upto cellsSweepsSpec)

/-- 'tapsterlaw10.CellsNewest', WHERE WHAT IT READS IS OF BULK AT MOST 1048576: true; the input reads as it did. -/
def cellsNewestUptoRow : OpenClaim := { program := "ytmhikkbdhboodaagreat", sum := "eb42b688abbf4de1827ed37f61af3373403ee6ee48da8c19e0899f2ffbf097fe", func := "tapster/tapsterlaw10.CellsNewest", spec := "cellsNewest", unfollowed := true, recurses := true, named := ["math/bits.divideError", "math/bits.overflowError"], apart := false, narrowed := true }
def CellsNewestUptoSaid : Prop := cellsNewestUptoRow.holds Tryz.pinned (OpenSpec.upto cellsNewestSpec)

/-- 'tapsterlaw10.CellsSteps', WHERE WHAT IT READS IS OF BULK AT MOST 1048576: true; the input reads as it did. -/
def cellsStepsUptoRow : OpenClaim := { program := "ytmhikkbdhboodaagreat", sum := "eb42b688abbf4de1827ed37f61af3373403ee6ee48da8c19e0899f2ffbf097fe", func := "tapster/tapsterlaw10.CellsSteps", spec := "cellsSteps", unfollowed := true, recurses := true, named := ["math/bits.divideError", "math/bits.overflowError"], apart := false, narrowed := true }
def CellsStepsUptoSaid : Prop := cellsStepsUptoRow.holds Tryz.pinned (OpenSpec.upto cellsStepsSpec)

/-- 'tapsterlaw10.CellsKeep', WHERE WHAT IT READS IS OF BULK AT MOST 1048576: true; the input reads as it did. -/
def cellsKeepUptoRow : OpenClaim := { program := "ytmhikkbdhboodaagreat", sum := "eb42b688abbf4de1827ed37f61af3373403ee6ee48da8c19e0899f2ffbf097fe", func := "tapster/tapsterlaw10.CellsKeep", spec := "cellsKeep", unfollowed := true, recurses := true, named := ["math/bits.divideError", "math/bits.overflowError"], apart := false, narrowed := true }
def CellsKeepUptoSaid : Prop := cellsKeepUptoRow.holds Tryz.pinned (OpenSpec.upto cellsKeepSpec)

/-- 'tapsterlaw10.CellsFull', WHERE WHAT IT READS IS OF BULK AT MOST 1048576: true; the input reads as it did. -/
def cellsFullUptoRow : OpenClaim := { program := "ytmhikkbdhboodaagreat", sum := "eb42b688abbf4de1827ed37f61af3373403ee6ee48da8c19e0899f2ffbf097fe", func := "tapster/tapsterlaw10.CellsFull", spec := "cellsFull", unfollowed := true, recurses := true, named := ["math/bits.divideError", "math/bits.overflowError"], apart := false, narrowed := true }
def CellsFullUptoSaid : Prop := cellsFullUptoRow.holds Tryz.pinned (OpenSpec.upto cellsFullSpec)

/-- 'tapsterlaw10.CellsOther', WHERE WHAT IT READS IS OF BULK AT MOST 1048576: true; the input reads as it did. -/
def cellsOtherUptoRow : OpenClaim := { program := "ytmhikkbdhboodaagreat", sum := "eb42b688abbf4de1827ed37f61af3373403ee6ee48da8c19e0899f2ffbf097fe", func := "tapster/tapsterlaw10.CellsOther", spec := "cellsOther", unfollowed := true, recurses := true, named := ["math/bits.divideError", "math/bits.overflowError"], apart := false, narrowed := true }
def CellsOtherUptoSaid : Prop := cellsOtherUptoRow.holds Tryz.pinned (OpenSpec.upto cellsOtherSpec)

/-- 'tapsterlaw10.CellsCopies', WHERE WHAT IT READS IS OF BULK AT MOST 1048576: true; the input reads as it did. -/
def cellsCopiesUptoRow : OpenClaim := { program := "ytmhikkbdhboodaagreat", sum := "eb42b688abbf4de1827ed37f61af3373403ee6ee48da8c19e0899f2ffbf097fe", func := "tapster/tapsterlaw10.CellsCopies", spec := "cellsCopies", unfollowed := true, recurses := true, named := ["math/bits.divideError", "math/bits.overflowError"], apart := false, narrowed := true }
def CellsCopiesUptoSaid : Prop := cellsCopiesUptoRow.holds Tryz.pinned (OpenSpec.upto cellsCopiesSpec)

end Rows
end Go.Proofs.YtmhikkbdhboodaaGreat
