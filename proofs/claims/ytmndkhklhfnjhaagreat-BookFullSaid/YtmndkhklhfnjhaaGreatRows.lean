/-
  No cell of these rows narrows 'for every input' (looked for: loops, veiled, ifaces, maps, wideKeys, modest, calm, conditions, laid).
  DERIVED. THE GIVEN ROWS OF THIS SEAT. 4 by the template 'for every input the law returns true; each argument reads behind the call as it read before'; 0 by the template 'total and deterministic' (their statements: YtmndkhklhfnjhaaGreatTotals.lean).
  GIVEN WITH THE SEED: the statements are not yours to turn. If you find one false, say at which input.
  Laid BY PROGRAM, IN A SANDBOX (cutbox-rows.mjs): the forced cells as the released guide's own fill.sh prints them over the translation 5852d36add4bd44f… (all of the seat's roots in one cut). By AI agents, Wed Nov 11 2026. No macro, syntax, notation, axiom, sorry.
-/
import Derived.Test.YtmndkhklhfnjhaaGreatChecked
import GoSem.Claim
import GoSem.ClaimJoined
import GoSem.ClaimMapViews
import Derived.JoinedTies
import Derived.KernelRfl
namespace Go.Proofs.YtmndkhklhfnjhaaGreat
/- THE CELL 'sum', in the pinned program and in every row, IS THE sha256 OF THE DUMP (.gsa) THAT YtmndkhklhfnjhaaGreatProg.lean LOADS. Nothing in Lean hashes anything: it is a label: what it is worth is what the hold of that sum in a sandbox is worth. -/
noncomputable def Tryz.pinned : Pinned := { name := "ytmndkhklhfnjhaagreat", sum := "5852d36add4bd44fdeea381c8db3d134729b50522408d2127bb4747dbcd2ea44", checked := Tryz.checked }
namespace Rows
def none {H : Type} : Left H := { results := [], args := [] }

/-- 'tapsterlaw12.BookSteps': WHATEVER THE INPUT: true; the input reads as it did. -/
def bookStepsSpec : ChangeSpec := { name := "bookSteps", fn := fun _ => fun
  | [d1, d2] => { results := [.lit (.bool true)], args := [d1, d2] }
  | _ => none }
def bookStepsRow : OpenClaim := { program := "ytmndkhklhfnjhaagreat", sum := "5852d36add4bd44fdeea381c8db3d134729b50522408d2127bb4747dbcd2ea44", func := "tapster/tapsterlaw12.BookSteps", spec := "bookSteps", inPlace := ["internal/bytealg.IndexByteString", "internal/bytealg.IndexString"], unfollowed := true, recurses := true, named := ["math/bits.divideError", "math/bits.overflowError", "internal/bytealg.MaxLen"], apart := false }
def BookStepsSaid : Prop := bookStepsRow.holds Tryz.pinned (OpenSpec.ofChange bookStepsSpec)

/-- ITS FALSE NEIGHBOUR: 'it returns false'. Refute it at one input. -/
def bookStepsWrong : ChangeSpec := { name := "bookSteps", fn := fun _ => fun
  | [d1, d2] => { results := [.lit (.bool false)], args := [d1, d2] }
  | _ => none }
def BookStepsWrongFalsely : Prop := bookStepsRow.holds Tryz.pinned (OpenSpec.ofChange bookStepsWrong)

/-- 'tapsterlaw12.BookNames': WHATEVER THE INPUT: true; the input reads as it did. -/
def bookNamesSpec : ChangeSpec := { name := "bookNames", fn := fun _ => fun
  | [d] => { results := [.lit (.bool true)], args := [d] }
  | _ => none }
def bookNamesRow : OpenClaim := { program := "ytmndkhklhfnjhaagreat", sum := "5852d36add4bd44fdeea381c8db3d134729b50522408d2127bb4747dbcd2ea44", func := "tapster/tapsterlaw12.BookNames", spec := "bookNames", inPlace := ["internal/bytealg.IndexByteString", "internal/bytealg.IndexString"], unfollowed := true, recurses := true, named := ["math/bits.divideError", "math/bits.overflowError", "internal/bytealg.MaxLen"], apart := false }
def BookNamesSaid : Prop := bookNamesRow.holds Tryz.pinned (OpenSpec.ofChange bookNamesSpec)

/-- ITS FALSE NEIGHBOUR: 'it returns false'. Refute it at one input. -/
def bookNamesWrong : ChangeSpec := { name := "bookNames", fn := fun _ => fun
  | [d] => { results := [.lit (.bool false)], args := [d] }
  | _ => none }
def BookNamesWrongFalsely : Prop := bookNamesRow.holds Tryz.pinned (OpenSpec.ofChange bookNamesWrong)

/-- 'tapsterlaw12.BookFull': WHATEVER THE INPUT: true; the input reads as it did. -/
def bookFullSpec : ChangeSpec := { name := "bookFull", fn := fun _ => fun
  | [d1, d2] => { results := [.lit (.bool true)], args := [d1, d2] }
  | _ => none }
def bookFullRow : OpenClaim := { program := "ytmndkhklhfnjhaagreat", sum := "5852d36add4bd44fdeea381c8db3d134729b50522408d2127bb4747dbcd2ea44", func := "tapster/tapsterlaw12.BookFull", spec := "bookFull", inPlace := ["internal/bytealg.IndexByteString", "internal/bytealg.IndexString", "maps.clone"], unfollowed := true, recurses := true, named := ["math/bits.divideError", "math/bits.overflowError", "internal/bytealg.MaxLen"], apart := false }
def BookFullSaid : Prop := bookFullRow.holds Tryz.pinned (OpenSpec.ofChange bookFullSpec)

/-- ITS FALSE NEIGHBOUR: 'it returns false'. Refute it at one input. -/
def bookFullWrong : ChangeSpec := { name := "bookFull", fn := fun _ => fun
  | [d1, d2] => { results := [.lit (.bool false)], args := [d1, d2] }
  | _ => none }
def BookFullWrongFalsely : Prop := bookFullRow.holds Tryz.pinned (OpenSpec.ofChange bookFullWrong)

/-- 'tapsterlaw12.BookCopies': WHATEVER THE INPUT: true; the input reads as it did. -/
def bookCopiesSpec : ChangeSpec := { name := "bookCopies", fn := fun _ => fun
  | [d1, d2] => { results := [.lit (.bool true)], args := [d1, d2] }
  | _ => none }
def bookCopiesRow : OpenClaim := { program := "ytmndkhklhfnjhaagreat", sum := "5852d36add4bd44fdeea381c8db3d134729b50522408d2127bb4747dbcd2ea44", func := "tapster/tapsterlaw12.BookCopies", spec := "bookCopies", inPlace := ["internal/bytealg.IndexByteString", "internal/bytealg.IndexString", "maps.clone"], unfollowed := true, recurses := true, named := ["math/bits.divideError", "math/bits.overflowError", "internal/bytealg.MaxLen"], apart := false }
def BookCopiesSaid : Prop := bookCopiesRow.holds Tryz.pinned (OpenSpec.ofChange bookCopiesSpec)

/-- ITS FALSE NEIGHBOUR: 'it returns false'. Refute it at one input. -/
def bookCopiesWrong : ChangeSpec := { name := "bookCopies", fn := fun _ => fun
  | [d1, d2] => { results := [.lit (.bool false)], args := [d1, d2] }
  | _ => none }
def BookCopiesWrongFalsely : Prop := bookCopiesRow.holds Tryz.pinned (OpenSpec.ofChange bookCopiesWrong)

/- THE SECOND FORM. 'bulk': how many values and letters a reading holds, each counted each time it is reached (what is shared counts as often as it is met; a slice's spare places count too). A statement '..UptoSaid' is the law's where the arguments, and the package variables that the reading takes, are together of bulk at most 1048576: NARROWER than '..Said'. Prove '..Said' where nothing that the law and all that it calls make is longer than what came in: it says more and counts as full. Else prove '..UptoSaid'. A law counts once. -/
mutual
def uptoBulk {H : Type} : DataW H → Nat
  | .lit (.string bytes) => bytes.length + 1
  | .lit _ => 1
  | .nil => 1
  | .ptr d => uptoBulk d + 1
  | .slice elems spare => uptoBulkAll elems + uptoBulkAll spare + 1
  | .agg parts => uptoBulkAll parts + 1
  | .iface _ d => uptoBulk d + 1
  | .map entries => uptoBulkEntries entries + 1
  | .held _ => 1
def uptoBulkAll {H : Type} : List (DataW H) → Nat
  | [] => 0
  | d :: r => uptoBulk d + uptoBulkAll r
def uptoBulkEntries {H : Type} : List (Lit × DataW H) → Nat
  | [] => 0
  | x :: r => uptoBulkEntry x + uptoBulkEntries r
def uptoBulkEntry {H : Type} : Lit × DataW H → Nat
  | (.string bytes, d) => bytes.length + uptoBulk d + 1
  | (_, d) => uptoBulk d + 1
 end
def uptoSmall : (H : Type) → List (DataW H) → Bool := fun _ ds => decide (uptoBulkAll ds ≤ 1048576)
def OpenSpec.upto (s : _root_.Go.ChangeSpec) : _root_.Go.OpenSpec := { _root_.Go.OpenSpec.ofChange s with cond := some uptoSmall }

/-- 'tapsterlaw12.BookSteps', WHERE WHAT IT READS IS OF BULK AT MOST 1048576: true; the input reads as it did. -/
def bookStepsUptoRow : OpenClaim := { program := "ytmndkhklhfnjhaagreat", sum := "5852d36add4bd44fdeea381c8db3d134729b50522408d2127bb4747dbcd2ea44", func := "tapster/tapsterlaw12.BookSteps", spec := "bookSteps", inPlace := ["internal/bytealg.IndexByteString", "internal/bytealg.IndexString"], unfollowed := true, recurses := true, named := ["math/bits.divideError", "math/bits.overflowError", "internal/bytealg.MaxLen"], apart := false, narrowed := true }
def BookStepsUptoSaid : Prop := bookStepsUptoRow.holds Tryz.pinned (OpenSpec.upto bookStepsSpec)

/-- 'tapsterlaw12.BookNames', WHERE WHAT IT READS IS OF BULK AT MOST 1048576: true; the input reads as it did. -/
def bookNamesUptoRow : OpenClaim := { program := "ytmndkhklhfnjhaagreat", sum := "5852d36add4bd44fdeea381c8db3d134729b50522408d2127bb4747dbcd2ea44", func := "tapster/tapsterlaw12.BookNames", spec := "bookNames", inPlace := ["internal/bytealg.IndexByteString", "internal/bytealg.IndexString"], unfollowed := true, recurses := true, named := ["math/bits.divideError", "math/bits.overflowError", "internal/bytealg.MaxLen"], apart := false, narrowed := true }
def BookNamesUptoSaid : Prop := bookNamesUptoRow.holds Tryz.pinned (OpenSpec.upto bookNamesSpec)

/-- 'tapsterlaw12.BookFull', WHERE WHAT IT READS IS OF BULK AT MOST 1048576: true; the input reads as it did. -/
def bookFullUptoRow : OpenClaim := { program := "ytmndkhklhfnjhaagreat", sum := "5852d36add4bd44fdeea381c8db3d134729b50522408d2127bb4747dbcd2ea44", func := "tapster/tapsterlaw12.BookFull", spec := "bookFull", inPlace := ["internal/bytealg.IndexByteString", "internal/bytealg.IndexString", "maps.clone"], unfollowed := true, recurses := true, named := ["math/bits.divideError", "math/bits.overflowError", "internal/bytealg.MaxLen"], apart := false, narrowed := true }
def BookFullUptoSaid : Prop := bookFullUptoRow.holds Tryz.pinned (OpenSpec.upto bookFullSpec)

/-- 'tapsterlaw12.BookCopies', WHERE WHAT IT READS IS OF BULK AT MOST 1048576: true; the input reads as it did. -/
def bookCopiesUptoRow : OpenClaim := { program := "ytmndkhklhfnjhaagreat", sum := "5852d36add4bd44fdeea381c8db3d134729b50522408d2127bb4747dbcd2ea44", func := "tapster/tapsterlaw12.BookCopies", spec := "bookCopies", inPlace := ["internal/bytealg.IndexByteString", "internal/bytealg.IndexString", "maps.clone"], unfollowed := true, recurses := true, named := ["math/bits.divideError", "math/bits.overflowError", "internal/bytealg.MaxLen"], apart := false, narrowed := true }
def BookCopiesUptoSaid : Prop := bookCopiesUptoRow.holds Tryz.pinned (OpenSpec.upto bookCopiesSpec)

end Rows
end Go.Proofs.YtmndkhklhfnjhaaGreat
