/-
  No cell of these rows narrows 'for every input' (looked for: loops, veiled, ifaces, maps, wideKeys, modest, calm, conditions, laid).
  DERIVED. THE GIVEN ROWS OF THIS SEAT. 6 by the template 'for every input the law returns true; each argument reads behind the call as it read before'; 0 by the template 'total and deterministic' (their statements: YthinbjknkjpdjaaTotals.lean).
  GIVEN WITH THE SEED: the statements are not yours to turn. If you find one false, say at which input.
  Laid BY PROGRAM, IN A SANDBOX (cutbox-rows.mjs): the forced cells as the released guide's own fill.sh prints them over the translation c990aeb54a683dd7… (all of the seat's roots in one cut). By AI agents, Wed Nov 11 2026. No macro, syntax, notation, axiom, sorry.
-/
import Derived.Test.YthinbjknkjpdjaaChecked
import GoSem.Claim
import GoSem.ClaimJoined
import GoSem.ClaimMapViews
import Derived.JoinedTies
import Derived.KernelRfl
namespace Go.Proofs.Ythinbjknkjpdjaa
/- THE CELL 'sum', in the pinned program and in every row, IS THE sha256 OF THE DUMP (.gsa) THAT YthinbjknkjpdjaaProg.lean LOADS. Nothing in Lean hashes anything: it is a label: what it is worth is what the hold of that sum in a sandbox is worth. -/
noncomputable def Try.pinned : Pinned := { name := "ythinbjknkjpdjaa", sum := "c990aeb54a683dd7e6550f270628fce2f67e848551d77073ac5268285457a711", checked := Try.checked }
namespace Rows
def none {H : Type} : Left H := { results := [], args := [] }

/-- 'tapsterlaw08.LimiterHeld': WHATEVER THE INPUT: true; the input reads as it did. -/
def limiterHeldSpec : ChangeSpec := { name := "limiterHeld", fn := fun _ => fun
  | [d1, d2, d3, d4, d5, d6, d7] => { results := [.lit (.bool true)], args := [d1, d2, d3, d4, d5, d6, d7] }
  | _ => none }
def limiterHeldRow : OpenClaim := { program := "ythinbjknkjpdjaa", sum := "c990aeb54a683dd7e6550f270628fce2f67e848551d77073ac5268285457a711", func := "tapster/tapsterlaw08.LimiterHeld", spec := "limiterHeld", unfollowed := true, recurses := true, named := ["math/bits.divideError", "math/bits.overflowError"], apart := false }
def LimiterHeldSaid : Prop := limiterHeldRow.holds Try.pinned (OpenSpec.ofChange limiterHeldSpec)

/-- ITS FALSE NEIGHBOUR: 'it returns false'. Refute it at one input. -/
def limiterHeldWrong : ChangeSpec := { name := "limiterHeld", fn := fun _ => fun
  | [d1, d2, d3, d4, d5, d6, d7] => { results := [.lit (.bool false)], args := [d1, d2, d3, d4, d5, d6, d7] }
  | _ => none }
def LimiterHeldWrongFalsely : Prop := limiterHeldRow.holds Try.pinned (OpenSpec.ofChange limiterHeldWrong)

/-- 'tapsterlaw08.LimiterEach': WHATEVER THE INPUT: true; the input reads as it did. -/
def limiterEachSpec : ChangeSpec := { name := "limiterEach", fn := fun _ => fun
  | [d1, d2, d3] => { results := [.lit (.bool true)], args := [d1, d2, d3] }
  | _ => none }
def limiterEachRow : OpenClaim := { program := "ythinbjknkjpdjaa", sum := "c990aeb54a683dd7e6550f270628fce2f67e848551d77073ac5268285457a711", func := "tapster/tapsterlaw08.LimiterEach", spec := "limiterEach", unfollowed := true, recurses := true, named := ["math/bits.divideError", "math/bits.overflowError"], apart := false }
def LimiterEachSaid : Prop := limiterEachRow.holds Try.pinned (OpenSpec.ofChange limiterEachSpec)

/-- ITS FALSE NEIGHBOUR: 'it returns false'. Refute it at one input. -/
def limiterEachWrong : ChangeSpec := { name := "limiterEach", fn := fun _ => fun
  | [d1, d2, d3] => { results := [.lit (.bool false)], args := [d1, d2, d3] }
  | _ => none }
def LimiterEachWrongFalsely : Prop := limiterEachRow.holds Try.pinned (OpenSpec.ofChange limiterEachWrong)

/-- 'tapsterlaw08.LimiterBacks': WHATEVER THE INPUT: true; the input reads as it did. -/
def limiterBacksSpec : ChangeSpec := { name := "limiterBacks", fn := fun _ => fun
  | [d1, d2, d3, d4, d5, d6, d7] => { results := [.lit (.bool true)], args := [d1, d2, d3, d4, d5, d6, d7] }
  | _ => none }
def limiterBacksRow : OpenClaim := { program := "ythinbjknkjpdjaa", sum := "c990aeb54a683dd7e6550f270628fce2f67e848551d77073ac5268285457a711", func := "tapster/tapsterlaw08.LimiterBacks", spec := "limiterBacks", unfollowed := true, recurses := true, named := ["math/bits.divideError", "math/bits.overflowError"], apart := false }
def LimiterBacksSaid : Prop := limiterBacksRow.holds Try.pinned (OpenSpec.ofChange limiterBacksSpec)

/-- ITS FALSE NEIGHBOUR: 'it returns false'. Refute it at one input. -/
def limiterBacksWrong : ChangeSpec := { name := "limiterBacks", fn := fun _ => fun
  | [d1, d2, d3, d4, d5, d6, d7] => { results := [.lit (.bool false)], args := [d1, d2, d3, d4, d5, d6, d7] }
  | _ => none }
def LimiterBacksWrongFalsely : Prop := limiterBacksRow.holds Try.pinned (OpenSpec.ofChange limiterBacksWrong)

/-- 'tapsterlaw08.LimiterFresh': WHATEVER THE INPUT: true; the input reads as it did. -/
def limiterFreshSpec : ChangeSpec := { name := "limiterFresh", fn := fun _ => fun
  | [d1, d2, d3, d4, d5, d6] => { results := [.lit (.bool true)], args := [d1, d2, d3, d4, d5, d6] }
  | _ => none }
def limiterFreshRow : OpenClaim := { program := "ythinbjknkjpdjaa", sum := "c990aeb54a683dd7e6550f270628fce2f67e848551d77073ac5268285457a711", func := "tapster/tapsterlaw08.LimiterFresh", spec := "limiterFresh", unfollowed := true, recurses := true, named := ["math/bits.divideError", "math/bits.overflowError"], apart := false }
def LimiterFreshSaid : Prop := limiterFreshRow.holds Try.pinned (OpenSpec.ofChange limiterFreshSpec)

/-- ITS FALSE NEIGHBOUR: 'it returns false'. Refute it at one input. -/
def limiterFreshWrong : ChangeSpec := { name := "limiterFresh", fn := fun _ => fun
  | [d1, d2, d3, d4, d5, d6] => { results := [.lit (.bool false)], args := [d1, d2, d3, d4, d5, d6] }
  | _ => none }
def LimiterFreshWrongFalsely : Prop := limiterFreshRow.holds Try.pinned (OpenSpec.ofChange limiterFreshWrong)

/-- 'tapsterlaw08.LimiterRetries': WHATEVER THE INPUT: true; the input reads as it did. -/
def limiterRetriesSpec : ChangeSpec := { name := "limiterRetries", fn := fun _ => fun
  | [d1, d2, d3, d4, d5, d6] => { results := [.lit (.bool true)], args := [d1, d2, d3, d4, d5, d6] }
  | _ => none }
def limiterRetriesRow : OpenClaim := { program := "ythinbjknkjpdjaa", sum := "c990aeb54a683dd7e6550f270628fce2f67e848551d77073ac5268285457a711", func := "tapster/tapsterlaw08.LimiterRetries", spec := "limiterRetries", unfollowed := true, recurses := true, named := ["math/bits.divideError", "math/bits.overflowError"], apart := false }
def LimiterRetriesSaid : Prop := limiterRetriesRow.holds Try.pinned (OpenSpec.ofChange limiterRetriesSpec)

/-- ITS FALSE NEIGHBOUR: 'it returns false'. Refute it at one input. -/
def limiterRetriesWrong : ChangeSpec := { name := "limiterRetries", fn := fun _ => fun
  | [d1, d2, d3, d4, d5, d6] => { results := [.lit (.bool false)], args := [d1, d2, d3, d4, d5, d6] }
  | _ => none }
def LimiterRetriesWrongFalsely : Prop := limiterRetriesRow.holds Try.pinned (OpenSpec.ofChange limiterRetriesWrong)

/-- 'tapsterlaw08.LimiterKinds': WHATEVER THE INPUT: true; the input reads as it did. -/
def limiterKindsSpec : ChangeSpec := { name := "limiterKinds", fn := fun _ => fun
  | [d1, d2, d3, d4] => { results := [.lit (.bool true)], args := [d1, d2, d3, d4] }
  | _ => none }
def limiterKindsRow : OpenClaim := { program := "ythinbjknkjpdjaa", sum := "c990aeb54a683dd7e6550f270628fce2f67e848551d77073ac5268285457a711", func := "tapster/tapsterlaw08.LimiterKinds", spec := "limiterKinds", unfollowed := true, recurses := true, named := ["math/bits.divideError", "math/bits.overflowError"], apart := false }
def LimiterKindsSaid : Prop := limiterKindsRow.holds Try.pinned (OpenSpec.ofChange limiterKindsSpec)

/-- ITS FALSE NEIGHBOUR: 'it returns false'. Refute it at one input. -/
def limiterKindsWrong : ChangeSpec := { name := "limiterKinds", fn := fun _ => fun
  | [d1, d2, d3, d4] => { results := [.lit (.bool false)], args := [d1, d2, d3, d4] }
  | _ => none }
def LimiterKindsWrongFalsely : Prop := limiterKindsRow.holds Try.pinned (OpenSpec.ofChange limiterKindsWrong)

/- THE SECOND FORM. 'bulk': how many values and letters a reading holds, each counted each time it is reached (what is shared counts as often as it is met; a slice's spare places count too). A statement '..UptoSaid' is the law's where the arguments, and the package variables that the reading takes, are together of bulk at most 1048576: NARROWER than '..Said'. Prove '..Said' where nothing that the law and all that it calls make is longer than what came in: it says more and counts as full. Else prove '..UptoSaid'. A law counts once. -/
mutual
def uptoBulk {H : Type} : DataW H → Nat
  | .lit (.string bytes) => bytes.length + 1
  | .lit _ => 1
  | .nil => 1
  | .ptr d => uptoBulk d + 1
  | .slice elems spare => uptoBulkAll elems + uptoBulkAll spare + 1
  | .agg parts => uptoBulkAll parts + 1
  | .iface _ d => uptoBulk d + 1
  | .map entries => uptoBulkEntries entries + 1
  | .held _ => 1
def uptoBulkAll {H : Type} : List (DataW H) → Nat
  | [] => 0
  | d :: r => uptoBulk d + uptoBulkAll r
def uptoBulkEntries {H : Type} : List (Lit × DataW H) → Nat
  | [] => 0
  | x :: r => uptoBulkEntry x + uptoBulkEntries r
def uptoBulkEntry {H : Type} : Lit × DataW H → Nat
  | (.string bytes, d) => bytes.length + uptoBulk d + 1
  | (_, d) => uptoBulk d + 1
 end
def uptoSmall : (H : Type) → List (DataW H) → Bool := fun _ ds => decide (uptoBulkAll ds ≤ 1048576)
def OpenSpec.upto (s : _root_.Go.ChangeSpec) : _root_.Go.OpenSpec := { _root_.Go.OpenSpec.ofChange s with cond := some uptoSmall }

/-- 'tapsterlaw08.LimiterHeld', WHERE WHAT IT READS IS OF BULK AT MOST 1048576: true; the input reads as it did. -/
def limiterHeldUptoRow : OpenClaim := { program := "ythinbjknkjpdjaa", sum := "c990aeb54a683dd7e6550f270628fce2f67e848551d77073ac5268285457a711", func := "tapster/tapsterlaw08.LimiterHeld", spec := "limiterHeld", unfollowed := true, recurses := true, named := ["math/bits.divideError", "math/bits.overflowError"], apart := false, narrowed := true }
def LimiterHeldUptoSaid : Prop := limiterHeldUptoRow.holds Try.pinned (OpenSpec.upto limiterHeldSpec)

/-- 'tapsterlaw08.LimiterEach', WHERE WHAT IT READS IS OF BULK AT MOST 1048576: true; the input reads as it did. -/
def limiterEachUptoRow : OpenClaim := { program := "ythinbjknkjpdjaa", sum := "c990aeb54a683dd7e6550f270628fce2f67e848551d77073ac5268285457a711", func := "tapster/tapsterlaw08.LimiterEach", spec := "limiterEach", unfollowed := true, recurses := true, named := ["math/bits.divideError", "math/bits.overflowError"], apart := false, narrowed := true }
def LimiterEachUptoSaid : Prop := limiterEachUptoRow.holds Try.pinned (OpenSpec.upto limiterEachSpec)

/-- 'tapsterlaw08.LimiterBacks', WHERE WHAT IT READS IS OF BULK AT MOST 1048576: true; the input reads as it did. -/
def limiterBacksUptoRow : OpenClaim := { program := "ythinbjknkjpdjaa", sum := "c990aeb54a683dd7e6550f270628fce2f67e848551d77073ac5268285457a711", func := "tapster/tapsterlaw08.LimiterBacks", spec := "limiterBacks", unfollowed := true, recurses := true, named := ["math/bits.divideError", "math/bits.overflowError"], apart := false, narrowed := true }
def LimiterBacksUptoSaid : Prop := limiterBacksUptoRow.holds Try.pinned (OpenSpec.upto limiterBacksSpec)

/-- 'tapsterlaw08.LimiterFresh', WHERE WHAT IT READS IS OF BULK AT MOST 1048576: true; the input reads as it did. -/
def limiterFreshUptoRow : OpenClaim := { program := "ythinbjknkjpdjaa", sum := "c990aeb54a683dd7e6550f270628fce2f67e848551d77073ac5268285457a711", func := "tapster/tapsterlaw08.LimiterFresh", spec := "limiterFresh", unfollowed := true, recurses := true, named := ["math/bits.divideError", "math/bits.overflowError"], apart := false, narrowed := true }
def LimiterFreshUptoSaid : Prop := limiterFreshUptoRow.holds Try.pinned (OpenSpec.upto limiterFreshSpec)

/-- 'tapsterlaw08.LimiterRetries', WHERE WHAT IT READS IS OF BULK AT MOST 1048576: true; the input reads as it did. -/
def limiterRetriesUptoRow : OpenClaim := { program := "ythinbjknkjpdjaa", sum := "c990aeb54a683dd7e6550f270628fce2f67e848551d77073ac5268285457a711", func := "tapster/tapsterlaw08.LimiterRetries", spec := "limiterRetries", unfollowed := true, recurses := true, named := ["math/bits.divideError", "math/bits.overflowError"], apart := false, narrowed := true }
def LimiterRetriesUptoSaid : Prop := limiterRetriesUptoRow.holds Try.pinned (OpenSpec.upto limiterRetriesSpec)

/-- 'tapsterlaw08.LimiterKinds', WHERE WHAT IT READS IS OF BULK AT MOST 1048576: true; the input reads as it did. -/
def limiterKindsUptoRow : OpenClaim := { program := "ythinbjknkjpdjaa", sum := "c990aeb54a683dd7e6550f270628fce2f67e848551d77073ac5268285457a711", func := "tapster/tapsterlaw08.LimiterKinds", spec := "limiterKinds", unfollowed := true, recurses := true, named := ["math/bits.divideError", "math/bits.overflowError"], apart := false, narrowed := true }
def LimiterKindsUptoSaid : Prop := limiterKindsUptoRow.holds Try.pinned (OpenSpec.upto limiterKindsSpec)

end Rows
end Go.Proofs.Ythinbjknkjpdjaa
