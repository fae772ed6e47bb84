/-
  No cell of these rows narrows 'for every input' (looked for: loops, veiled, ifaces, maps, wideKeys, modest, calm, conditions, laid).
  DERIVED. THE GIVEN ROWS OF THIS SEAT. 6 by the template 'for every input the law returns true; each argument reads behind the call as it read before'; 0 by the template 'total and deterministic' (their statements: YtcfdcianpicbmaaGreatTotals.lean).
  GIVEN WITH THE SEED: the statements are not yours to turn. If you find one false, say at which input.
  Laid BY PROGRAM, IN A SANDBOX (cutbox-rows.mjs): the forced cells as the released guide's own fill.sh prints them over the translation fafbbd0043421daf… (all of the seat's roots in one cut). By AI agents, Wed Nov 11 2026. No macro, syntax, notation, axiom, sorry.
-/
import Derived.Test.YtcfdcianpicbmaaGreatChecked
import GoSem.Claim
import GoSem.ClaimJoined
import GoSem.ClaimMapViews
import Derived.JoinedTies
import Derived.KernelRfl
namespace Go.Proofs.YtcfdcianpicbmaaGreat
/- THE CELL 'sum', in the pinned program and in every row, IS THE sha256 OF THE DUMP (.gsa) THAT YtcfdcianpicbmaaGreatProg.lean LOADS. Nothing in Lean hashes anything: it is a label: what it is worth is what the hold of that sum in a sandbox is worth. -/
noncomputable def Tryz.pinned : Pinned := { name := "ytcfdcianpicbmaagreat", sum := "fafbbd0043421daf4764fbebb883f2713a39941567f664c7befb027f1bfafde1", checked := Tryz.checked }
namespace Rows
def none {H : Type} : Left H := { results := [], args := [] }

/-- 'tapsterlaw12.BookSteps': WHATEVER THE INPUT: true; the input reads as it did. -/
def bookStepsSpec : ChangeSpec := { name := "bookSteps", fn := fun _ => fun
  | [d1, d2] => { results := [.lit (.bool true)], args := [d1, d2] }
  | _ => none }
def bookStepsRow : OpenClaim := { program := "ytcfdcianpicbmaagreat", sum := "fafbbd0043421daf4764fbebb883f2713a39941567f664c7befb027f1bfafde1", func := "tapster/tapsterlaw12.BookSteps", spec := "bookSteps", inPlace := ["internal/bytealg.IndexByteString", "internal/bytealg.IndexString"], unfollowed := true, recurses := true, named := ["math/bits.divideError", "math/bits.overflowError", "internal/bytealg.MaxLen"], apart := false }
def BookStepsSaid : Prop := bookStepsRow.holds Tryz.pinned (OpenSpec.ofChange bookStepsSpec)

/-- ITS FALSE NEIGHBOUR: 'it returns false'. Refute it at one input. -/
def bookStepsWrong : ChangeSpec := { name := "bookSteps", fn := fun _ => fun
  | [d1, d2] => { results := [.lit (.bool false)], args := [d1, d2] }
  | _ => none }
def BookStepsWrongFalsely : Prop := bookStepsRow.holds Tryz.pinned (OpenSpec.ofChange bookStepsWrong)

/-- 'tapsterlaw13.ScopeApart': WHATEVER THE INPUT: true; the input reads as it did. -/
def scopeApartSpec : ChangeSpec := { name := "scopeApart", fn := fun _ => fun
  | [d1, d2, d3, d4, d5, d6, d7] => { results := [.lit (.bool true)], args := [d1, d2, d3, d4, d5, d6, d7] }
  | _ => none }
def scopeApartRow : OpenClaim := { program := "ytcfdcianpicbmaagreat", sum := "fafbbd0043421daf4764fbebb883f2713a39941567f664c7befb027f1bfafde1", func := "tapster/tapsterlaw13.ScopeApart", spec := "scopeApart", inPlace := ["internal/bytealg.IndexByteString", "internal/bytealg.IndexString", "sync/atomic.LoadUint32", "(*internal/sync.Mutex).Lock", "internal/race.Disable", "sync/atomic.CompareAndSwapInt32", "internal/race.Enable", "internal/race.Acquire", "(*internal/sync.Mutex).lockSlow", "internal/sync.runtime_canSpin", "internal/sync.runtime_doSpin", "internal/sync.throw", "internal/sync.runtime_nanotime", "internal/sync.runtime_SemacquireMutex", "sync/atomic.AddInt32", "(*internal/sync.Mutex).Unlock", "internal/race.ReleaseMerge", "(*internal/sync.Mutex).unlockSlow", "internal/sync.fatal", "internal/sync.runtime_Semrelease", "sync/atomic.StoreUint32", "internal/abi.NoEscape"], unfollowed := true, recurses := true, named := ["math/bits.divideError", "math/bits.overflowError", "internal/bytealg.MaxLen"], apart := false }
def ScopeApartSaid : Prop := scopeApartRow.holds Tryz.pinned (OpenSpec.ofChange scopeApartSpec)

/-- ITS FALSE NEIGHBOUR: 'it returns false'. Refute it at one input. -/
def scopeApartWrong : ChangeSpec := { name := "scopeApart", fn := fun _ => fun
  | [d1, d2, d3, d4, d5, d6, d7] => { results := [.lit (.bool false)], args := [d1, d2, d3, d4, d5, d6, d7] }
  | _ => none }
def ScopeApartWrongFalsely : Prop := scopeApartRow.holds Tryz.pinned (OpenSpec.ofChange scopeApartWrong)

/-- 'tapsterlaw13.ScopeExpands': WHATEVER THE INPUT: true; the input reads as it did. -/
def scopeExpandsSpec : ChangeSpec := { name := "scopeExpands", fn := fun _ => fun
  | [d1, d2, d3] => { results := [.lit (.bool true)], args := [d1, d2, d3] }
  | _ => none }
def scopeExpandsRow : OpenClaim := { program := "ytcfdcianpicbmaagreat", sum := "fafbbd0043421daf4764fbebb883f2713a39941567f664c7befb027f1bfafde1", func := "tapster/tapsterlaw13.ScopeExpands", spec := "scopeExpands", inPlace := ["internal/bytealg.IndexByteString", "internal/bytealg.IndexString", "sync/atomic.LoadUint32", "(*internal/sync.Mutex).Lock", "internal/race.Disable", "sync/atomic.CompareAndSwapInt32", "internal/race.Enable", "internal/race.Acquire", "(*internal/sync.Mutex).lockSlow", "internal/sync.runtime_canSpin", "internal/sync.runtime_doSpin", "internal/sync.throw", "internal/sync.runtime_nanotime", "internal/sync.runtime_SemacquireMutex", "sync/atomic.AddInt32", "(*internal/sync.Mutex).Unlock", "internal/race.ReleaseMerge", "(*internal/sync.Mutex).unlockSlow", "internal/sync.fatal", "internal/sync.runtime_Semrelease", "sync/atomic.StoreUint32", "internal/abi.NoEscape"], unfollowed := true, recurses := true, named := ["math/bits.divideError", "math/bits.overflowError", "internal/bytealg.MaxLen"], apart := false }
def ScopeExpandsSaid : Prop := scopeExpandsRow.holds Tryz.pinned (OpenSpec.ofChange scopeExpandsSpec)

/-- ITS FALSE NEIGHBOUR: 'it returns false'. Refute it at one input. -/
def scopeExpandsWrong : ChangeSpec := { name := "scopeExpands", fn := fun _ => fun
  | [d1, d2, d3] => { results := [.lit (.bool false)], args := [d1, d2, d3] }
  | _ => none }
def ScopeExpandsWrongFalsely : Prop := scopeExpandsRow.holds Tryz.pinned (OpenSpec.ofChange scopeExpandsWrong)

/-- 'tapsterlaw13.ScopeSplits': WHATEVER THE INPUT: true; the input reads as it did. -/
def scopeSplitsSpec : ChangeSpec := { name := "scopeSplits", fn := fun _ => fun
  | [d1, d2, d3, d4, d5] => { results := [.lit (.bool true)], args := [d1, d2, d3, d4, d5] }
  | _ => none }
def scopeSplitsRow : OpenClaim := { program := "ytcfdcianpicbmaagreat", sum := "fafbbd0043421daf4764fbebb883f2713a39941567f664c7befb027f1bfafde1", func := "tapster/tapsterlaw13.ScopeSplits", spec := "scopeSplits", inPlace := ["internal/bytealg.IndexByteString", "internal/bytealg.IndexString", "sync/atomic.LoadUint32", "(*internal/sync.Mutex).Lock", "internal/race.Disable", "sync/atomic.CompareAndSwapInt32", "internal/race.Enable", "internal/race.Acquire", "(*internal/sync.Mutex).lockSlow", "internal/sync.runtime_canSpin", "internal/sync.runtime_doSpin", "internal/sync.throw", "internal/sync.runtime_nanotime", "internal/sync.runtime_SemacquireMutex", "sync/atomic.AddInt32", "(*internal/sync.Mutex).Unlock", "internal/race.ReleaseMerge", "(*internal/sync.Mutex).unlockSlow", "internal/sync.fatal", "internal/sync.runtime_Semrelease", "sync/atomic.StoreUint32", "internal/abi.NoEscape"], unfollowed := true, recurses := true, named := ["math/bits.divideError", "math/bits.overflowError", "internal/bytealg.MaxLen"], apart := false }
def ScopeSplitsSaid : Prop := scopeSplitsRow.holds Tryz.pinned (OpenSpec.ofChange scopeSplitsSpec)

/-- ITS FALSE NEIGHBOUR: 'it returns false'. Refute it at one input. -/
def scopeSplitsWrong : ChangeSpec := { name := "scopeSplits", fn := fun _ => fun
  | [d1, d2, d3, d4, d5] => { results := [.lit (.bool false)], args := [d1, d2, d3, d4, d5] }
  | _ => none }
def ScopeSplitsWrongFalsely : Prop := scopeSplitsRow.holds Tryz.pinned (OpenSpec.ofChange scopeSplitsWrong)

/-- 'tapsterlaw13.ScopeOnce': WHATEVER THE INPUT: true; the input reads as it did. -/
def scopeOnceSpec : ChangeSpec := { name := "scopeOnce", fn := fun _ => fun
  | [d1, d2, d3] => { results := [.lit (.bool true)], args := [d1, d2, d3] }
  | _ => none }
def scopeOnceRow : OpenClaim := { program := "ytcfdcianpicbmaagreat", sum := "fafbbd0043421daf4764fbebb883f2713a39941567f664c7befb027f1bfafde1", func := "tapster/tapsterlaw13.ScopeOnce", spec := "scopeOnce", inPlace := ["internal/bytealg.IndexByteString", "internal/bytealg.IndexString", "sync/atomic.LoadUint32", "(*internal/sync.Mutex).Lock", "internal/race.Disable", "sync/atomic.CompareAndSwapInt32", "internal/race.Enable", "internal/race.Acquire", "(*internal/sync.Mutex).lockSlow", "internal/sync.runtime_canSpin", "internal/sync.runtime_doSpin", "internal/sync.throw", "internal/sync.runtime_nanotime", "internal/sync.runtime_SemacquireMutex", "sync/atomic.AddInt32", "(*internal/sync.Mutex).Unlock", "internal/race.ReleaseMerge", "(*internal/sync.Mutex).unlockSlow", "internal/sync.fatal", "internal/sync.runtime_Semrelease", "sync/atomic.StoreUint32", "internal/abi.NoEscape"], unfollowed := true, recurses := true, named := ["math/bits.divideError", "math/bits.overflowError", "internal/bytealg.MaxLen"], apart := false }
def ScopeOnceSaid : Prop := scopeOnceRow.holds Tryz.pinned (OpenSpec.ofChange scopeOnceSpec)

/-- ITS FALSE NEIGHBOUR: 'it returns false'. Refute it at one input. -/
def scopeOnceWrong : ChangeSpec := { name := "scopeOnce", fn := fun _ => fun
  | [d1, d2, d3] => { results := [.lit (.bool false)], args := [d1, d2, d3] }
  | _ => none }
def ScopeOnceWrongFalsely : Prop := scopeOnceRow.holds Tryz.pinned (OpenSpec.ofChange scopeOnceWrong)

/-- 'tapsterlaw13.ScopeKeys': WHATEVER THE INPUT: true; the input reads as it did. -/
def scopeKeysSpec : ChangeSpec := { name := "scopeKeys", fn := fun _ => fun
  | [d1, d2, d3, d4, d5, d6] => { results := [.lit (.bool true)], args := [d1, d2, d3, d4, d5, d6] }
  | _ => none }
def scopeKeysRow : OpenClaim := { program := "ytcfdcianpicbmaagreat", sum := "fafbbd0043421daf4764fbebb883f2713a39941567f664c7befb027f1bfafde1", func := "tapster/tapsterlaw13.ScopeKeys", spec := "scopeKeys", inPlace := ["internal/bytealg.IndexByteString", "internal/bytealg.IndexString", "sync/atomic.LoadUint32", "(*internal/sync.Mutex).Lock", "internal/race.Disable", "sync/atomic.CompareAndSwapInt32", "internal/race.Enable", "internal/race.Acquire", "(*internal/sync.Mutex).lockSlow", "internal/sync.runtime_canSpin", "internal/sync.runtime_doSpin", "internal/sync.throw", "internal/sync.runtime_nanotime", "internal/sync.runtime_SemacquireMutex", "sync/atomic.AddInt32", "(*internal/sync.Mutex).Unlock", "internal/race.ReleaseMerge", "(*internal/sync.Mutex).unlockSlow", "internal/sync.fatal", "internal/sync.runtime_Semrelease", "sync/atomic.StoreUint32", "internal/abi.NoEscape"], unfollowed := true, recurses := true, named := ["math/bits.divideError", "math/bits.overflowError", "internal/bytealg.MaxLen"], apart := false }
def ScopeKeysSaid : Prop := scopeKeysRow.holds Tryz.pinned (OpenSpec.ofChange scopeKeysSpec)

/-- ITS FALSE NEIGHBOUR: 'it returns false'. Refute it at one input. -/
def scopeKeysWrong : ChangeSpec := { name := "scopeKeys", fn := fun _ => fun
  | [d1, d2, d3, d4, d5, d6] => { results := [.lit (.bool false)], args := [d1, d2, d3, d4, d5, d6] }
  | _ => none }
def ScopeKeysWrongFalsely : Prop := scopeKeysRow.holds Tryz.pinned (OpenSpec.ofChange scopeKeysWrong)

/- THE SECOND FORM. 'bulk': how many values and letters a reading holds, each counted each time it is reached (what is shared counts as often as it is met; a slice's spare places count too). A statement '..UptoSaid' is the law's where the arguments, and the package variables that the reading takes, are together of bulk at most 1048576: NARROWER than '..Said'. Prove '..Said' where nothing that the law and all that it calls make is longer than what came in: it says more and counts as full. Else prove '..UptoSaid'. A law counts once. -/
mutual
def uptoBulk {H : Type} : DataW H → Nat
  | .lit (.string bytes) => bytes.length + 1
  | .lit _ => 1
  | .nil => 1
  | .ptr d => uptoBulk d + 1
  | .slice elems spare => uptoBulkAll elems + uptoBulkAll spare + 1
  | .agg parts => uptoBulkAll parts + 1
  | .iface _ d => uptoBulk d + 1
  | .map entries => uptoBulkEntries entries + 1
  | .held _ => 1
def uptoBulkAll {H : Type} : List (DataW H) → Nat
  | [] => 0
  | d :: r => uptoBulk d + uptoBulkAll r
def uptoBulkEntries {H : Type} : List (Lit × DataW H) → Nat
  | [] => 0
  | x :: r => uptoBulkEntry x + uptoBulkEntries r
def uptoBulkEntry {H : Type} : Lit × DataW H → Nat
  | (.string bytes, d) => bytes.length + uptoBulk d + 1
  | (_, d) => uptoBulk d + 1
 end
def uptoSmall : (H : Type) → List (DataW H) → Bool := fun _ ds => decide (uptoBulkAll ds ≤ 1048576)
def OpenSpec.upto (s : _root_.Go.ChangeSpec) : _root_.Go.OpenSpec := { _root_.Go.OpenSpec.ofChange s with cond := some uptoSmall }

/-- 'tapsterlaw12.BookSteps', WHERE WHAT IT READS IS OF BULK AT MOST 1048576: true; the input reads as it did. -/
def bookStepsUptoRow : OpenClaim := { program := "ytcfdcianpicbmaagreat", sum := "fafbbd0043421daf4764fbebb883f2713a39941567f664c7befb027f1bfafde1", func := "tapster/tapsterlaw12.BookSteps", spec := "bookSteps", inPlace := ["internal/bytealg.IndexByteString", "internal/bytealg.IndexString"], unfollowed := true, recurses := true, named := ["math/bits.divideError", "math/bits.overflowError", "internal/bytealg.MaxLen"], apart := false, narrowed := true }
def BookStepsUptoSaid : Prop := bookStepsUptoRow.holds Tryz.pinned (OpenSpec.upto bookStepsSpec)

/-- 'tapsterlaw13.ScopeApart', WHERE WHAT IT READS IS OF BULK AT MOST 1048576: true; the input reads as it did. -/
def scopeApartUptoRow : OpenClaim := { program := "ytcfdcianpicbmaagreat", sum := "fafbbd0043421daf4764fbebb883f2713a39941567f664c7befb027f1bfafde1", func := "tapster/tapsterlaw13.ScopeApart", spec := "scopeApart", inPlace := ["internal/bytealg.IndexByteString", "internal/bytealg.IndexString", "sync/atomic.LoadUint32", "(*internal/sync.Mutex).Lock", "internal/race.Disable", "sync/atomic.CompareAndSwapInt32", "internal/race.Enable", "internal/race.Acquire", "(*internal/sync.Mutex).lockSlow", "internal/sync.runtime_canSpin", "internal/sync.runtime_doSpin", "internal/sync.throw", "internal/sync.runtime_nanotime", "internal/sync.runtime_SemacquireMutex", "sync/atomic.AddInt32", "(*internal/sync.Mutex).Unlock", "internal/race.ReleaseMerge", "(*internal/sync.Mutex).unlockSlow", "internal/sync.fatal", "internal/sync.runtime_Semrelease", "sync/atomic.StoreUint32", "internal/abi.NoEscape"], unfollowed := true, recurses := true, named := ["math/bits.divideError", "math/bits.overflowError", "internal/bytealg.MaxLen"], apart := false, narrowed := true }
def ScopeApartUptoSaid : Prop := scopeApartUptoRow.holds Tryz.pinned (OpenSpec.upto scopeApartSpec)

/-- 'tapsterlaw13.ScopeExpands', WHERE WHAT IT READS IS OF BULK AT MOST 1048576: true; the input reads as it did. -/
def scopeExpandsUptoRow : OpenClaim := { program := "ytcfdcianpicbmaagreat", sum := "fafbbd0043421daf4764fbebb883f2713a39941567f664c7befb027f1bfafde1", func := "tapster/tapsterlaw13.ScopeExpands", spec := "scopeExpands", inPlace := ["internal/bytealg.IndexByteString", "internal/bytealg.IndexString", "sync/atomic.LoadUint32", "(*internal/sync.Mutex).Lock", "internal/race.Disable", "sync/atomic.CompareAndSwapInt32", "internal/race.Enable", "internal/race.Acquire", "(*internal/sync.Mutex).lockSlow", "internal/sync.runtime_canSpin", "internal/sync.runtime_doSpin", "internal/sync.throw", "internal/sync.runtime_nanotime", "internal/sync.runtime_SemacquireMutex", "sync/atomic.AddInt32", "(*internal/sync.Mutex).Unlock", "internal/race.ReleaseMerge", "(*internal/sync.Mutex).unlockSlow", "internal/sync.fatal", "internal/sync.runtime_Semrelease", "sync/atomic.StoreUint32", "internal/abi.NoEscape"], unfollowed := true, recurses := true, named := ["math/bits.divideError", "math/bits.overflowError", "internal/bytealg.MaxLen"], apart := false, narrowed := true }
def ScopeExpandsUptoSaid : Prop := scopeExpandsUptoRow.holds Tryz.pinned (OpenSpec.upto scopeExpandsSpec)

/-- 'tapsterlaw13.ScopeSplits', WHERE WHAT IT READS IS OF BULK AT MOST 1048576: true; the input reads as it did. -/
def scopeSplitsUptoRow : OpenClaim := { program := "ytcfdcianpicbmaagreat", sum := "fafbbd0043421daf4764fbebb883f2713a39941567f664c7befb027f1bfafde1", func := "tapster/tapsterlaw13.ScopeSplits", spec := "scopeSplits", inPlace := ["internal/bytealg.IndexByteString", "internal/bytealg.IndexString", "sync/atomic.LoadUint32", "(*internal/sync.Mutex).Lock", "internal/race.Disable", "sync/atomic.CompareAndSwapInt32", "internal/race.Enable", "internal/race.Acquire", "(*internal/sync.Mutex).lockSlow", "internal/sync.runtime_canSpin", "internal/sync.runtime_doSpin", "internal/sync.throw", "internal/sync.runtime_nanotime", "internal/sync.runtime_SemacquireMutex", "sync/atomic.AddInt32", "(*internal/sync.Mutex).Unlock", "internal/race.ReleaseMerge", "(*internal/sync.Mutex).unlockSlow", "internal/sync.fatal", "internal/sync.runtime_Semrelease", "sync/atomic.StoreUint32", "internal/abi.NoEscape"], unfollowed := true, recurses := true, named := ["math/bits.divideError", "math/bits.overflowError", "internal/bytealg.MaxLen"], apart := false, narrowed := true }
def ScopeSplitsUptoSaid : Prop := scopeSplitsUptoRow.holds Tryz.pinned (OpenSpec.upto scopeSplitsSpec)

/-- 'tapsterlaw13.ScopeOnce', WHERE WHAT IT READS IS OF BULK AT MOST 1048576: true; the input reads as it did. -/
def scopeOnceUptoRow : OpenClaim := { program := "ytcfdcianpicbmaagreat", sum := "fafbbd0043421daf4764fbebb883f2713a39941567f664c7befb027f1bfafde1", func := "tapster/tapsterlaw13.ScopeOnce", spec := "scopeOnce", inPlace := ["internal/bytealg.IndexByteString", "internal/bytealg.IndexString", "sync/atomic.LoadUint32", "(*internal/sync.Mutex).Lock", "internal/race.Disable", "sync/atomic.CompareAndSwapInt32", "internal/race.Enable", "internal/race.Acquire", "(*internal/sync.Mutex).lockSlow", "internal/sync.runtime_canSpin", "internal/sync.runtime_doSpin", "internal/sync.throw", "internal/sync.runtime_nanotime", "internal/sync.runtime_SemacquireMutex", "sync/atomic.AddInt32", "(*internal/sync.Mutex).Unlock", "internal/race.ReleaseMerge", "(*internal/sync.Mutex).unlockSlow", "internal/sync.fatal", "internal/sync.runtime_Semrelease", "sync/atomic.StoreUint32", "internal/abi.NoEscape"], unfollowed := true, recurses := true, named := ["math/bits.divideError", "math/bits.overflowError", "internal/bytealg.MaxLen"], apart := false, narrowed := true }
def ScopeOnceUptoSaid : Prop := scopeOnceUptoRow.holds Tryz.pinned (OpenSpec.upto scopeOnceSpec)

/-- 'tapsterlaw13.ScopeKeys', WHERE WHAT IT READS IS OF BULK AT MOST 1048576: true; the input reads as it did. -/
def scopeKeysUptoRow : OpenClaim := { program := "ytcfdcianpicbmaagreat", sum := "fafbbd0043421daf4764fbebb883f2713a39941567f664c7befb027f1bfafde1", func := "tapster/tapsterlaw13.ScopeKeys", spec := "scopeKeys", inPlace := ["internal/bytealg.IndexByteString", "internal/bytealg.IndexString", "sync/atomic.LoadUint32", "(*internal/sync.Mutex).Lock", "internal/race.Disable", "sync/atomic.CompareAndSwapInt32", "internal/race.Enable", "internal/race.Acquire", "(*internal/sync.Mutex).lockSlow", "internal/sync.runtime_canSpin", "internal/sync.runtime_doSpin", "internal/sync.throw", "internal/sync.runtime_nanotime", "internal/sync.runtime_SemacquireMutex", "sync/atomic.AddInt32", "(*internal/sync.Mutex).Unlock", "internal/race.ReleaseMerge", "(*internal/sync.Mutex).unlockSlow", "internal/sync.fatal", "internal/sync.runtime_Semrelease", "sync/atomic.StoreUint32", "internal/abi.NoEscape"], unfollowed := true, recurses := true, named := ["math/bits.divideError", "math/bits.overflowError", "internal/bytealg.MaxLen"], apart := false, narrowed := true }
def ScopeKeysUptoSaid : Prop := scopeKeysUptoRow.holds Tryz.pinned (OpenSpec.upto scopeKeysSpec)

end Rows
end Go.Proofs.YtcfdcianpicbmaaGreat
