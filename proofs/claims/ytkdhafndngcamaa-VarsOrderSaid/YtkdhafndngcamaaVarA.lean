/-
  What (*vars.one).there and (*vars.Vars).find answer: a number is there if it has no end, or one that is above the time; find hands back its pointer, or nil.
-/
import Derived.Test.YtkdhafndngcamaaNum
import Derived.Test.YtkdhafndngcamaaMapg
import Derived.Deep.QuietTactic
import Derived.BigQuiet
import Derived.LaidEqlPtr
namespace Go.Proofs.Ytkdhafndngcamaa
open Go.RowKit Go.Maps

theorem bl_refl (w : World) : Below w.heap.size w w := Below.refl _ _
theorem bl_alloc {w W : World} (h : Below w.heap.size w W) (o : Obj) : Below w.heap.size w (W.alloc o) := h.alloc h.size o
theorem bl_drewN {w W : World} (h : Below w.heap.size w W) (n : Nat) : Below w.heap.size w (W.drewN n) := ⟨h.os, h.tape, h.output, h.size, h.block⟩
theorem bl_then {w w1 w2 : World} (h : Below w.heap.size w w1) (k : Below w1.heap.size w1 w2) : Below w.heap.size w w2 := h.trans (k.mono h.size)

theorem quiet_more {P : Program} {f : FuncId} {args : Array Value} {w : World} {a n : Nat} {v : Value}
    (h : Calls P f args (w.drewN (a + n)) fun e w' => e = .returned v ∧ ∃ m, w' = (w.drewN (a + n)).drewN m) :
    Calls P f args (w.drewN (a + n)) fun e w'' => e = .returned v ∧ ∃ m, w'' = w.drewN (a + m) :=
  h.mono fun _ _ ⟨he, m, hm⟩ => ⟨he, n + m, by rw [hm, World.drewN_drewN, Nat.add_assoc]⟩
theorem quiet_more_same {P : Program} {f : FuncId} {args : Array Value} {w : World} {a n : Nat} {v : Value}
    (h : Calls P f args (w.drewN (a + n)) fun e w' => e = .returned v ∧ w.drewN (a + n) = w') :
    Calls P f args (w.drewN (a + n)) fun e w'' => e = .returned v ∧ ∃ m, w'' = w.drewN (a + m) :=
  h.mono fun _ _ ⟨he, hm⟩ => ⟨he, n, hm.symm⟩

/-- A number's place, the number, its end. -/
structure VC where
  p : Nat
  n : Int
  e : Int
def vPtr (c : VC) : Value := .pointer (some ⟨c.p, 0, none⟩)
def thereB (now : Int) (e : Int) : Bool := decide (e < 0) || decide (clampT now < e)

set_option maxHeartbeats 400000 in
theorem there_nil (now : Int) (w : World) : Calls Try.prog 26 #[.pointer none, .int .i64 now] w fun e w' => e = .returned (.bool false) ∧ ∃ n, w' = w.drewN n := by
  go_enter Try.func26, Try.ntmps26
  go_wp2_with fail
  go_quiet (fail)
  go_wp2
  go_ret
  exact ⟨rfl, _, rfl⟩

set_option maxHeartbeats 400000 in
theorem there_any (p : Nat) (n e : Int) (now : Int) (w : World) (h : w.heap[p]? = some (.cells #[.int .i64 n, .int .i64 e] 53 (0, 0))) :
    Calls Try.prog 26 #[.pointer (some ⟨p, 0, none⟩), .int .i64 now] w fun r w' => r = .returned (.bool (thereB now e)) ∧ ∃ n, w' = w.drewN n := by
  have c1 : w.cell? ⟨p, 1, none⟩ = some (.int .i64 e) := by simp [World.cell?, h]
  clear h
  unfold thereB
  by_cases h0 : e < 0
  · have e1 : decide (e < 0) = true := by simpa using h0
    rw [e1, Bool.true_or]
    go_enter Try.func26, Try.ntmps26
    go_wp2_with fail
    go_quiet (fail)
    go_wp2
    go_ret
    exact ⟨rfl, _, rfl⟩
  · have e1 : decide (e < 0) = false := by simpa using h0
    rw [e1, Bool.false_or]
    go_enter Try.func26, Try.ntmps26
    go_wp2_with fail
    go_quiet ((go_at_call 29; exact Calls.quiet_of_same ((clamp_any _ _).mono fun _ _ h => ⟨h.1, h.2.symm⟩)))
    go_wp2
    go_ret
    exact ⟨rfl, _, rfl⟩
end Go.Proofs.Ytkdhafndngcamaa
