/-
  What the functions of package num answer: Clamp, Later, Add, told. No condition but that a number is one of 64 bits where a sum is made.
-/
import Derived.Test.YtkdhafndngcamaaProg
import Derived.WalkKit
import Derived.WalkSpells
import Derived.WalkLawsBesides
import Derived.Handy
import Derived.Lib.Hide
import Derived.ProofKit
namespace Go.Proofs.Ytkdhafndngcamaa
open Go.RowKit

/-- A time, clipped. -/
def clampT (t : Int) : Int := if t < 0 then 0 else if 9007199254740992 < t then 9007199254740992 else t
theorem clampT_range (t : Int) : 0 ≤ clampT t ∧ clampT t ≤ 9007199254740992 := by unfold clampT; split <;> (try split) <;> omega
theorem clampT_id {t : Int} (h0 : 0 ≤ t) (h1 : t ≤ 9007199254740992) : clampT t = t := by unfold clampT; split <;> (try split) <;> omega

set_option maxHeartbeats 400000 in
theorem clamp_any (t : Int) (w : World) : Calls Try.prog 29 #[.int .i64 t] w fun e w' => e = .returned (.int .i64 (clampT t)) ∧ w = w' := by
  by_cases h0 : t < 0
  · have e : clampT t = 0 := by unfold clampT; rw [if_pos h0]
    rw [e]
    go_enter Try.func29, Try.ntmps29
    go_wp2
    go_ret
    exact ⟨rfl, rfl⟩
  · by_cases h1 : 9007199254740992 < t
    · have e : clampT t = 9007199254740992 := by unfold clampT; rw [if_neg h0, if_pos h1]
      rw [e]
      go_enter Try.func29, Try.ntmps29
      go_wp2
      go_ret
      exact ⟨rfl, rfl⟩
    · have e : clampT t = t := by unfold clampT; rw [if_neg h0, if_neg h1]
      rw [e]
      clear e
      go_enter Try.func29, Try.ntmps29
      go_wp2
      all_goals
        go_ret
        first | exact ⟨rfl, rfl⟩ | exact ⟨congrArg (fun x => Ending.returned (.int .i64 x)) (show (0 : Int) = t by omega), rfl⟩

/-- A time, so much later. -/
def laterT (t d : Int) : Int := clampT (clampT t + clampT d)

set_option maxHeartbeats 400000 in
theorem later_any (t d : Int) (w : World) : Calls Try.prog 28 #[.int .i64 t, .int .i64 d] w fun e w' => e = .returned (.int .i64 (laterT t d)) ∧ w = w' := by
  have a0 := clampT_range t
  have a1 := clampT_range d
  unfold laterT
  generalize hx : clampT t = x at *
  generalize hy : clampT d = y at *
  have HX := Go.Lib.hid hx
  have HY := Go.Lib.hid hy
  clear hx hy
  obtain ⟨a2, a3⟩ := a0
  obtain ⟨a4, a5⟩ := a1
  go_enter Try.func28, Try.ntmps28
  go_wp2_with fail
  refine (clamp_any _ _).mono ?_
  rw [HX.out]
  rintro e w' ⟨rfl, rfl⟩
  go_wp2_with fail
  refine (clamp_any _ _).mono ?_
  rw [HY.out]
  rintro e w' ⟨rfl, rfl⟩
  go_wp2_with fail
  refine (clamp_any _ _).mono ?_
  rintro e w' ⟨rfl, rfl⟩
  go_wp2
  go_ret
  exact ⟨rfl, rfl⟩

set_option maxHeartbeats 400000 in
theorem told_any (n : Int) (ok : Bool) (w : World) : Calls Try.prog 31 #[.int .i64 n, .bool ok] w fun e w' => e = .returned (.tuple #[.int .i64 (if ok then n else 0), .bool ok]) ∧ w = w' := by
  cases ok
  all_goals
    go_enter Try.func31, Try.ntmps31
    go_wp2
    go_ret2
    exact ⟨rfl, rfl⟩

/-- A sum, if it is one of 64 bits. -/
def addOk (a b : Int) : Bool := decide (-9223372036854775808 ≤ a + b) && decide (a + b ≤ 9223372036854775807)
def addN (a b : Int) : Int := if addOk a b then a + b else 0

theorem add_ok_eq (a b : Int) (ha0 : -9223372036854775808 ≤ a) (ha1 : a ≤ 9223372036854775807) (hb0 : -9223372036854775808 ≤ b) (hb1 : b ≤ 9223372036854775807) :
    (decide (a < wrap64 (a + b)) == decide (0 < b)) = addOk a b := by
  unfold addOk wrap64
  rw [Bool.eq_iff_iff]
  simp only [beq_iff_eq, decide_eq_decide, Bool.and_eq_true, decide_eq_true_eq]
  omega
theorem add_wrap (a b : Int) (h : addOk a b = true) : wrap64 (a + b) = a + b := by
  unfold addOk at h
  simp only [Bool.and_eq_true, decide_eq_true_eq] at h
  unfold wrap64
  omega

set_option maxHeartbeats 400000 in
theorem add_any (a b : Int) (w : World) (ha0 : -9223372036854775808 ≤ a) (ha1 : a ≤ 9223372036854775807) (hb0 : -9223372036854775808 ≤ b) (hb1 : b ≤ 9223372036854775807) :
    Calls Try.prog 21 #[.int .i64 a, .int .i64 b] w fun e w' => e = .returned (.tuple #[.int .i64 (addN a b), .bool (addOk a b)]) ∧ w = w' := by
  have hk := add_ok_eq a b ha0 ha1 hb0 hb1
  have hw := add_wrap a b
  unfold addN
  cases hh : addOk a b
  · rw [hh] at hk
    have HK := Go.Lib.hid hk
    clear hk ha0 ha1 hb0 hb1 hw hh
    go_enter Try.func21, Try.ntmps21
    go_wp2_with fail
    refine (told_any _ _ _).mono ?_
    rw [HK.out]
    rintro e w' ⟨rfl, rfl⟩
    go_wp2
    go_ret2
    exact ⟨rfl, rfl⟩
  · rw [hh] at hk
    have HK := Go.Lib.hid hk
    have HW := Go.Lib.hid (hw hh)
    clear hk ha0 ha1 hb0 hb1 hw hh
    go_enter Try.func21, Try.ntmps21
    go_wp2_with fail
    refine (told_any _ _ _).mono ?_
    rw [HK.out, HW.out]
    rintro e w' ⟨rfl, rfl⟩
    go_wp2
    go_ret2
    exact ⟨rfl, rfl⟩
end Go.Proofs.Ytkdhafndngcamaa
