/-
  The laws of package vars: what the chapter's example fixes is so.
-/
import Derived.Test.YtkdhafndngcamaaVarW
namespace Go.Proofs.Ytkdhafndngcamaa
open Go.RowKit Go.Maps
set_option linter.unusedVariables false

def sA : ByteArray := ⟨#[97]⟩
def sB : ByteArray := ⟨#[98]⟩
def kA : Key := [97]
def kB : Key := [98]
theorem sA_key : sA.data.toList = kA := rfl
theorem sB_key : sB.data.toList = kB := rfl
theorem sA_le : sA.size ≤ maxLen := by unfold maxLen; decide
theorem sB_le : sB.size ≤ maxLen := by unfold maxLen; decide

theorem VarsTo.is {w w' : World} {F : Nat → Prop} {v : Nat} {room : Int} {pm : PM} (h : VarsTo w F v room pm w') : ∃ F', IsVars w' F' v room pm := let ⟨F', h1, _⟩ := h; ⟨F', h1⟩

/-- A Vars whose blocks are all new since w0. -/
def NewVars (w0 w : World) (v : Nat) (room : Int) (pm : PM) : Prop := ∃ F : Nat → Prop, IsVars w F v room pm ∧ (∀ b, F b → w0.heap.size ≤ b) ∧ Below w0.heap.size w0 w
theorem NewVars.to {w0 w w' : World} {v : Nat} {room : Int} {pm pm' : PM} (hb : Below w0.heap.size w0 w) (h : ∀ F, IsVars w F v room pm → (∀ b, F b → w0.heap.size ≤ b) → VarsTo w F v room pm' w') (hn : NewVars w0 w v room pm) : NewVars w0 w' v room pm' := by
  obtain ⟨F, h1, h2, h3⟩ := hn
  obtain ⟨F', h4, h5, h6⟩ := h F h1 h2
  refine ⟨F', h4, fun b hf => ?_, h3.trans (h6.below hb.size h2)⟩
  rcases h5 b hf with h | ⟨h, _⟩
  · exact h2 b h
  · exact Nat.le_trans hb.size h

/-! ### The acts, at a Vars that is new since w0 -/
section
variable {w0 w : World} {v : Nat} {room : Int} {pm : PM}
theorem NewVars.is (h : NewVars w0 w v room pm) : ∃ F, IsVars w F v room pm ∧ (∀ b, F b → w0.heap.size ≤ b) := let ⟨F, h1, h2, _⟩ := h; ⟨F, h1, h2⟩
theorem NewVars.bl (h : NewVars w0 w v room pm) : Below w0.heap.size w0 w := let ⟨_, _, _, h3⟩ := h; h3
theorem NewVars.drewN (h : NewVars w0 w v room pm) (n : Nat) : NewVars w0 (w.drewN n) v room pm := let ⟨F, h1, h2, h3⟩ := h; ⟨F, h1.below (bl_drewN (bl_refl w) n), h2, bl_drewN h3 n⟩
theorem NewVars.later {w' : World} (h : NewVars w0 w v room pm) (hb : Below w.heap.size w w') : NewVars w0 w' v room pm := let ⟨F, h1, h2, h3⟩ := h; ⟨F, h1.below hb, h2, bl_then h3 hb⟩
theorem NewVars.step {w' : World} {pm' : PM} (h : NewVars w0 w v room pm) {F : Nat → Prop} (h2 : ∀ b, F b → w0.heap.size ≤ b) (ht : VarsTo w F v room pm' w') : NewVars w0 w' v room pm' := by
  obtain ⟨F', h4, h5, h6⟩ := ht
  refine ⟨F', h4, fun b hf => ?_, h.bl.trans (h6.below h.bl.size h2)⟩
  rcases h5 b hf with h' | ⟨h', _⟩
  · exact h2 b h'
  · exact Nat.le_trans h.bl.size h'

theorem nv_new (room : Int) (hb : Below w0.heap.size w0 w) : Calls Try.prog 8 #[.int .i64 room] w fun e w' => ∃ v, e = .returned (.pointer (some ⟨v, 0, none⟩)) ∧ NewVars w0 w' v (clipR room) [] :=
  (new_any room w).mono fun _ _ ⟨he, h1, h2⟩ => ⟨_, he, _, h1, fun _ hf => Nat.le_trans hb.size hf.1, bl_then hb h2⟩
theorem nv_set (s : ByteArray) (hs : s.size ≤ maxLen) (n now : Int) (h : NewVars w0 w v room pm) :
    Calls Try.prog 9 #[.pointer (some ⟨v, 0, none⟩), .string s, .int .i64 n, .int .i64 now] w fun e w' =>
      e = .returned (.int .i64 (if pPutOk pm room s.data.toList now then 0 else 5)) ∧ NewVars w0 w' v room (pPut pm room s.data.toList (n, -1) now) := by
  obtain ⟨F, h1, h2⟩ := h.is
  exact (set_any s hs n now w h1).mono fun _ _ ⟨he, ht⟩ => ⟨he, h.step h2 ht⟩
theorem nv_add (s : ByteArray) (hs : s.size ≤ maxLen) (n now : Int) (hn0 : -9223372036854775808 ≤ n) (hn1 : n ≤ 9223372036854775807) (h : NewVars w0 w v room pm)
    (hx : -9223372036854775808 ≤ (pAddTo pm s.data.toList now).1 ∧ (pAddTo pm s.data.toList now).1 ≤ 9223372036854775807) :
    Calls Try.prog 10 #[.pointer (some ⟨v, 0, none⟩), .string s, .int .i64 n, .int .i64 now] w fun e w' =>
      e = .returned (.tuple #[.int .i64 (pAddN pm room s.data.toList n now), .int .i64 (pAddE pm room s.data.toList n now)]) ∧ NewVars w0 w' v room (pAdd pm room s.data.toList n now) := by
  obtain ⟨F, h1, h2⟩ := h.is
  exact (add_vars s hs n now hn0 hn1 w h1 hx).mono fun _ _ ⟨he, ht⟩ => ⟨he, h.step h2 ht⟩
theorem nv_delete (s : ByteArray) (hs : s.size ≤ maxLen) (now : Int) (h : NewVars w0 w v room pm) :
    Calls Try.prog 18 #[.pointer (some ⟨v, 0, none⟩), .string s, .int .i64 now] w fun e w' => e = .returned (.bool (pFind pm s.data.toList now).isSome) ∧ NewVars w0 w' v room (pDel pm s.data.toList now) := by
  obtain ⟨F, h1, h2⟩ := h.is
  exact (delete_any s hs now w h1).mono fun _ _ ⟨he, ht⟩ => ⟨he, h.step h2 ht⟩
theorem nv_expire (s : ByteArray) (hs : s.size ≤ maxLen) (last now : Int) (h : NewVars w0 w v room pm) :
    Calls Try.prog 16 #[.pointer (some ⟨v, 0, none⟩), .string s, .int .i64 last, .int .i64 now] w fun e w' => e = .returned (.bool (pFind pm s.data.toList now).isSome) ∧ NewVars w0 w' v room (pExp pm s.data.toList last now) := by
  obtain ⟨F, h1, h2⟩ := h.is
  exact (expire_any s hs last now w h1).mono fun _ _ ⟨he, ht⟩ => ⟨he, h.step h2 ht⟩
theorem nv_get (s : ByteArray) (hs : s.size ≤ maxLen) (now : Int) (h : NewVars w0 w v room pm) :
    Calls Try.prog 11 #[.pointer (some ⟨v, 0, none⟩), .string s, .int .i64 now] w fun e w' =>
      e = .returned (.tuple #[.int .i64 (((pFind pm s.data.toList now).map (·.1)).getD 0), .bool (pFind pm s.data.toList now).isSome]) ∧ NewVars w0 w' v room pm := by
  obtain ⟨F, h1, h2⟩ := h.is
  exact (get_any s hs now w h1).mono fun _ _ ⟨he, ht⟩ => ⟨he, h.later ht⟩
theorem nv_left (s : ByteArray) (hs : s.size ≤ maxLen) (now : Int) (h : NewVars w0 w v room pm) (he : ∀ c, pFind pm s.data.toList now = some c → -1 ≤ c.2 ∧ c.2 ≤ 9007199254740992) :
    Calls Try.prog 17 #[.pointer (some ⟨v, 0, none⟩), .string s, .int .i64 now] w fun e w' =>
      e = .returned (.tuple #[.int .i64 (match pFind pm s.data.toList now with | some c => if c.2 < 0 then -1 else c.2 - clampT now | none => 0), .bool (pFind pm s.data.toList now).isSome]) ∧ NewVars w0 w' v room pm := by
  obtain ⟨F, h1, h2⟩ := h.is
  exact (left_any s hs now w h1 he).mono fun _ _ ⟨he, ht⟩ => ⟨he, h.later ht⟩
theorem nv_len (now : Int) (h : NewVars w0 w v room pm) :
    Calls Try.prog 14 #[.pointer (some ⟨v, 0, none⟩), .int .i64 now] w fun e w' => e = .returned (.int .i64 (pLive pm now).length) ∧ NewVars w0 w' v room pm := by
  obtain ⟨F, h1, h2⟩ := h.is
  exact (is_len now w h1).mono fun _ _ ⟨he, ht⟩ => ⟨he, h.later ht⟩
theorem nv_keys (now : Int) (h : NewVars w0 w v room pm) :
    Calls Try.prog 13 #[.pointer (some ⟨v, 0, none⟩), .int .i64 now] w fun e w' => ∃ A c, e = .returned (.slice A (pLive pm now).length c) ∧ ReadsK w' w0.heap.size A (pLive pm now) ∧ NewVars w0 w' v room pm := by
  obtain ⟨F, h1, h2⟩ := h.is
  refine (is_keys now w h1).mono fun _ _ ⟨A, c, he, hr, ht⟩ => ⟨A, c, he, fun hpos => ?_, h.later ht⟩
  obtain ⟨g, hg, hge, hc⟩ := hr hpos
  exact ⟨g, hg, Nat.le_trans h.bl.size hge, hc⟩
end

set_option maxHeartbeats 1000000 in
theorem known_any (w : World) : Calls Try.prog 7 #[] w fun e w' => e = .returned (.bool true) ∧ Below w.heap.size w w' := by
  have e0 : clipR 9 = 9 := by decide
  have e1 : pPutOk [] 9 sA.data.toList 0 = true := by decide
  have e2 : pPut [] 9 sA.data.toList (5, -1) 0 = [(kA, (5, -1))] := by decide
  have e3 : (pFind [(kA, (5, -1))] sA.data.toList 0).isSome = true := by decide
  have e4 : pExp [(kA, (5, -1))] sA.data.toList 10 0 = [(kA, (5, 10))] := by decide
  have e5 : pFind [(kA, (5, 10))] sA.data.toList 9 = some (5, 10) := by decide
  have e6 : pFind [(kA, (5, 10))] sA.data.toList 10 = none := by decide
  have n0 := nv_new (w0 := w) 9 (bl_refl w)
  have n1 := fun W v (h : NewVars w W v 9 []) => nv_set sA sA_le 5 0 h
  have n2 := fun W v (h : NewVars w W v 9 [(kA, (5, -1))]) => nv_expire sA sA_le 10 0 h
  have n3 := fun W v (h : NewVars w W v 9 [(kA, (5, 10))]) => nv_get sA sA_le 9 h
  have n4 := fun W v (h : NewVars w W v 9 [(kA, (5, 10))]) => nv_get sA sA_le 10 h
  rw [e0] at n0
  simp only [e1, e2] at n1
  simp only [e3, e4] at n2
  simp only [e5] at n3
  simp only [e6] at n4
  have N0 := Go.Lib.hid n0
  have N1 := Go.Lib.hid n1
  have N2 := Go.Lib.hid n2
  have N3 := Go.Lib.hid n3
  have N4 := Go.Lib.hid n4
  clear n0 n1 n2 n3 n4 e0 e1 e2 e3 e4 e5 e6
  go_enter Try.func7, Try.ntmps7
  go_wp2_with fail
  refine (N0.out).mono ?_
  rintro e w' ⟨v, rfl, h0⟩
  go_wp2_with fail
  refine (N1.out _ _ h0).mono ?_
  rintro e w' ⟨rfl, h1⟩
  go_wp2_with fail
  refine (N2.out _ _ h1).mono ?_
  rintro e w' ⟨rfl, h2⟩
  go_wp2_with fail
  refine (N3.out _ _ h2).mono ?_
  rintro e w' ⟨rfl, h3⟩
  go_wp2_with fail
  refine (N4.out _ _ h3).mono ?_
  rintro e w' ⟨rfl, h4⟩
  go_wp2_with fail
  refine (set_nil _ _ _ _).mono ?_
  rintro e w' ⟨rfl, rfl⟩
  go_wp2
  go_ret
  exact ⟨rfl, h4.bl⟩
end Go.Proofs.Ytkdhafndngcamaa
