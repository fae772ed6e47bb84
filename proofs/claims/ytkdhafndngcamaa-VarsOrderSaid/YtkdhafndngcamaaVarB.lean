/-
  What (*vars.Vars).find answers: the pointer of the number that is there, or nil. And the words: what a Vars is in memory.
-/
import Derived.Test.YtkdhafndngcamaaVarA
namespace Go.Proofs.Ytkdhafndngcamaa
open Go.RowKit Go.Maps

/-- Block v is a Vars: of this room, with these keys, each at a block of its own; its map is block mb. -/
structure VarsAt (w : World) (v mb : Nat) (room : Int) (m : List (Key × VC)) : Prop where
  head : w.heap[v]? = some (.cells #[.int .i64 room, .map (some mb)] 50 (0, 0))
  own : w.ownsMap Try.prog 9 heldRd mb m.length (sD vPtr m)
  one : ∀ x ∈ m, w.heap[x.2.p]? = some (.cells #[.int .i64 x.2.n, .int .i64 x.2.e] 53 (0, 0))
  apart : (m.map (·.2.p)).Nodup
  len : (m.length : Int) ≤ room
  most : room ≤ 10000

/-- The blocks of a Vars. -/
def VFoot (v mb : Nat) (m : List (Key × VC)) (b : Nat) : Prop := b = v ∨ b = mb ∨ ∃ x ∈ m, b = x.2.p

theorem VarsAt.lt {w : World} {v mb : Nat} {room : Int} {m : List (Key × VC)} (h : VarsAt w v mb room m) {b : Nat} (hb : VFoot v mb m b) : b < w.heap.size := by
  rcases hb with rfl | rfl | ⟨x, hx, rfl⟩
  · exact (Array.getElem?_eq_some_iff.1 h.head).1
  · exact h.own.lt
  · exact (Array.getElem?_eq_some_iff.1 (h.one x hx)).1
theorem VarsAt.frame {w w' : World} {v mb : Nat} {room : Int} {m : List (Key × VC)} (h : VarsAt w v mb room m) (hf : ∀ b, VFoot v mb m b → w'.heap[b]? = w.heap[b]?) : VarsAt w' v mb room m :=
  ⟨(hf _ (.inl rfl)).trans h.head, own_frame h.own (hf _ (.inr (.inl rfl))), fun x hx => (hf _ (.inr (.inr ⟨x, hx, rfl⟩))).trans (h.one x hx), h.apart, h.len, h.most⟩
theorem VarsAt.below {w w' : World} {v mb : Nat} {room : Int} {m : List (Key × VC)} (h : VarsAt w v mb room m) (hb : Below w.heap.size w w') : VarsAt w' v mb room m :=
  h.frame fun b hf => hb.block b (h.lt hf)
theorem VarsAt.alloc {w : World} {v mb : Nat} {room : Int} {m : List (Key × VC)} (h : VarsAt w v mb room m) (o : Obj) : VarsAt (w.alloc o) v mb room m := h.below ((Below.refl _ _).alloc (Nat.le_refl _) _)
theorem VarsAt.drewN {w : World} {v mb : Nat} {room : Int} {m : List (Key × VC)} (h : VarsAt w v mb room m) (n : Nat) : VarsAt (w.drewN n) v mb room m := h.frame fun _ _ => rfl

def vFind (m : List (Key × VC)) (k : Key) (now : Int) : Option VC := (sGet k m).filter fun c => thereB now c.e
def ptrOr : Option VC → Value
  | some c => vPtr c
  | none => .pointer none


theorem zero_one (w : World) : (zeroValue 54).run Try.prog w = .ok (.pointer none) w := by kernel_rfl

set_option maxHeartbeats 400000 in
theorem find_any {v mb : Nat} {room : Int} {m : List (Key × VC)} (s : ByteArray) (hs : s.size ≤ maxLen) (now : Int) (w : World) (h : VarsAt w v mb room m) :
    Calls Try.prog 20 #[.pointer (some ⟨v, 0, none⟩), .string s, .int .i64 now] w fun r w' => r = .returned (ptrOr (vFind m s.data.toList now)) ∧ ∃ n, w' = w.drewN n := by
  have c1 : w.cell? ⟨v, 1, none⟩ = some (.map (some mb)) := by simp [World.cell?, h.head]
  have hl := run_look h.own Try.underlying9 Try.underlying48 (zero_one w) s hs
  unfold vFind
  cases hg : sGet s.data.toList m with
  | none =>
    rw [hg] at hl
    simp only [Option.map_none, Option.getD_none] at hl
    clear hg h hs
    go_enter Try.func20, Try.ntmps20
    go_wp2_with fail
    refine (there_nil _ _).mono ?_
    rintro e w' ⟨rfl, n, rfl⟩
    go_wp2
    go_ret
    exact ⟨rfl, _, rfl⟩
  | some c =>
    rw [hg] at hl
    simp only [Option.map_some, Option.getD_some] at hl
    have ho := h.one _ (sGet_mem hg)
    have HO := Go.Lib.hid ho
    clear hg h hs ho
    cases ht : thereB now c.e
    all_goals
      have HT := Go.Lib.hid ht
      simp only [Option.filter, ht]
      clear ht
      unfold vPtr at hl
      go_enter Try.func20, Try.ntmps20
      go_wp2_with fail
      refine (there_any _ _ _ _ _ HO.out).mono ?_
      rw [HT.out]
      rintro e w' ⟨rfl, n, rfl⟩
      go_wp2
      go_ret
      exact ⟨rfl, _, rfl⟩
end Go.Proofs.Ytkdhafndngcamaa
