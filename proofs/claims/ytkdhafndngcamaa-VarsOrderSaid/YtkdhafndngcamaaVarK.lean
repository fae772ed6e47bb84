/-
  What (*vars.Vars).Keys answers: the keys that are there, rising; and Len: how many they are.
-/
import Derived.Test.YtkdhafndngcamaaVarB
import Derived.Test.YtkdhafndngcamaaLay
import Derived.Lib.SliceRun
namespace Go.Proofs.Ytkdhafndngcamaa
open Go.RowKit Go.Maps Go.Sort Go.Shelf
open Go (strKeys)

/-- slices.Sort at this program. -/
theorem sorts_any (m : Nat) : AnyZ.SortsIn Try.prog Try.sortedL_ren Fence.wide m :=
  ⟨fun blk off cap ss W hH hblk hsz => callsIn_wide.2 (AnyM.slices_Sort_string Try.sortL blk off cap ss W hH hblk hsz),
   fun p cap W => callsIn_wide.2 (AnyM.slices_Sort_string_none Try.sortL p cap W)⟩

/-- maps.Keys. -/
theorem maps_keys (mb : Option Nat) (W : World) : Calls Try.prog 24 #[.map mb] W fun e w' => e = .returned (.func (.func 35) #[] #[.pointer (some ⟨W.heap.size, 0, none⟩)]) ∧ w' = W.alloc (.cells #[.map mb] 48) :=
  callsIn_wide.1 (AnyZ.keys_in Try.keysL Fence.wide 5 trivial rfl mb W)

set_option maxHeartbeats 1000000 in
/-- slices.Sorted at what maps.Keys handed back. -/
theorem sorted_keys {H : Type} (b nn : Nat) (D0 : DataW H) (R : Value → Option (DataW H × List MemPlace)) (w : World) (hown : w.ownsMap Try.prog 9 R b nn D0) (hmax : Maps.size D0 ≤ maxLen) (hbytes : Maps.size D0 * 16 ≤ 140737488355328) :
    Calls Try.prog 23 #[.func (.func 35) #[] #[.pointer (some ⟨w.heap.size, 0, none⟩)]] (w.alloc (.cells #[.map (some b)] 48)) fun e w' => ∃ (v : Value) (ss : List (List UInt8)), e = .returned v ∧ ss.Perm (strKeys D0) ∧
      w'.ownsRow (w.alloc (.cells #[.map (some b)] 48)).heap.size 9 1 v ss.length ((ss.mergeSort (fun x y => decide (x ≤ y))).map encStr) ∧ (v = .slice none 0 0 ↔ ss = []) ∧ Below (w.alloc (.cells #[.map (some b)] 48)).heap.size (w.alloc (.cells #[.map (some b)] 48)) w' := by
  have hbl := hown.lt
  have hseq : SeqGives Fence.wide 2 Try.prog 35 #[.pointer (some ⟨w.heap.size, 0, none⟩)] encStr (fun ss => ss.Perm (strKeys D0)) (Maps.size D0) (w.alloc (.cells #[.map (some b)] 48)) :=
    AnyZ.keys_gives (ρ := Try.keysL_ren) { Try.keysL with } Fence.wide _ trivial rfl (by omega) w.heap.size b nn D0 _ (by simp) (by simp) (by
      obtain ⟨es, clock, hb, Ft, hs, hD⟩ := hown
      exact ⟨es, clock, (Below.heap_alloc _ _ b hbl).trans hb, Ft, hs, hD⟩)
  exact callsIn_wide.1 (AnyZ.sorted_in Try.sortedL Fence.wide 5 trivial trivial trivial trivial rfl (by omega) (sorts_any _) (enters_of Try.func34 (by kernel_rfl) rfl) 35 #[.pointer (some ⟨w.heap.size, 0, none⟩)] trivial (enters_of Try.func35 (by kernel_rfl) rfl) _ _ hmax hbytes _ hseq)

/-- A key that a map may have. -/
abbrev KeyS := { l : Key // l.length ≤ maxLen }
instance : Inhabited KeyS := ⟨⟨[], Nat.zero_le _⟩⟩
def encS (x : KeyS) : Value := encStr x.1
theorem encS_one : Go.Proofs.OneCell encS := fun _ => rfl

/-- Is a key not there? -/
def goneB (m : List (Key × VC)) (now : Int) (x : KeyS) : Bool := !(vFind m x.1 now).isSome

theorem there_at (c : VC) (now : Int) (b : Bool) (w : World) (h : w.heap[c.p]? = some (.cells #[.int .i64 c.n, .int .i64 c.e] 53 (0, 0))) (ht : thereB now c.e = b) (n : Nat) :
    Calls Try.prog 26 #[.pointer (some ⟨c.p, 0, none⟩), .int .i64 now] (w.drewN n) fun r w' => r = .returned (.bool b) ∧ ∃ m, w' = (w.drewN n).drewN m := by
  subst ht
  exact there_any c.p c.n c.e now (w.drewN n) h

set_option maxHeartbeats 400000 in
/-- The closure that Keys hands to slices.DeleteFunc. -/
theorem gone_any {v mb : Nat} {room : Int} {m : List (Key × VC)} (x : KeyS) (now : Int) (b1 b2 : Nat) (w : World) (h : VarsAt w v mb room m)
    (h1 : w.cell? ⟨b1, 0, none⟩ = some (.pointer (some ⟨v, 0, none⟩))) (h2 : w.cell? ⟨b2, 0, none⟩ = some (.int .i64 now)) :
    FnGives Try.prog 25 #[.pointer (some ⟨b1, 0, none⟩), .pointer (some ⟨b2, 0, none⟩)] #[encS x] (.bool (goneB m now x)) w := by
  show Calls Try.prog 25 #[encS x, .pointer (some ⟨b1, 0, none⟩), .pointer (some ⟨b2, 0, none⟩)] w _
  have c1 : w.cell? ⟨v, 1, none⟩ = some (.map (some mb)) := by simp [World.cell?, h.head]
  obtain ⟨l, hl0⟩ := x
  obtain ⟨s, hs⟩ : ∃ s : ByteArray, encS ⟨l, hl0⟩ = .string s ∧ s.data.toList = l ∧ s.size ≤ maxLen := ⟨⟨l.toArray⟩, rfl, by simp, by simpa [ByteArray.size] using hl0⟩
  obtain ⟨hs0, hs1, hs2⟩ := hs
  rw [hs0]
  unfold goneB vFind
  dsimp only
  rw [← hs1]
  clear hs0 hs1 hl0
  have hl := fun n => run_look (h.drewN n).own Try.underlying9 Try.underlying48 (zero_one _) s hs2
  cases hg : sGet s.data.toList m with
  | none =>
    rw [hg] at hl
    simp only [Option.map_none, Option.getD_none] at hl
    clear hg h hs2
    go_enter Try.func25, Try.ntmps25
    go_wp2_with fail
    go_quiet ((go_at_call 26; exact Calls.quiet_of (there_nil _ _)))
    go_wp2
    go_ret
    exact ⟨rfl, _, rfl⟩
  | some c =>
    rw [hg] at hl
    simp only [Option.map_some, Option.getD_some] at hl
    have ho := h.one _ (sGet_mem hg)
    have HO := Go.Lib.hid ho
    clear hg h hs2 ho
    cases ht : thereB now c.e
    all_goals
      have HT := Go.Lib.hid ht
      simp only [Option.filter, ht]
      clear ht
      unfold vPtr at hl
      go_enter Try.func25, Try.ntmps25
      go_wp2_with fail
      go_quiet ((go_at_call 26; exact Calls.quiet_of (there_at c now _ w HO.out HT.out _)))
      go_wp2
      go_ret
      exact ⟨rfl, _, rfl⟩
end Go.Proofs.Ytkdhafndngcamaa
