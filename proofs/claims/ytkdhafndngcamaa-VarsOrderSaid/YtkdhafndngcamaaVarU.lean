/-
  What New, Set, Get, Left, Len, Keys of package vars answer, over a Vars as a plain list.
-/
import Derived.Test.YtkdhafndngcamaaVarT
namespace Go.Proofs.Ytkdhafndngcamaa
open Go.RowKit Go.Maps

def clipR (room : Int) : Int := max 0 (min room 10000)
theorem clipR_range (r : Int) : 0 ≤ clipR r ∧ clipR r ≤ 10000 := by unfold clipR; omega

theorem new_is (w : World) (room : Int) (h0 : 0 ≤ room) (h1 : room ≤ 10000) :
    IsVars ((w.alloc (.map #[] 0)).alloc (.cells #[.int .i64 room, .map (some w.heap.size)] 50)) (fun b => w.heap.size ≤ b ∧ b < w.heap.size + 1 + 1) (w.heap.size + 1) room [] := by
  refine ⟨w.heap.size, [], ⟨?_, ?_, by simp, by simp, by simpa using h0, h1⟩, rfl, ?_⟩
  · have := heap_alloc_new (w.alloc (.map #[] 0)) (.cells #[.int .i64 room, .map (some w.heap.size)] 50)
    simpa using this
  · exact (World.ownsMap_made w Try.prog 9 heldRd).alloc _
  · rintro b (rfl | rfl | ⟨x, hx, _⟩)
    · omega
    · omega
    · cases hx

set_option maxHeartbeats 400000 in
theorem new_any (room : Int) (w : World) : Calls Try.prog 8 #[.int .i64 room] w fun e w' => e = .returned (.pointer (some ⟨w.heap.size + 1, 0, none⟩)) ∧
    IsVars w' (fun b => w.heap.size ≤ b ∧ b < w'.heap.size) (w.heap.size + 1) (clipR room) [] ∧ Below w.heap.size w w' := by
  have hn := new_is w (clipR room) (clipR_range room).1 (clipR_range room).2
  have HN := Go.Lib.hid hn
  clear hn
  have hmm := @run_makeMap Try.prog
  go_enter Try.func8, Try.ntmps8
  go_wp2
  go_ret
  exact ⟨rfl, by have := HN.out; unfold clipR at this ⊢; simpa using this, bl_alloc (bl_alloc (bl_refl w) _) _⟩

set_option maxHeartbeats 400000 in
theorem set_nil (s : ByteArray) (n now : Int) (w : World) : Calls Try.prog 9 #[.pointer none, .string s, .int .i64 n, .int .i64 now] w fun e w' => e = .returned (.int .i64 1) ∧ w = w' := by
  go_enter Try.func9, Try.ntmps9
  go_wp2
  go_ret
  exact ⟨rfl, rfl⟩

set_option maxHeartbeats 400000 in
theorem set_any {F : Nat → Prop} {v : Nat} {room : Int} {pm : PM} (s : ByteArray) (hs : s.size ≤ maxLen) (n now : Int) (w : World) (h : IsVars w F v room pm) :
    Calls Try.prog 9 #[.pointer (some ⟨v, 0, none⟩), .string s, .int .i64 n, .int .i64 now] w fun e w' =>
      e = .returned (.int .i64 (if pPutOk pm room s.data.toList now then 0 else 5)) ∧ VarsTo w F v room (pPut pm room s.data.toList (n, -1) now) w' := by
  have hp := put_any s hs n (-1) now w h
  cases hb : pPutOk pm room s.data.toList now
  all_goals
    rw [hb] at hp
    have HP := Go.Lib.hid hp
    clear hp hb h hs
    go_enter Try.func9, Try.ntmps9
    go_wp2_with fail
    refine (HP.out).mono ?_
    rintro e w' ⟨rfl, ht⟩
    have HT := Go.Lib.hid ht
    clear ht HP
    go_wp2
    go_ret
    exact ⟨rfl, HT.out⟩

set_option maxHeartbeats 400000 in
theorem get_any {F : Nat → Prop} {v : Nat} {room : Int} {pm : PM} (s : ByteArray) (hs : s.size ≤ maxLen) (now : Int) (w : World) (h : IsVars w F v room pm) :
    Calls Try.prog 11 #[.pointer (some ⟨v, 0, none⟩), .string s, .int .i64 now] w fun e w' =>
      e = .returned (.tuple #[.int .i64 (((pFind pm s.data.toList now).map (·.1)).getD 0), .bool (pFind pm s.data.toList now).isSome]) ∧ Below w.heap.size w w' := by
  obtain ⟨mb, m, hv, rfl, hF⟩ := h
  have hfi := find_any s hs now w hv
  rw [pFind_er]
  cases hf : vFind m s.data.toList now with
  | none =>
    rw [hf] at hfi
    have HF := Go.Lib.hid hfi
    clear hfi hf hs hv hF
    go_enter Try.func11, Try.ntmps11
    go_wp2_with fail
    refine (HF.out).mono ?_
    rintro e w' ⟨rfl, q, rfl⟩
    unfold ptrOr
    go_wp2
    go_ret2
    exact ⟨rfl, bl_drewN (bl_refl w) q⟩
  | some c =>
    rw [hf] at hfi
    have ho := hv.one _ (sGet_mem (vFind_get hf))
    have c0 : w.cell? ⟨c.p, 0, none⟩ = some (.int .i64 c.n) := by simp [World.cell?, ho]
    have HF := Go.Lib.hid hfi
    clear hfi hf hs hv hF ho
    go_enter Try.func11, Try.ntmps11
    go_wp2_with fail
    refine (HF.out).mono ?_
    rintro e w' ⟨rfl, q, rfl⟩
    unfold ptrOr vPtr
    go_wp2
    go_ret2
    exact ⟨rfl, bl_drewN (bl_refl w) q⟩

set_option maxHeartbeats 400000 in
theorem left_any {F : Nat → Prop} {v : Nat} {room : Int} {pm : PM} (s : ByteArray) (hs : s.size ≤ maxLen) (now : Int) (w : World) (h : IsVars w F v room pm)
    (he : ∀ c, pFind pm s.data.toList now = some c → -1 ≤ c.2 ∧ c.2 ≤ 9007199254740992) :
    Calls Try.prog 17 #[.pointer (some ⟨v, 0, none⟩), .string s, .int .i64 now] w fun e w' =>
      e = .returned (.tuple #[.int .i64 (match pFind pm s.data.toList now with | some c => if c.2 < 0 then -1 else c.2 - clampT now | none => 0), .bool (pFind pm s.data.toList now).isSome]) ∧ Below w.heap.size w w' := by
  obtain ⟨mb, m, hv, rfl, hF⟩ := h
  have hfi := find_any s hs now w hv
  rw [pFind_er] at he ⊢
  cases hf : vFind m s.data.toList now with
  | none =>
    rw [hf] at hfi
    have HF := Go.Lib.hid hfi
    clear hfi hf hs hv hF he
    go_enter Try.func17, Try.ntmps17
    go_wp2_with fail
    refine (HF.out).mono ?_
    rintro e w' ⟨rfl, q, rfl⟩
    unfold ptrOr
    go_wp2
    go_ret2
    exact ⟨rfl, bl_drewN (bl_refl w) q⟩
  | some c =>
    rw [hf] at hfi he
    obtain ⟨he0, he1⟩ := he (vne c) rfl
    simp only [vne] at he0 he1
    have ho := hv.one _ (sGet_mem (vFind_get hf))
    have c1 : w.cell? ⟨c.p, 1, none⟩ = some (.int .i64 c.e) := by simp [World.cell?, ho]
    have HF := Go.Lib.hid hfi
    have hcl := clampT_range now
    have HC := Go.Lib.hid hcl
    clear hfi hf hs hv hF ho he hcl
    simp only [Option.map_some, Option.isSome_some, vne]
    by_cases hneg : c.e < 0
    · rw [if_pos hneg]
      go_enter Try.func17, Try.ntmps17
      go_wp2_with fail
      refine (HF.out).mono ?_
      rintro e w' ⟨rfl, q, rfl⟩
      unfold ptrOr vPtr
      go_wp2
      go_ret2
      exact ⟨rfl, bl_drewN (bl_refl w) q⟩
    · rw [if_neg hneg]
      go_enter Try.func17, Try.ntmps17
      go_wp2_with fail
      refine (HF.out).mono ?_
      rintro e w' ⟨rfl, q, rfl⟩
      unfold ptrOr vPtr
      go_wp2_with fail
      go_quiet ((go_at_call 29; exact quiet_more_same (clamp_any _ _)))
      have := HC.out.1
      have := HC.out.2
      go_wp2
      go_ret2
      have hw : wrap64 (c.e - clampT now) = c.e - clampT now := by unfold wrap64; omega
      exact ⟨congrArg (fun x => Ending.returned (.tuple #[.int .i64 x, .bool true])) hw, bl_drewN (bl_drewN (bl_refl w) _) _⟩

theorem is_len {F : Nat → Prop} {v : Nat} {room : Int} {pm : PM} (now : Int) (w : World) (h : IsVars w F v room pm) :
    Calls Try.prog 14 #[.pointer (some ⟨v, 0, none⟩), .int .i64 now] w fun e w' => e = .returned (.int .i64 (pLive pm now).length) ∧ Below w.heap.size w w' := by
  obtain ⟨mb, m, hv, rfl, hF⟩ := h
  rw [pLive_er]
  exact len_any now w hv
theorem is_keys {F : Nat → Prop} {v : Nat} {room : Int} {pm : PM} (now : Int) (w : World) (h : IsVars w F v room pm) :
    Calls Try.prog 13 #[.pointer (some ⟨v, 0, none⟩), .int .i64 now] w fun e w' => ∃ A c, e = .returned (.slice A (pLive pm now).length c) ∧ ReadsK w' w.heap.size A (pLive pm now) ∧ Below w.heap.size w w' := by
  obtain ⟨mb, m, hv, rfl, hF⟩ := h
  rw [pLive_er]
  exact keys_any now w hv
end Go.Proofs.Ytkdhafndngcamaa
