/-
  What the laws' own did tells of an act on a Vars, over a Vars as a plain list.
-/
import Derived.Test.YtkdhafndngcamaaVarX
namespace Go.Proofs.Ytkdhafndngcamaa
open Go.RowKit Go.Maps
set_option linter.unusedVariables false

/-- An act. -/
structure Dd where
  kind : Int
  key : ByteArray
  n : Int
  now : Int
def Dd.ok (d : Dd) : Prop := d.key.size ≤ maxLen ∧ -9223372036854775808 ≤ d.n ∧ d.n ≤ 9223372036854775807
def Dd.val (d : Dd) : Value := .agg #[.int .i64 d.kind, .string d.key, .int .i64 d.n, .int .i64 d.now]
def truthI (b : Bool) : Int := if b then 1 else 0

/-- What it tells, and what is there then. -/
def pDid (pm : PM) (room : Int) (d : Dd) : (Int × Int) × PM :=
  if d.kind = 1 then ((0, if pPutOk pm room d.key.data.toList d.now then 0 else 5), pPut pm room d.key.data.toList (d.n, -1) d.now)
  else if d.kind = 2 then ((pAddN pm room d.key.data.toList d.n d.now, pAddE pm room d.key.data.toList d.n d.now), pAdd pm room d.key.data.toList d.n d.now)
  else if d.kind = 3 then ((0, truthI (pFind pm d.key.data.toList d.now).isSome), pDel pm d.key.data.toList d.now)
  else if d.kind = 4 then ((0, truthI (pFind pm d.key.data.toList d.now).isSome), pExp pm d.key.data.toList d.n d.now)
  else ((((pFind pm d.key.data.toList d.now).map (·.1)).getD 0, truthI (pFind pm d.key.data.toList d.now).isSome), pm)

/-- Numbers of 64 bits, ends that may be. -/
def okPM (pm : PM) : Prop := ∀ x ∈ pm, -9223372036854775808 ≤ x.2.1 ∧ x.2.1 ≤ 9223372036854775807 ∧ -1 ≤ x.2.2 ∧ x.2.2 ≤ 9007199254740992
theorem okPM.find {pm : PM} (h : okPM pm) {k : Key} {now : Int} {c : Int × Int} (hf : pFind pm k now = some c) : -9223372036854775808 ≤ c.1 ∧ c.1 ≤ 9223372036854775807 ∧ -1 ≤ c.2 ∧ c.2 ≤ 9007199254740992 := by
  unfold pFind at hf
  have := (Option.filter_eq_some_iff.1 hf).1
  exact h _ (sGet_mem this)
theorem okPM.addTo {pm : PM} (h : okPM pm) (k : Key) (now : Int) : -9223372036854775808 ≤ (pAddTo pm k now).1 ∧ (pAddTo pm k now).1 ≤ 9223372036854775807 ∧ -1 ≤ (pAddTo pm k now).2 ∧ (pAddTo pm k now).2 ≤ 9007199254740992 := by
  unfold pAddTo
  cases hf : pFind pm k now with
  | none => simp
  | some c => exact h.find hf
theorem okPM.sub {pm pm' : PM} (h : okPM pm) (hs : ∀ x ∈ pm', x ∈ pm) : okPM pm' := fun x hx => h x (hs x hx)
theorem okPM.sPut {pm : PM} (h : okPM pm) (k : Key) {c : Int × Int} (hc : -9223372036854775808 ≤ c.1 ∧ c.1 ≤ 9223372036854775807 ∧ -1 ≤ c.2 ∧ c.2 ≤ 9007199254740992) : okPM (sPut k c pm) := fun x hx => by
  rcases mem_sPut.1 hx with rfl | ⟨hx, _⟩
  · exact hc
  · exact h x hx
theorem okPM.put {pm : PM} (h : okPM pm) (room : Int) (k : Key) {c : Int × Int} (now : Int) (hc : -9223372036854775808 ≤ c.1 ∧ c.1 ≤ 9223372036854775807 ∧ -1 ≤ c.2 ∧ c.2 ≤ 9007199254740992) : okPM (pPut pm room k c now) := by
  unfold pPut
  split
  · exact h.sPut k hc
  · split
    · exact (h.sub (pm' := pSweep pm now) fun x hx => (List.mem_filter.1 hx).1).sPut k hc
    · exact h
theorem okPM.did {pm : PM} (h : okPM pm) (room : Int) {d : Dd} (hd : d.ok) : okPM (pDid pm room d).2 := by
  unfold pDid
  obtain ⟨_, hn0, hn1⟩ := hd
  split
  · exact h.put room _ _ ⟨hn0, hn1, by simp, by simp⟩
  · split
    · unfold pAdd
      split
      · rename_i hok
        have ha := h.addTo d.key.data.toList d.now
        have hs : -9223372036854775808 ≤ (pAddTo pm d.key.data.toList d.now).1 + d.n ∧ (pAddTo pm d.key.data.toList d.now).1 + d.n ≤ 9223372036854775807 := by unfold addOk at hok; simpa using hok
        exact h.put room _ _ ⟨hs.1, hs.2, ha.2.2.1, ha.2.2.2⟩
      · exact h
    · split
      · unfold pDel
        split
        · exact h.sub fun x hx => (mem_sDel.1 hx).1
        · exact h
      · split
        · unfold pExp
          split
          · intro x hx
            obtain ⟨y, hy, rfl⟩ := List.mem_map.1 hx
            have h1 := h y hy
            have hr := clampT_range (clampT d.now + clampT d.n)
            split
            · exact ⟨h1.1, h1.2.1, by show -1 ≤ laterT d.now d.n; unfold laterT; omega, by show laterT d.now d.n ≤ _; unfold laterT; omega⟩
            · exact h1
          · exact h
        · exact h

set_option maxHeartbeats 400000 in
theorem truth_any (b : Bool) (w : World) : Calls Try.prog 27 #[.bool b] w fun e w' => e = .returned (.int .i64 (truthI b)) ∧ w = w' := by
  cases b
  all_goals
    go_enter Try.func27, Try.ntmps27
    go_wp2
    go_ret
    exact ⟨rfl, rfl⟩

set_option maxHeartbeats 1000000 in
theorem did_any {F : Nat → Prop} {v : Nat} {room : Int} {pm : PM} (d : Dd) (hd : d.ok) (hok : okPM pm) (w : World) (h : IsVars w F v room pm) :
    Calls Try.prog 15 #[.pointer (some ⟨v, 0, none⟩), d.val] w fun e w' => e = .returned (.tuple #[.int .i64 (pDid pm room d).1.1, .int .i64 (pDid pm room d).1.2]) ∧ VarsTo w F v room (pDid pm room d).2 w' := by
  obtain ⟨kind, s, n, now⟩ := d
  obtain ⟨hs, hn0, hn1⟩ := hd
  simp only at hs hn0 hn1
  unfold Dd.val pDid
  simp only
  have hb := bl_alloc (bl_refl w) (.cells #[.int .i64 kind, .string s, .int .i64 n, .int .i64 now] 36)
  have HB := Go.Lib.hid hb
  have HI := Go.Lib.hid (h.below hb)
  have ha := hok.addTo s.data.toList now
  have HA := Go.Lib.hid (show -9223372036854775808 ≤ (pAddTo pm s.data.toList now).1 ∧ (pAddTo pm s.data.toList now).1 ≤ 9223372036854775807 from ⟨ha.1, ha.2.1⟩)
  clear hb h hok ha
  by_cases k1 : kind = 1
  · rw [if_pos k1]
    subst k1
    have hc := set_any s hs n now _ HI.out
    generalize (if pPutOk pm room s.data.toList now = true then (0 : Int) else 5) = r5 at hc ⊢
    have HC := Go.Lib.hid hc
    clear hc
    go_enter Try.func15, Try.ntmps15
    go_wp2_with fail
    refine (HC.out).mono ?_
    rintro e w' ⟨rfl, ht⟩
    have HT := Go.Lib.hid (VarsTo.later HB.out ht)
    clear ht
    go_wp2
    go_ret2
    exact ⟨rfl, HT.out⟩
  · rw [if_neg k1]
    have b1 : (kind == 1) = false := by simpa using k1
    by_cases k2 : kind = 2
    · rw [if_pos k2]
      subst k2
      have hc := add_vars s hs n now hn0 hn1 _ HI.out HA.out
      have HC := Go.Lib.hid hc
      clear hc k1
      go_enter Try.func15, Try.ntmps15
      go_wp2_with fail
      refine (HC.out).mono ?_
      rintro e w' ⟨rfl, ht⟩
      have HT := Go.Lib.hid (VarsTo.later HB.out ht)
      clear ht
      go_wp2
      go_ret2
      exact ⟨rfl, HT.out⟩
    · rw [if_neg k2]
      have b2 : (kind == 2) = false := by simpa using k2
      by_cases k3 : kind = 3
      · rw [if_pos k3]
        subst k3
        have hc := delete_any s hs now _ HI.out
        have HC := Go.Lib.hid hc
        clear hc k1 k2
        go_enter Try.func15, Try.ntmps15
        go_wp2_with fail
        refine (HC.out).mono ?_
        rintro e w' ⟨rfl, ht⟩
        have HT := Go.Lib.hid (VarsTo.later HB.out ht)
        clear ht
        go_wp2_with fail
        refine (truth_any _ _).mono ?_
        rintro e w' ⟨rfl, rfl⟩
        go_wp2
        go_ret2
        exact ⟨rfl, HT.out⟩
      · rw [if_neg k3]
        have b3 : (kind == 3) = false := by simpa using k3
        by_cases k4 : kind = 4
        · rw [if_pos k4]
          subst k4
          have hc := expire_any s hs n now _ HI.out
          have HC := Go.Lib.hid hc
          clear hc k1 k2 k3
          go_enter Try.func15, Try.ntmps15
          go_wp2_with fail
          refine (HC.out).mono ?_
          rintro e w' ⟨rfl, ht⟩
          have HT := Go.Lib.hid (VarsTo.later HB.out ht)
          clear ht
          go_wp2_with fail
          refine (truth_any _ _).mono ?_
          rintro e w' ⟨rfl, rfl⟩
          go_wp2
          go_ret2
          exact ⟨rfl, HT.out⟩
        · rw [if_neg k4]
          have b4 : (kind == 4) = false := by simpa using k4
          have hc := get_any s hs now _ HI.out
          have HC := Go.Lib.hid hc
          clear hc k1 k2 k3 k4
          go_enter Try.func15, Try.ntmps15
          go_wp2_with fail
          refine (HC.out).mono ?_
          rintro e w' ⟨rfl, ht⟩
          have HT := Go.Lib.hid (VarsTo.later HB.out (VarsTo.same HI.out ht))
          clear ht
          go_wp2_with fail
          refine (truth_any _ _).mono ?_
          rintro e w' ⟨rfl, rfl⟩
          go_wp2
          go_ret2
          exact ⟨rfl, HT.out⟩
end Go.Proofs.Ytkdhafndngcamaa
