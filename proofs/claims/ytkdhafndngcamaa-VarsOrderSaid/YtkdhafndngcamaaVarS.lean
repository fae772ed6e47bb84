/-
  What (*vars.Vars).sweep does: what ended is gone.
-/
import Derived.Test.YtkdhafndngcamaaVarL
namespace Go.Proofs.Ytkdhafndngcamaa
open Go.RowKit Go.Maps

/-- What is there, or is still to come. -/
def keepL (m : List (Key × VC)) (now : Int) (left : Lit → Bool) : List (Key × VC) := m.filter fun x => thereB now x.2.e || left (.string x.1)
def sweepL (m : List (Key × VC)) (now : Int) : List (Key × VC) := m.filter fun x => thereB now x.2.e

theorem keep_start (m : List (Key × VC)) (now : Int) : keepL m now (Maps.has (sD vPtr m)) = m := by
  unfold keepL
  rw [List.filter_eq_self]
  intro x hx
  rw [sD_has]
  have : (sGet x.1 m).isSome = true := by
    cases h : sGet x.1 m with
    | none => exact absurd rfl ((sGet_none.1 h) x hx)
    | some _ => rfl
  simp [this]
theorem keep_end {m : List (Key × VC)} {now : Int} {left : Lit → Bool} (h : ∀ kl, left kl = false) : keepL m now left = sweepL m now := by
  unfold keepL sweepL
  apply List.filter_congr
  intro x _
  simp [h]
theorem mem_keep {m : List (Key × VC)} {now : Int} {left : Lit → Bool} {x : Key × VC} (h : x ∈ keepL m now left) : x ∈ m := (List.mem_filter.1 h).1
theorem same_of_key {m : List (Key × VC)} (hn : (m.map (·.1)).Nodup) {k : Key} {c : VC} (h : (k, c) ∈ m) {x : Key × VC} (hx : x ∈ m) (e : x.1 = k) : x.2 = c := by
  have h1 := sGet_of_mem hn h
  have h2 := sGet_of_mem hn (k := x.1) (v := x.2) hx
  rw [e, h1] at h2
  injection h2 with h2
  exact h2.symm
theorem keep_stays {m : List (Key × VC)} (hn : (m.map (·.1)).Nodup) {now : Int} {left : Lit → Bool} {k : Key} {c : VC} (h : (k, c) ∈ m) (ht : thereB now c.e = true) :
    keepL m now (fun z => left z && !z.sameKey (.string k)) = keepL m now left := by
  unfold keepL
  apply List.filter_congr
  intro x hx
  by_cases e : x.1 = k
  · rw [same_of_key hn h hx e, ht]
    simp
  · have : Lit.sameKey (.string x.1) (.string k) = false := by simpa [Lit.sameKey] using e
    simp [this]
theorem keep_struck {m : List (Key × VC)} (hn : (m.map (·.1)).Nodup) {now : Int} {left : Lit → Bool} {k : Key} {c : VC} (h : (k, c) ∈ m) (ht : thereB now c.e = false) :
    sDel k (keepL m now left) = keepL m now (fun z => left z && !z.sameKey (.string k)) := by
  unfold keepL sDel
  rw [List.filter_filter]
  apply List.filter_congr
  intro x hx
  by_cases e : x.1 = k
  · have : Lit.sameKey (.string x.1) (.string k) = true := by simpa [Lit.sameKey] using e
    rw [same_of_key hn h hx e, ht]
    simp [e, Lit.sameKey]
  · have : Lit.sameKey (.string x.1) (.string k) = false := by simpa [Lit.sameKey] using e
    simp [this, e]

theorem grownBy_drewN {a w : World} {row : Option Nat} (h : a.grownBy w row) (n : Nat) : a.grownBy (w.drewN n) row := ⟨h.os, h.tape, h.output, h.size, h.block⟩

set_option maxHeartbeats 1000000 in
theorem sweep_any {v mb : Nat} {room : Int} {m : List (Key × VC)} (now : Int) (w : World) (h : VarsAt w v mb room m) :
    Calls Try.prog 30 #[.pointer (some ⟨v, 0, none⟩), .int .i64 now] w fun e w' => e = .returned (.tuple #[]) ∧ w'.ownsMap Try.prog 9 heldRd mb m.length (sD vPtr (sweepL m now)) ∧ w.grownBy w' (some mb) := by
  have c1 : w.cell? ⟨v, 1, none⟩ = some (.map (some mb)) := by simp [World.cell?, h.head]
  have hlt := h.lt (b := v) (.inl rfl)
  have hvm : v ≠ mb := fun e => by
    obtain ⟨es, clock, hb, _⟩ := h.own
    rw [← e, h.head] at hb
    cases hb
  have hn := (own_rise h.own Try.underlying9).nodup
  have hown := h.own
  have law : Keyed Try.prog 9 := string_keyed Try.underlying9
  have HV := Go.Lib.hid h
  have HN := Go.Lib.hid hn
  clear h hn
  go_enter Try.func30, Try.ntmps30
  go_wp2_with (at_range; refine wpList_range_own _ rfl _ 48 rfl 9 54 law Try.underlying48 _ mb m.length _ rfl hown ?_; intro w0 hrg0 hg0 hs0)
  go_frame
  go_loopw [4, 5] (fun _ _ wr => ∃ (left : Lit → Bool) (cnt : Nat), wr.ranges Try.prog 9 heldRd mb w.heap.size m.length (sD vPtr (keepL m now left)) left cnt ∧ w.grownBy wr (some mb))
    (fun _ _ wr => wr.rangeLeft mb w.heap.size)
  case atStart => exact ⟨_, _, by rw [keep_start]; exact hrg0, hg0.but _⟩
  case round =>
    obtain ⟨left, cnt, hrg, hgw⟩ := hrel
    go_wp2_with (at_next; refine wpList_next_sD _ rfl _ rfl 9 Try.underlying9 (fun c : VC => Value.pointer (some ⟨c.p, 0, none⟩)) mb w.heap.size m.length _ _ _ rfl hrg ?_ ?_)
    · intro hl0
      go_wp2
      go_end0
      exact ⟨rfl, by rw [← keep_end hl0]; exact hrg.owns, hgw⟩
    · intro s c w1 cnt1 hsz hmem hlx hrg1 hlt1 hg1 hs1 hen
      have hgw1 := hgw.andThen hg1 (fun j hj => by cases hj; exact Or.inl (Nat.le_refl _))
      have hm0 := mem_keep hmem
      have hone := HV.out.one _ hm0
      have hp1 : c.p < w.heap.size := (Array.getElem?_eq_some_iff.1 hone).1
      have hp2 : c.p ≠ mb := fun e => by
        obtain ⟨es, clock, hb, _⟩ := HV.out.own
        rw [← e, hone] at hb
        cases hb
      have hone1 : w1.heap[c.p]? = some (.cells #[.int .i64 c.n, .int .i64 c.e] 53 (0, 0)) := (hgw1.block _ hp1 (by simpa using hp2)).trans hone
      have c2 : w1.cell? ⟨v, 1, none⟩ = some (.map (some mb)) := (World.cell?_of_block (hgw1.block v hlt (by simpa using hvm))).trans c1
      cases ht : thereB now c.e
      · have hst := keep_struck HN.out hm0 ht (left := left)
        have HT := Go.Lib.hid ht
        have H1 := Go.Lib.hid hone1
        have H2 := Go.Lib.hid hst
        have H3 := Go.Lib.hid hgw1
        have H4 := Go.Lib.hid hlt1
        clear ht hone1 hone hst hm0 hmem hgw1 hgw hg1 hs1 hp2 hlt1
        go_wp2_with fail
        refine (there_at c now _ w1 H1.out HT.out 0).mono ?_
        rintro e w' ⟨rfl, q, rfl⟩
        have hrg2 := drew_ranges hrg1 q
        go_wp2_with (at_delete; refine wpList_delete_ranges _ rfl _ _ 48 9 rfl 54 law Try.underlying48 _ mb w.heap.size m.length _ _ _ rfl hrg2 _ _ rfl (WideMaps.keyOf_string_mk Try.underlying9 hsz) ?_; intro w2 cnt2 hrg3 hle hturn; go_frame)
        rw [strike_twice, sD_del, H2.out] at hrg3
        go_roundw
        case rel => exact ⟨_, cnt2, hrg3, (grownBy_drewN (grownBy_drewN H3.out 0) q).andThen hturn.grown (fun j hj => by cases hj; exact Or.inr rfl)⟩
        case measure => rw [hrg3.left_eq, hrg.left_eq]; have := H4.out; omega
      · have hst := keep_stays HN.out hm0 ht (left := left)
        have HT := Go.Lib.hid ht
        have H1 := Go.Lib.hid hone1
        have H2 := Go.Lib.hid hst
        have H3 := Go.Lib.hid hgw1
        have H4 := Go.Lib.hid hlt1
        clear ht hone1 hone hst hm0 hmem hgw1 hgw hg1 hs1 hp2 hlt1
        go_wp2_with fail
        refine (there_at c now _ w1 H1.out HT.out 0).mono ?_
        rintro e w' ⟨rfl, q, rfl⟩
        have hrg2 := drew_ranges hrg1 q
        rw [← H2.out] at hrg2
        go_wp2
        go_roundw
        case rel => exact ⟨_, cnt1, hrg2, grownBy_drewN (grownBy_drewN H3.out 0) q⟩
        case measure => rw [hrg2.left_eq, hrg.left_eq]; have := H4.out; omega
end Go.Proofs.Ytkdhafndngcamaa
