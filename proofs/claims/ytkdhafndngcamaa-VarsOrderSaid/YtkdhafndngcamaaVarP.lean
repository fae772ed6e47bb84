/-
  What (*vars.Vars).put does: a number stands at its key, if there is room; what ended is gone then.
-/
import Derived.Test.YtkdhafndngcamaaVarS
import Derived.Deep.RegionWith
import Derived.Deep.RegionHeld3
namespace Go.Proofs.Ytkdhafndngcamaa
open Go.RowKit Go.Maps

def putOk (m : List (Key × VC)) (room : Int) (k : Key) (now : Int) : Bool := (vFind m k now).isSome || decide (((liveK m now).length : Int) < room)
def putM (m : List (Key × VC)) (k : Key) (now : Int) (c : VC) : List (Key × VC) := if (vFind m k now).isSome then sPut k c m else sPut k c (sweepL m now)

set_option maxHeartbeats 1000000 in
theorem put_full {v mb : Nat} {room : Int} {m : List (Key × VC)} (s : ByteArray) (hs : s.size ≤ maxLen) (n e now : Int) (w : World) (h : VarsAt w v mb room m) (hf : vFind m s.data.toList now = none) (hr : room ≤ ((liveK m now).length : Int)) :
    Calls Try.prog 19 #[.pointer (some ⟨v, 0, none⟩), .string s, .agg #[.int .i64 n, .int .i64 e], .int .i64 now] w fun r w' => r = .returned (.bool false) ∧ Below w.heap.size w w' := by
  have c0 : w.cell? ⟨v, 0, none⟩ = some (.int .i64 room) := by simp [World.cell?, h.head]
  have hlt := h.lt (b := v) (.inl rfl)
  have hfi := fun W (hW : VarsAt W v mb room m) => find_any s hs now W hW
  rw [hf] at hfi
  have HF := Go.Lib.hid hfi
  have HV := Go.Lib.hid h
  clear hfi h hf hs
  go_enter Try.func19, Try.ntmps19
  go_wp2_with fail
  refine (HF.out _ (HV.out.alloc _)).mono ?_
  rintro r w' ⟨rfl, q, rfl⟩
  unfold ptrOr
  go_wp2_with fail
  go_region_with (go_at_call 14; refine (len_any now _ ((HV.out.alloc _).drewN (q + 1))).mono ?_; rintro r w1 ⟨rfl, hb⟩; have c0' := (hb.cell (p := ⟨v, 0, none⟩) (by show v < _; simp; omega)).trans (show _ = _ from (World.cell?_alloc_lt w _ ⟨v, 0, none⟩ hlt).trans c0))
  all_goals
    go_wp2
    go_ret
    exact ⟨rfl, bl_then (bl_drewN (bl_alloc (bl_refl w) _) _) hb⟩

/-- A Vars whose map was written. -/
theorem VarsAt.put {w w' : World} {v mb : Nat} {room : Int} {m m0 : List (Key × VC)} {k : Key} {c : VC} (h : VarsAt w v mb room m) (hs : ∀ x ∈ m0, x ∈ m) (hd : (m0.map (·.2.p)).Nodup)
    (ho : w'.ownsMap Try.prog 9 heldRd mb (sPut k c m0).length (sD vPtr (sPut k c m0))) (hg : ∀ b, b < w.heap.size → b ≠ mb → w'.heap[b]? = w.heap[b]?)
    (hc : w'.heap[c.p]? = some (.cells #[.int .i64 c.n, .int .i64 c.e] 53 (0, 0))) (hn : w.heap.size ≤ c.p) (hl : ((sPut k c m0).length : Int) ≤ room) : VarsAt w' v mb room (sPut k c m0) := by
  have hmb : ∀ b, b < w.heap.size → (∃ cs t, w.heap[b]? = some (.cells cs t (0, 0))) → w'.heap[b]? = w.heap[b]? := fun b hb ⟨cs, t, hh⟩ => hg b hb (fun e => by
    obtain ⟨es, clock, hbb, _⟩ := h.own
    rw [← e, hh] at hbb
    cases hbb)
  refine ⟨(hmb v (h.lt (.inl rfl)) ⟨_, _, h.head⟩).trans h.head, ho, fun x hx => ?_, ?_, hl, h.most⟩
  · rcases mem_sPut.1 hx with rfl | ⟨hx, _⟩
    · exact hc
    · have h1 := h.one x (hs x hx)
      exact (hmb _ (Array.getElem?_eq_some_iff.1 h1).1 ⟨_, _, h1⟩).trans h1
  · have key : ∀ l : List (Key × VC), (∀ x ∈ l, x ∈ m) → (l.map (·.2.p)).Nodup → ((sIns (k, c) l).map (·.2.p)).Nodup := by
      intro l hl hd
      induction l with
      | nil => simp [sIns]
      | cons y r ih =>
        have hnot : c.p ∉ (y :: r).map (·.2.p) := fun hc' => by
          obtain ⟨x, hx, e⟩ := List.mem_map.1 hc'
          have h1 := (Array.getElem?_eq_some_iff.1 (h.one x (hl x hx))).1
          omega
        unfold sIns
        split
        · rw [List.map_cons, List.nodup_cons]
          exact ⟨hnot, hd⟩
        · rw [List.map_cons, List.nodup_cons] at hd ⊢
          refine ⟨fun hc' => ?_, ih (fun x hx => hl x (by simp [hx])) hd.2⟩
          obtain ⟨x, hx, e⟩ := List.mem_map.1 hc'
          rcases mem_sIns.1 hx with rfl | hx
          · exact hnot (by rw [List.map_cons]; exact List.mem_cons.2 (.inl e))
          · exact hd.1 (List.mem_map.2 ⟨x, hx, e⟩)
    exact key _ (fun x hx => hs x (mem_sDel.1 hx).1) (hd.sublist ((List.filter_sublist).map _))

theorem vFind_get {m : List (Key × VC)} {k : Key} {now : Int} {c : VC} (h : vFind m k now = some c) : sGet k m = some c := by
  unfold vFind at h
  cases hg : sGet k m with
  | none => rw [hg] at h; cases h
  | some x =>
    rw [hg] at h
    have := Option.filter_eq_some_iff.1 h
    exact this.1

set_option maxHeartbeats 1000000 in
theorem put_old {v mb : Nat} {room : Int} {m : List (Key × VC)} (s : ByteArray) (hs : s.size ≤ maxLen) (n e now : Int) (w : World) (h : VarsAt w v mb room m) (c0 : VC) (hf : vFind m s.data.toList now = some c0) :
    Calls Try.prog 19 #[.pointer (some ⟨v, 0, none⟩), .string s, .agg #[.int .i64 n, .int .i64 e], .int .i64 now] w fun r w' => r = .returned (.bool true) ∧ VarsAt w' v mb room (sPut s.data.toList ⟨w.heap.size, n, e⟩ m) ∧ w.grownBy w' (some mb) := by
  have cell1 : w.cell? ⟨v, 1, none⟩ = some (.map (some mb)) := by simp [World.cell?, h.head]
  have hlt := h.lt (b := v) (.inl rfl)
  have hfi := fun W (hW : VarsAt W v mb room m) => find_any s hs now W hW
  rw [hf] at hfi
  have law : Keyed Try.prog 9 := string_keyed Try.underlying9
  have hkey := WideMaps.keyOf_string_mk Try.underlying9 hs
  have hnd := (own_rise h.own Try.underlying9).nodup
  have hpl := sPut_length s.data.toList (⟨w.heap.size, n, e⟩ : VC) hnd
  rw [vFind_get hf] at hpl
  have hlen := h.len
  have hmost := h.most
  have HF := Go.Lib.hid hfi
  have HV := Go.Lib.hid h
  have HP := Go.Lib.hid hpl
  clear hfi h hf hs hpl hnd
  go_enter Try.func19, Try.ntmps19
  go_wp2_with fail
  refine (HF.out _ (HV.out.alloc _)).mono ?_
  rintro r w' ⟨rfl, q, rfl⟩
  unfold ptrOr vPtr
  have hown := ((HV.out.alloc (.cells #[.int .i64 n, .int .i64 e] 53)).drewN q).own
  go_wp2_with (at_mapUpdate; refine wpList_mapUpdate_own _ rfl _ _ _ 48 rfl 9 54 law Try.underlying48 _ mb m.length _ rfl hown (by unfold maxLen; omega) _ _ _ rfl rfl hkey (.held (vPtr ⟨w.heap.size, n, e⟩)) [] rfl ?_; intro w1 hown1 hgrow1)
  go_ret
  rw [sD_put] at hown1
  have ht := own_tight hown1
  have hg : w.grownBy w1 (some mb) := ((grownBy_drewN (World.grownBy_alloc w _ _) q).andThen hgrow1 (fun j hj => by cases hj; exact Or.inr rfl))
  refine ⟨rfl, HV.out.put (fun _ hx => hx) HV.out.apart ht (fun b hb hne => hg.block b hb (by simpa using hne)) ?_ (Nat.le_refl _) ?_, hg⟩
  · have hmb := HV.out.lt (b := mb) (.inr (.inl rfl))
    refine (hgrow1.block w.heap.size (by simp) (by simp; omega)).trans ?_
    show ((w.alloc _).drewN q).heap[w.heap.size]? = _
    exact heap_alloc_new w _
  · have := HP.out
    simp only [Option.isSome_some, if_true] at this
    rw [this]
    exact HV.out.len
end Go.Proofs.Ytkdhafndngcamaa
