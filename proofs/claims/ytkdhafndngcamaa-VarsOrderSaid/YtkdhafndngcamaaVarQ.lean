/-
  What (*vars.Vars).put does where the key is not there and there is room: what ended goes, the number stands.
-/
import Derived.Test.YtkdhafndngcamaaVarP
namespace Go.Proofs.Ytkdhafndngcamaa
open Go.RowKit Go.Maps

theorem vFind_none_sweep {m : List (Key × VC)} (hn : (m.map (·.1)).Nodup) {k : Key} {now : Int} (h : vFind m k now = none) : sGet k (sweepL m now) = none := by
  rw [sGet_none]
  intro x hx e
  obtain ⟨h1, h2⟩ := List.mem_filter.1 hx
  have := sGet_of_mem hn (k := x.1) (v := x.2) h1
  unfold vFind at h
  rw [← e, this] at h
  simp [Option.filter, h2] at h
theorem sweep_len (m : List (Key × VC)) (now : Int) : (sweepL m now).length = (liveK m now).length := by simp [sweepL, liveK]

theorem grown_of {w w1 : World} (h : Below w.heap.size w w1) {row : Option Nat} : w.grownBy w1 row := ⟨h.os, h.tape, h.output, h.size, fun i hi _ => h.block i hi⟩

set_option maxHeartbeats 1000000 in
theorem put_new {v mb : Nat} {room : Int} {m : List (Key × VC)} (s : ByteArray) (hs : s.size ≤ maxLen) (n e now : Int) (w : World) (h : VarsAt w v mb room m) (hf : vFind m s.data.toList now = none) (hr : ((liveK m now).length : Int) < room) :
    Calls Try.prog 19 #[.pointer (some ⟨v, 0, none⟩), .string s, .agg #[.int .i64 n, .int .i64 e], .int .i64 now] w fun r w' => r = .returned (.bool true) ∧ VarsAt w' v mb room (sPut s.data.toList ⟨w.heap.size, n, e⟩ (sweepL m now)) ∧ w.grownBy w' (some mb) := by
  have c0 : w.cell? ⟨v, 0, none⟩ = some (.int .i64 room) := by simp [World.cell?, h.head]
  have cell1 : w.cell? ⟨v, 1, none⟩ = some (.map (some mb)) := by simp [World.cell?, h.head]
  have hlt := h.lt (b := v) (.inl rfl)
  have hmbl := h.lt (b := mb) (.inr (.inl rfl))
  have hvm : v ≠ mb := fun e => by
    obtain ⟨es, clock, hb, _⟩ := h.own
    rw [← e, h.head] at hb
    cases hb
  have hfi := fun W (hW : VarsAt W v mb room m) => find_any s hs now W hW
  rw [hf] at hfi
  have law : Keyed Try.prog 9 := string_keyed Try.underlying9
  have hkey := WideMaps.keyOf_string_mk Try.underlying9 hs
  have hnd := (own_rise h.own Try.underlying9).nodup
  have hnd2 : ((sweepL m now).map (·.1)).Nodup := hnd.sublist ((List.filter_sublist).map _)
  have hpl := sPut_length s.data.toList (⟨w.heap.size, n, e⟩ : VC) hnd2
  rw [vFind_none_sweep hnd hf, sweep_len] at hpl
  have hlen := h.len
  have hmost := h.most
  have HF := Go.Lib.hid hfi
  have HV := Go.Lib.hid h
  have HP := Go.Lib.hid hpl
  clear hfi h hf hs hpl hnd hnd2
  go_enter Try.func19, Try.ntmps19
  go_wp2_with fail
  refine (HF.out _ (HV.out.alloc _)).mono ?_
  rintro r w' ⟨rfl, q, rfl⟩
  unfold ptrOr
  go_wp2_with fail
  go_region_with (go_at_call 14; refine (len_any now _ ((HV.out.alloc _).drewN (q + 1))).mono ?_; rintro r w1 ⟨rfl, hb⟩; have c0' := (hb.cell (p := ⟨v, 0, none⟩) (by show v < _; simp; omega)).trans (show _ = _ from (World.cell?_alloc_lt w _ ⟨v, 0, none⟩ hlt).trans c0))
  all_goals
    have hbb := bl_then (bl_drewN (bl_alloc (bl_refl w) _) _) hb
    have hbox : w1.heap[w.heap.size]? = some (.cells #[.int .i64 n, .int .i64 e] 53 (0, 0)) := (hb.block w.heap.size (by simp)).trans (heap_alloc_new w _)
    have hsz1 : w.heap.size < w1.heap.size := by have := hb.size; simp at this; omega
    have HB := Go.Lib.hid hbb
    have HX := Go.Lib.hid hbox
    clear hbb hb hbox
    go_wp2_with fail
    refine (sweep_any now _ (HV.out.below HB.out)).mono ?_
    rintro r w2 ⟨rfl, hown2, hg2⟩
    have cell2 : w2.cell? ⟨v, 1, none⟩ = some (.map (some mb)) := (World.cell?_of_block (hg2.block v (by omega) (by simpa using hvm))).trans ((HB.out.cell (p := ⟨v, 1, none⟩) hlt).trans cell1)
    have HG := Go.Lib.hid hg2
    clear hg2
    go_wp2_with (at_mapUpdate; refine wpList_mapUpdate_own _ rfl _ _ _ 48 rfl 9 54 law Try.underlying48 _ mb m.length _ rfl hown2 (by unfold maxLen; omega) _ _ _ rfl rfl hkey (.held (vPtr ⟨w.heap.size, n, e⟩)) [] rfl ?_; intro w3 hown3 hgrow3)
    go_ret
    rw [sD_put] at hown3
    have ht := own_tight hown3
    have hg : w.grownBy w3 (some mb) := ((grown_of HB.out).andThen HG.out (fun j hj => by cases hj; exact Or.inr rfl)).andThen hgrow3 (fun j hj => by cases hj; exact Or.inr rfl)
    refine ⟨rfl, HV.out.put (fun x hx => (List.mem_filter.1 hx).1) (HV.out.apart.sublist ((List.filter_sublist).map _)) ht (fun b hb hne => hg.block b hb (by simpa using hne)) ?_ (Nat.le_refl _) ?_, hg⟩
    · have h2 := HG.out.block w.heap.size hsz1 (by simp; omega)
      have h3 := hgrow3.block w.heap.size (Nat.lt_of_lt_of_le hsz1 HG.out.size) (by simp; omega)
      exact h3.trans (h2.trans HX.out)
    · have := HP.out
      simp only [Option.isSome_none, Bool.false_eq_true, if_false] at this
      rw [this]
      omega
end Go.Proofs.Ytkdhafndngcamaa
