/-
  What Delete and Expire of package vars do, over a Vars as a plain list.
-/
import Derived.Test.YtkdhafndngcamaaVarV
namespace Go.Proofs.Ytkdhafndngcamaa
open Go.RowKit Go.Maps

def pDel (pm : PM) (k : Key) (now : Int) : PM := if (pFind pm k now).isSome then sDel k pm else pm
/-- A key's end, set. -/
def pEnd (pm : PM) (k : Key) (e : Int) : PM := pm.map fun x => if x.1 == k then (x.1, (x.2.1, e)) else x
def pExp (pm : PM) (k : Key) (last now : Int) : PM := if (pFind pm k now).isSome then pEnd pm k (laterT now last) else pm

theorem foot_del {v mb : Nat} {m : List (Key × VC)} {k : Key} {b : Nat} (h : VFoot v mb (sDel k m) b) : VFoot v mb m b := by
  rcases h with h | h | ⟨x, hx, h⟩
  · exact .inl h
  · exact .inr (.inl h)
  · exact .inr (.inr ⟨x, (mem_sDel.1 hx).1, h⟩)

theorem VarsAt.del {w w' : World} {v mb : Nat} {room : Int} {m : List (Key × VC)} {k : Key} (h : VarsAt w v mb room m) (ho : w'.ownsMap Try.prog 9 heldRd mb m.length (sD vPtr (sDel k m)))
    (hg : ∀ b, b < w.heap.size → b ≠ mb → w'.heap[b]? = w.heap[b]?) : VarsAt w' v mb room (sDel k m) := by
  have hmb : ∀ b, b < w.heap.size → (∃ cs t, w.heap[b]? = some (.cells cs t (0, 0))) → w'.heap[b]? = w.heap[b]? := fun b hb ⟨cs, t, hh⟩ => hg b hb (fun e => by
    obtain ⟨es, clock, hbb, _⟩ := h.own
    rw [← e, hh] at hbb
    cases hbb)
  refine ⟨(hmb v (h.lt (.inl rfl)) ⟨_, _, h.head⟩).trans h.head, own_tight ho, fun x hx => ?_, h.apart.sublist ((List.filter_sublist).map _), ?_, h.most⟩
  · have h1 := h.one x (mem_sDel.1 hx).1
    exact (hmb _ (Array.getElem?_eq_some_iff.1 h1).1 ⟨_, _, h1⟩).trans h1
  · have := h.len
    have h2 : (sDel k m).length ≤ m.length := List.length_filter_le _ _
    omega

set_option maxHeartbeats 400000 in
theorem delete_any {F : Nat → Prop} {v : Nat} {room : Int} {pm : PM} (s : ByteArray) (hs : s.size ≤ maxLen) (now : Int) (w : World) (h : IsVars w F v room pm) :
    Calls Try.prog 18 #[.pointer (some ⟨v, 0, none⟩), .string s, .int .i64 now] w fun e w' => e = .returned (.bool (pFind pm s.data.toList now).isSome) ∧ VarsTo w F v room (pDel pm s.data.toList now) w' := by
  have hI := Go.Lib.hid h
  obtain ⟨mb, m, hv, rfl, hF⟩ := h
  have hfi := find_any s hs now w hv
  unfold pDel
  rw [pFind_er]
  cases hf : vFind m s.data.toList now with
  | none =>
    rw [hf] at hfi
    have HF := Go.Lib.hid hfi
    clear hfi hf hs hv hF
    go_enter Try.func18, Try.ntmps18
    go_wp2_with fail
    refine (HF.out).mono ?_
    rintro e w' ⟨rfl, q, rfl⟩
    unfold ptrOr
    go_wp2
    go_ret
    exact ⟨rfl, VarsTo.same hI.out (bl_drewN (bl_refl w) q)⟩
  | some c =>
    rw [hf] at hfi
    have cell1 : w.cell? ⟨v, 1, none⟩ = some (.map (some mb)) := by simp [World.cell?, hv.head]
    have law : Keyed Try.prog 9 := string_keyed Try.underlying9
    have hkey := WideMaps.keyOf_string_mk Try.underlying9 hs
    have HF := Go.Lib.hid hfi
    have HV := Go.Lib.hid hv
    have HFF := Go.Lib.hid hF
    clear hfi hf hs hv hF
    go_enter Try.func18, Try.ntmps18
    go_wp2_with fail
    refine (HF.out).mono ?_
    rintro e w' ⟨rfl, q, rfl⟩
    unfold ptrOr vPtr
    have hown := (HV.out.drewN q).own
    go_wp2_with (at_delete; refine wpList_delete_own _ rfl _ _ 48 9 rfl 54 law Try.underlying48 _ mb m.length _ rfl hown _ _ rfl hkey ?_; intro w1 hown1 hturn1)
    go_ret
    rw [sD_del] at hown1
    have hg := hturn1.grown
    have hd := HV.out.del hown1 (fun b hb hne => hg.block b hb (by simpa using hne))
    refine ⟨rfl, F, ⟨mb, _, hd, by simp [er_del], fun b hb => HFF.out b (foot_del hb)⟩, fun _ hf => .inl hf, ?_⟩
    exact (Only.of_below (bl_drewN (bl_refl w) q)).trans (Only.of_grown hg (HFF.out mb (.inr (.inl rfl)))) (fun _ _ h => h)

/-- The same, over the places. -/
def endC (m : List (Key × VC)) (k : Key) (e : Int) : List (Key × VC) := m.map fun x => if x.1 == k then (x.1, { x.2 with e := e }) else x
theorem er_end (m : List (Key × VC)) (k : Key) (e : Int) : er (endC m k e) = pEnd (er m) k e := by
  unfold er endC pEnd mapV
  rw [List.map_map, List.map_map]
  apply List.map_congr_left
  intro x _
  simp only [Function.comp_apply]
  cases x.1 == k <;> rfl
theorem endC_ptr (m : List (Key × VC)) (k : Key) (e : Int) : sD vPtr (endC m k e) = sD vPtr m := by
  unfold sD endC
  rw [List.map_map]
  congr 1
  apply List.map_congr_left
  intro x _
  simp only [Function.comp_apply]
  cases x.1 == k <;> rfl
theorem endC_p (m : List (Key × VC)) (k : Key) (e : Int) : (endC m k e).map (·.2.p) = m.map (·.2.p) := by
  unfold endC
  rw [List.map_map]
  apply List.map_congr_left
  intro x _
  simp only [Function.comp_apply]
  cases x.1 == k <;> rfl
theorem endC_len (m : List (Key × VC)) (k : Key) (e : Int) : (endC m k e).length = m.length := by simp [endC]

theorem VarsAt.ends {w w' : World} {v mb : Nat} {room : Int} {m : List (Key × VC)} {k : Key} {c : VC} (h : VarsAt w v mb room m) (hc : (k, c) ∈ m) (e : Int)
    (hg : ∀ b, b < w.heap.size → b ≠ c.p → w'.heap[b]? = w.heap[b]?) (hb : w'.heap[c.p]? = some (.cells #[.int .i64 c.n, .int .i64 e] 53 (0, 0))) : VarsAt w' v mb room (endC m k e) := by
  have ho := h.one _ hc
  have hvp : v ≠ c.p := fun e => by
    have := h.head
    rw [e, ho] at this
    cases this
  have hmp : mb ≠ c.p := fun e => by
    obtain ⟨es, clock, hbb, _⟩ := h.own
    rw [e, ho] at hbb
    cases hbb
  have hn := (own_rise h.own Try.underlying9).nodup
  refine ⟨(hg v (h.lt (.inl rfl)) hvp).trans h.head, ?_, fun x hx => ?_, by rw [endC_p]; exact h.apart, by rw [endC_len]; exact h.len, h.most⟩
  · rw [endC_ptr, endC_len]
    exact own_frame h.own (hg mb (h.lt (.inr (.inl rfl))) hmp)
  · obtain ⟨y, hy, rfl⟩ := List.mem_map.1 hx
    cases hk : y.1 == k
    · have hk' : y.1 ≠ k := by simpa using hk
      have h1 := h.one y hy
      have hne : y.2.p ≠ c.p := fun e => by
        have h2 := h.apart
        have h3 : y = (k, c) := by
          have hp := List.pairwise_map.1 h2
          refine Classical.byContradiction fun hyc => ?_
          rcases List.mem_iff_getElem.1 hy with ⟨i, hi, rfl⟩
          rcases List.mem_iff_getElem.1 hc with ⟨j, hj, hj2⟩
          have hij : i ≠ j := fun e => hyc (by rw [← hj2]; subst e; rfl)
          have hpp := List.pairwise_iff_getElem.1 hp
          rcases Nat.lt_or_gt_of_ne hij with hlt | hlt
          · exact hpp i j hi hj hlt (by rw [hj2]; exact e)
          · exact hpp j i hj hi hlt (by rw [hj2]; exact e.symm)
        exact hk' (by rw [h3])
      simp only [Bool.false_eq_true, if_false]
      exact (hg _ (Array.getElem?_eq_some_iff.1 h1).1 hne).trans h1
    · have hk' : y.1 = k := by simpa using hk
      have hyc : y.2 = c := same_of_key hn hc hy hk'
      simp only [if_true, hyc]
      exact hb
theorem foot_end {v mb : Nat} {m : List (Key × VC)} {k : Key} {e : Int} {b : Nat} (h : VFoot v mb (endC m k e) b) : VFoot v mb m b := by
  rcases h with h | h | ⟨x, hx, h⟩
  · exact .inl h
  · exact .inr (.inl h)
  · obtain ⟨y, hy, rfl⟩ := List.mem_map.1 hx
    refine .inr (.inr ⟨y, hy, ?_⟩)
    rw [h]
    cases y.1 == k <;> rfl

set_option maxHeartbeats 400000 in
theorem expire_any {F : Nat → Prop} {v : Nat} {room : Int} {pm : PM} (s : ByteArray) (hs : s.size ≤ maxLen) (last now : Int) (w : World) (h : IsVars w F v room pm) :
    Calls Try.prog 16 #[.pointer (some ⟨v, 0, none⟩), .string s, .int .i64 last, .int .i64 now] w fun e w' => e = .returned (.bool (pFind pm s.data.toList now).isSome) ∧ VarsTo w F v room (pExp pm s.data.toList last now) w' := by
  have hI := Go.Lib.hid h
  obtain ⟨mb, m, hv, rfl, hF⟩ := h
  have hfi := find_any s hs now w hv
  unfold pExp
  rw [pFind_er]
  cases hf : vFind m s.data.toList now with
  | none =>
    rw [hf] at hfi
    have HF := Go.Lib.hid hfi
    clear hfi hf hs hv hF
    go_enter Try.func16, Try.ntmps16
    go_wp2_with fail
    refine (HF.out).mono ?_
    rintro e w' ⟨rfl, q, rfl⟩
    unfold ptrOr
    go_wp2
    go_ret
    exact ⟨rfl, VarsTo.same hI.out (bl_drewN (bl_refl w) q)⟩
  | some c =>
    rw [hf] at hfi
    have hmem := sGet_mem (vFind_get hf)
    have ho := hv.one _ hmem
    have hlc := (Array.getElem?_eq_some_iff.1 ho).1
    have c1 : w.cell? ⟨c.p, 1, none⟩ = some (.int .i64 c.e) := by simp [World.cell?, ho]
    have f1 : w.frozen? ⟨c.p, 1, none⟩ = false := by simp [World.frozen?, ho]
    have HF := Go.Lib.hid hfi
    have HV := Go.Lib.hid hv
    have HFF := Go.Lib.hid hF
    have HM := Go.Lib.hid hmem
    have HO := Go.Lib.hid ho
    clear hfi hf hs hv hF hmem ho
    go_enter Try.func16, Try.ntmps16
    go_wp2_with fail
    refine (HF.out).mono ?_
    rintro e w' ⟨rfl, q, rfl⟩
    unfold ptrOr vPtr
    go_wp2_with fail
    refine (later_any _ _ _).mono ?_
    rintro e w' ⟨rfl, rfl⟩
    go_wp2
    go_ret
    have hg : ∀ b, b < w.heap.size → b ≠ c.p → ((w.drewN q).setCell ⟨c.p, 1, none⟩ (.int .i64 (laterT now last))).heap[b]? = w.heap[b]? := fun b _ hne => Below.heap_setCell (w.drewN q) ⟨c.p, 1, none⟩ _ b hne
    have hb : ((w.drewN q).setCell ⟨c.p, 1, none⟩ (.int .i64 (laterT now last))).heap[c.p]? = some (.cells #[.int .i64 c.n, .int .i64 (laterT now last)] 53 (0, 0)) := by
      have h0 := HO.out
      simp [World.setCell, Array.getElem?_modify]
      exact ⟨_, h0, by simp⟩
    refine ⟨rfl, F, ⟨mb, _, HV.out.ends HM.out (laterT now last) hg hb, by simp [er_end], fun b hb => HFF.out b (foot_end hb)⟩, fun _ hf => .inl hf, ⟨rfl, rfl, rfl, by simp [World.setCell], fun b hb hnf => hg b hb (fun e => hnf (HFF.out b (.inr (.inr ⟨_, HM.out, e⟩))))⟩⟩
end Go.Proofs.Ytkdhafndngcamaa
