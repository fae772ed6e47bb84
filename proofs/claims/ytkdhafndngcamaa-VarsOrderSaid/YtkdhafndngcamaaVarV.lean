/-
  What Add, Delete, Expire of package vars do, over a Vars as a plain list.
-/
import Derived.Test.YtkdhafndngcamaaVarU
namespace Go.Proofs.Ytkdhafndngcamaa
open Go.RowKit Go.Maps

/-- What Add tells: the number, the error's number; and what is there then. -/
def pAddTo (pm : PM) (k : Key) (now : Int) : Int × Int := (pFind pm k now).getD (0, -1)
def pAddE (pm : PM) (room : Int) (k : Key) (n now : Int) : Int := if addOk (pAddTo pm k now).1 n then (if pPutOk pm room k now then 0 else 5) else 6
def pAddN (pm : PM) (room : Int) (k : Key) (n now : Int) : Int := if pAddE pm room k n now = 0 then (pAddTo pm k now).1 + n else 0
def pAdd (pm : PM) (room : Int) (k : Key) (n now : Int) : PM := if addOk (pAddTo pm k now).1 n then pPut pm room k ((pAddTo pm k now).1 + n, (pAddTo pm k now).2) now else pm

theorem pAdd_over {pm : PM} {room : Int} {k : Key} {n now : Int} (h : addOk (pAddTo pm k now).1 n = false) : pAddE pm room k n now = 6 ∧ pAddN pm room k n now = 0 ∧ pAdd pm room k n now = pm := by
  have e : pAddE pm room k n now = 6 := by unfold pAddE; rw [h]; rfl
  refine ⟨e, ?_, ?_⟩
  · unfold pAddN; rw [e]; rfl
  · unfold pAdd; rw [h]; rfl
theorem pAdd_done {pm : PM} {room : Int} {k : Key} {n now : Int} (h : addOk (pAddTo pm k now).1 n = true) (h2 : pPutOk pm room k now = true) : pAddE pm room k n now = 0 ∧ pAddN pm room k n now = (pAddTo pm k now).1 + n ∧ pAdd pm room k n now = pPut pm room k ((pAddTo pm k now).1 + n, (pAddTo pm k now).2) now := by
  have e : pAddE pm room k n now = 0 := by unfold pAddE; rw [h, h2]; rfl
  refine ⟨e, ?_, ?_⟩
  · unfold pAddN; rw [e]; rfl
  · unfold pAdd; rw [h]; rfl
theorem pAdd_full {pm : PM} {room : Int} {k : Key} {n now : Int} (h : addOk (pAddTo pm k now).1 n = true) (h2 : pPutOk pm room k now = false) : pAddE pm room k n now = 5 ∧ pAddN pm room k n now = 0 ∧ pAdd pm room k n now = pPut pm room k ((pAddTo pm k now).1 + n, (pAddTo pm k now).2) now := by
  have e : pAddE pm room k n now = 5 := by unfold pAddE; rw [h, h2]; rfl
  refine ⟨e, ?_, ?_⟩
  · unfold pAddN; rw [e]; rfl
  · unfold pAdd; rw [h]; rfl
theorem bl_setCell {w W : World} (h : Below w.heap.size w W) {p : Addr} (hp : w.heap.size ≤ p.block) (u : Value) : Below w.heap.size w (W.setCell p u) := h.setCell hp u

set_option maxHeartbeats 1000000 in
theorem add_vars {F : Nat → Prop} {v : Nat} {room : Int} {pm : PM} (s : ByteArray) (hs : s.size ≤ maxLen) (n now : Int) (hn0 : -9223372036854775808 ≤ n) (hn1 : n ≤ 9223372036854775807) (w : World) (h : IsVars w F v room pm)
    (hx : -9223372036854775808 ≤ (pAddTo pm s.data.toList now).1 ∧ (pAddTo pm s.data.toList now).1 ≤ 9223372036854775807) :
    Calls Try.prog 10 #[.pointer (some ⟨v, 0, none⟩), .string s, .int .i64 n, .int .i64 now] w fun e w' =>
      e = .returned (.tuple #[.int .i64 (pAddN pm room s.data.toList n now), .int .i64 (pAddE pm room s.data.toList n now)]) ∧ VarsTo w F v room (pAdd pm room s.data.toList n now) w' := by
  have hI := Go.Lib.hid h
  obtain ⟨mb, m, hv, rfl, hF⟩ := h
  obtain ⟨hx0, hx1⟩ := hx
  have hfi := find_any s hs now (w.alloc (.cells #[.int .i64 0, .int .i64 (-1)] 53)) (hv.alloc _)
  have hput := fun (a b : Int) (W : World) (hW : IsVars W F v room (er m)) => put_any s hs a b now W hW
  have hadd := fun W => add_any (pAddTo (er m) s.data.toList now).1 n W hx0 hx1 hn0 hn1
  unfold addN at hadd
  clear hx0 hx1 hs
  cases hok : addOk (pAddTo (er m) s.data.toList now).1 n
  · obtain ⟨e1, e2, e3⟩ := pAdd_over (room := room) hok
    rw [e1, e2, e3]
    rw [hok] at hadd
    clear e1 e2 e3 hput
    cases hf : vFind m s.data.toList now with
    | none =>
      have e4 : pAddTo (er m) s.data.toList now = (0, -1) := by unfold pAddTo; rw [pFind_er, hf]; rfl
      rw [e4] at hok
      unfold addOk at hok
      simp at hok
      omega
    | some c =>
      have ho := hv.one _ (sGet_mem (vFind_get hf))
      have c0 : w.cell? ⟨c.p, 0, none⟩ = some (.int .i64 c.n) := by simp [World.cell?, ho]
      have c1 : w.cell? ⟨c.p, 1, none⟩ = some (.int .i64 c.e) := by simp [World.cell?, ho]
      have e4 : pAddTo (er m) s.data.toList now = (c.n, c.e) := by unfold pAddTo; rw [pFind_er, hf]; rfl
      rw [hf] at hfi
      rw [e4] at hadd
      have hlc := (Array.getElem?_eq_some_iff.1 ho).1
      have HFI := Go.Lib.hid hfi
      have HA := Go.Lib.hid hadd
      clear hfi hf hv hF e4 ho hn0 hn1 hok hadd
      go_enter Try.func10, Try.ntmps10
      go_wp2_with fail
      refine (HFI.out).mono ?_
      rintro e w' ⟨rfl, q, rfl⟩
      unfold ptrOr vPtr
      go_wp2_with fail
      refine (HA.out _).mono ?_
      rintro e w' ⟨rfl, rfl⟩
      go_wp2
      go_ret2
      exact ⟨rfl, VarsTo.same hI.out (bl_setCell (bl_setCell (bl_drewN (bl_alloc (bl_refl w) _) q) (Nat.le_refl _) _) (Nat.le_refl _) _)⟩
  · cases hpk : pPutOk (er m) room s.data.toList now
    all_goals have HK := Go.Lib.hid hpk
    all_goals have HPUT := Go.Lib.hid hput
    all_goals clear hput
    · obtain ⟨e1, e2, e3⟩ := pAdd_full hok hpk
      rw [e1, e2, e3]
      rw [hok, if_pos rfl] at hadd
      clear e1 e2 e3 hok
      cases hf : vFind m s.data.toList now with
      | none =>
        have e4 : pAddTo (er m) s.data.toList now = (0, -1) := by unfold pAddTo; rw [pFind_er, hf]; rfl
        rw [hf] at hfi
        rw [e4] at hadd ⊢
        simp only [Int.zero_add] at hadd ⊢
        have HFI := Go.Lib.hid hfi
        have HA := Go.Lib.hid hadd
        clear hfi hf hv hF e4 hn0 hn1 hadd
        go_enter Try.func10, Try.ntmps10
        go_wp2_with fail
        refine (HFI.out).mono ?_
        rintro e w' ⟨rfl, q, rfl⟩
        unfold ptrOr
        go_wp2_with fail
        refine (HA.out _).mono ?_
        rintro e w' ⟨rfl, rfl⟩
        have HB := Go.Lib.hid (bl_setCell (p := ⟨w.heap.size, 0, none⟩) (bl_drewN (bl_alloc (bl_refl w) (.cells #[.int .i64 0, .int .i64 (-1)] 53)) q) (Nat.le_refl _) (.int .i64 n))
        go_wp2_with fail
        refine (HPUT.out _ _ _ (hI.out.below HB.out)).mono ?_
        rw [HK.out]
        rintro e w' ⟨rfl, ht⟩
        have HT := Go.Lib.hid (VarsTo.later HB.out ht)
        clear ht
        go_wp2
        go_ret2
        exact ⟨rfl, HT.out⟩
      | some c =>
        have ho := hv.one _ (sGet_mem (vFind_get hf))
        have c0 : w.cell? ⟨c.p, 0, none⟩ = some (.int .i64 c.n) := by simp [World.cell?, ho]
        have c1 : w.cell? ⟨c.p, 1, none⟩ = some (.int .i64 c.e) := by simp [World.cell?, ho]
        have e4 : pAddTo (er m) s.data.toList now = (c.n, c.e) := by unfold pAddTo; rw [pFind_er, hf]; rfl
        rw [hf] at hfi
        rw [e4] at hadd ⊢
        simp only at hadd ⊢
        have hlc := (Array.getElem?_eq_some_iff.1 ho).1
        generalize hsum : c.n + n = sum at hadd ⊢
        have HFI := Go.Lib.hid hfi
        have HA := Go.Lib.hid hadd
        clear hfi hf hv hF e4 ho hn0 hn1 hadd hsum
        go_enter Try.func10, Try.ntmps10
        go_wp2_with fail
        refine (HFI.out).mono ?_
        rintro e w' ⟨rfl, q, rfl⟩
        unfold ptrOr vPtr
        go_wp2_with fail
        refine (HA.out _).mono ?_
        rintro e w' ⟨rfl, rfl⟩
        go_wp2_with fail
        have HB := Go.Lib.hid (bl_setCell (p := ⟨w.heap.size, 0, none⟩) (bl_setCell (p := ⟨w.heap.size, 1, none⟩) (bl_setCell (p := ⟨w.heap.size, 0, none⟩) (bl_drewN (bl_alloc (bl_refl w) (.cells #[.int .i64 0, .int .i64 (-1)] 53)) q) (Nat.le_refl _) (.int .i64 c.n)) (Nat.le_refl _) (.int .i64 c.e)) (Nat.le_refl _) (.int .i64 sum))
        refine (HPUT.out _ _ _ (hI.out.below HB.out)).mono ?_
        rw [HK.out]
        rintro e w' ⟨rfl, ht⟩
        have HT := Go.Lib.hid (VarsTo.later HB.out ht)
        clear ht
        go_wp2
        go_ret2
        exact ⟨rfl, HT.out⟩
    · obtain ⟨e1, e2, e3⟩ := pAdd_done hok hpk
      rw [e1, e2, e3]
      rw [hok, if_pos rfl] at hadd
      clear e1 e2 e3 hok
      cases hf : vFind m s.data.toList now with
      | none =>
        have e4 : pAddTo (er m) s.data.toList now = (0, -1) := by unfold pAddTo; rw [pFind_er, hf]; rfl
        rw [hf] at hfi
        rw [e4] at hadd ⊢
        simp only [Int.zero_add] at hadd ⊢
        have HFI := Go.Lib.hid hfi
        have HA := Go.Lib.hid hadd
        clear hfi hf hv hF e4 hn0 hn1 hadd
        go_enter Try.func10, Try.ntmps10
        go_wp2_with fail
        refine (HFI.out).mono ?_
        rintro e w' ⟨rfl, q, rfl⟩
        unfold ptrOr
        go_wp2_with fail
        refine (HA.out _).mono ?_
        rintro e w' ⟨rfl, rfl⟩
        have HB := Go.Lib.hid (bl_setCell (p := ⟨w.heap.size, 0, none⟩) (bl_drewN (bl_alloc (bl_refl w) (.cells #[.int .i64 0, .int .i64 (-1)] 53)) q) (Nat.le_refl _) (.int .i64 n))
        go_wp2_with fail
        refine (HPUT.out _ _ _ (hI.out.below HB.out)).mono ?_
        rw [HK.out]
        rintro e w' ⟨rfl, ht⟩
        have HT := Go.Lib.hid (VarsTo.later HB.out ht)
        clear ht
        go_wp2
        go_ret2
        exact ⟨rfl, HT.out⟩
      | some c =>
        have ho := hv.one _ (sGet_mem (vFind_get hf))
        have c0 : w.cell? ⟨c.p, 0, none⟩ = some (.int .i64 c.n) := by simp [World.cell?, ho]
        have c1 : w.cell? ⟨c.p, 1, none⟩ = some (.int .i64 c.e) := by simp [World.cell?, ho]
        have e4 : pAddTo (er m) s.data.toList now = (c.n, c.e) := by unfold pAddTo; rw [pFind_er, hf]; rfl
        rw [hf] at hfi
        rw [e4] at hadd ⊢
        simp only at hadd ⊢
        have hlc := (Array.getElem?_eq_some_iff.1 ho).1
        generalize hsum : c.n + n = sum at hadd ⊢
        have HFI := Go.Lib.hid hfi
        have HA := Go.Lib.hid hadd
        clear hfi hf hv hF e4 ho hn0 hn1 hadd hsum
        go_enter Try.func10, Try.ntmps10
        go_wp2_with fail
        refine (HFI.out).mono ?_
        rintro e w' ⟨rfl, q, rfl⟩
        unfold ptrOr vPtr
        go_wp2_with fail
        refine (HA.out _).mono ?_
        rintro e w' ⟨rfl, rfl⟩
        go_wp2_with fail
        have HB := Go.Lib.hid (bl_setCell (p := ⟨w.heap.size, 0, none⟩) (bl_setCell (p := ⟨w.heap.size, 1, none⟩) (bl_setCell (p := ⟨w.heap.size, 0, none⟩) (bl_drewN (bl_alloc (bl_refl w) (.cells #[.int .i64 0, .int .i64 (-1)] 53)) q) (Nat.le_refl _) (.int .i64 c.n)) (Nat.le_refl _) (.int .i64 c.e)) (Nat.le_refl _) (.int .i64 sum))
        refine (HPUT.out _ _ _ (hI.out.below HB.out)).mono ?_
        rw [HK.out]
        rintro e w' ⟨rfl, ht⟩
        have HT := Go.Lib.hid (VarsTo.later HB.out ht)
        clear ht
        go_wp2
        go_ret2
        exact ⟨rfl, HT.out⟩
end Go.Proofs.Ytkdhafndngcamaa
