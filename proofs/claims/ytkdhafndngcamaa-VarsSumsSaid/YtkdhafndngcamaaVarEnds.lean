/-
  The law VarsEnds: what is given an end is there till then, and not from then on. For every input.
-/
import Derived.Test.YtkdhafndngcamaaVarX
namespace Go.Proofs.Ytkdhafndngcamaa
open Go.RowKit Go.Maps
set_option linter.unusedVariables false

/-- One key alone. -/
def st (c e : Int) : PM := [(kA, (c, e))]
theorem st_find (c e now : Int) : pFind (st c e) sA.data.toList now = if thereB now e then some (c, e) else none := by
  show Option.filter _ (some (c, e)) = _
  cases h : thereB now e <;> simp [Option.filter, h]
theorem st_live (c e now : Int) : pLive (st c e) now = if thereB now e then [kA] else [] := by
  unfold pLive st
  cases h : thereB now e <;> simp [h]
theorem st_sweep (c e now : Int) : pSweep (st c e) now = if thereB now e then st c e else [] := by
  unfold pSweep st
  cases h : thereB now e <;> simp [h]
theorem st_putOk (c e now room : Int) (hr : 1 ≤ room) : pPutOk (st c e) room sA.data.toList now = true := by
  unfold pPutOk
  rw [st_find, st_live]
  cases h : thereB now e
  · simp; omega
  · simp
theorem st_put (c e now room : Int) (hr : 1 ≤ room) (d : Int × Int) : pPut (st c e) room sA.data.toList d now = [(kA, d)] := by
  unfold pPut
  rw [st_find, st_live, st_sweep]
  cases h : thereB now e
  · simp only [Bool.false_eq_true, if_false, Option.isSome_none, List.length_nil]
    rw [if_pos (by omega)]
    rfl
  · simp only [if_true, Option.isSome_some]
    rfl
theorem st_exp (c e last now : Int) (h : thereB now e = true) : pExp (st c e) sA.data.toList last now = st c (laterT now last) := by
  unfold pExp
  rw [st_find, h]
  rfl
theorem st_add (c e now : Int) (h : thereB now e = true) : pAddTo (st c e) sA.data.toList now = (c, e) := by
  unfold pAddTo
  rw [st_find, h]
  rfl
theorem there_none (now : Int) : thereB now (-1) = true := by unfold thereB; simp

theorem ends_there (t d k : Int) (h0 : 0 ≤ t) (h1 : t ≤ 4294967295) (h2 : 0 ≤ d) (h3 : d ≤ 4294967295) (h4 : 0 ≤ k) (h5 : k ≤ 4294967295) :
    thereB (t + k) (laterT t d) = decide (t + k < t + d) ∧ laterT t d = t + d ∧ clampT (t + k) = t + k := by
  have e1 : laterT t d = t + d := by
    unfold laterT
    rw [clampT_id h0 (by omega), clampT_id h2 (by omega), clampT_id (by omega) (by omega)]
  have e2 : clampT (t + k) = t + k := clampT_id (by omega) (by omega)
  refine ⟨?_, e1, e2⟩
  unfold thereB
  rw [e1, e2]
  have : decide (t + d < 0) = false := by simp; omega
  rw [this]
  simp

set_option maxHeartbeats 1000000 in
set_option maxRecDepth 100000 in
theorem ends_walk (n more t d k : Int) (w : World) (hn0 : -9223372036854775808 ≤ n) (hn1 : n ≤ 9223372036854775807) (hm0 : -9223372036854775808 ≤ more) (hm1 : more ≤ 9223372036854775807)
    (h0 : 0 ≤ t) (h1 : t ≤ 4294967295) (h2 : 0 ≤ d) (h3 : d ≤ 4294967295) (h4 : 0 ≤ k) (h5 : k ≤ 4294967295) :
    Calls Try.prog 6 #[.int .i64 n, .int .i64 more, .int .u32 t, .int .u32 d, .int .u32 k] w fun e w' => e = .returned (.bool true) ∧ Below w.heap.size w w' := by
  obtain ⟨et, el, ec⟩ := ends_there t d k h0 h1 h2 h3 h4 h5
  have n0 := nv_new (w0 := w) 5 (bl_refl w)
  rw [show clipR 5 = 5 by decide] at n0
  have n1 := fun W v (h : NewVars w W v 5 []) => nv_set sA sA_le n t h
  have f1 : pPutOk [] 5 sA.data.toList t = true := rfl
  have f2 : pPut [] 5 sA.data.toList (n, -1) t = st n (-1) := rfl
  simp only [f1, f2, if_true] at n1
  have n2 := fun W v (h : NewVars w W v 5 (st n (-1))) => nv_expire sA sA_le d t h
  have f3 : (pFind (st n (-1)) sA.data.toList t).isSome = true := by rw [st_find, there_none]; rfl
  have f4 : pExp (st n (-1)) sA.data.toList d t = st n (t + d) := by rw [st_exp _ _ _ _ (there_none t), el]
  simp only [f3, f4] at n2
  have n3 := fun W v (h : NewVars w W v 5 (st n (t + d))) => nv_get sA sA_le (t + k) h
  have n4 := fun W v (h : NewVars w W v 5 (st n (t + d))) => nv_left sA sA_le (t + k) h (fun c hc => by
    rw [st_find] at hc
    split at hc
    · injection hc with hc
      subst hc
      exact ⟨by show -1 ≤ t + d; omega, by show t + d ≤ _; omega⟩
    · cases hc)
  rw [st_find, ← el, et, el] at n3 n4
  clear f1 f2 f3 f4
  have kn := known_any
  have N0 := Go.Lib.hid n0
  have N1 := Go.Lib.hid n1
  have N2 := Go.Lib.hid n2
  have KN := Go.Lib.hid kn
  clear n0 n1 n2 kn
  by_cases hx : t + k < t + d
  · rw [show decide (t + k < t + d) = true by simpa using hx] at n3 n4 et
    simp only [if_true] at n3 n4
    rw [if_neg (show ¬ (t + d < 0) by omega), ec] at n4
    have ex : laterT (t + k) 0 = t + k := by unfold laterT; rw [ec, show clampT 0 = 0 by decide, Int.add_zero, ec]
    have eg : thereB (t + k) (t + k) = false := by
      unfold thereB
      rw [ec]
      have : decide (t + k < 0) = false := by simp; omega
      rw [this]
      simp
    have q1 := fun (c e : Int) W v (h : NewVars w W v 5 (st c e)) => nv_set sA sA_le 7 (t + k) h
    simp only [fun c e => st_putOk c e (t + k) 5 (by omega), fun c e => st_put c e (t + k) 5 (by omega), if_true] at q1
    have q2 := fun W v (h : NewVars w W v 5 (st 7 (-1))) => nv_expire sA sA_le 0 (t + k) h
    rw [st_find, there_none, st_exp _ _ _ _ (there_none _), ex] at q2
    have q3 := fun W v (h : NewVars w W v 5 (st 7 (t + k))) => nv_len (t + k) h
    rw [st_live, eg] at q3
    have q4 := fun W v (h : NewVars w W v 5 (st 7 (t + k))) => nv_delete sA sA_le (t + k) h
    rw [st_find, eg] at q4
    simp only [Bool.false_eq_true, if_false, if_true, List.length_nil, Option.isSome_some, Option.isSome_none] at q2 q3 q4
    have q5 := fun W v (h : NewVars w W v 5 (st n (t + d))) => nv_add sA sA_le more (t + k) hm0 hm1 h (by rw [st_add _ _ _ (by rw [← el]; exact et)]; exact ⟨hn0, hn1⟩)
    have hadd := st_add n (t + d) (t + k) (by rw [← el]; exact et)
    have hpok := st_putOk n (t + d) (t + k) 5 (by omega)
    have n4' := fun (c : Int) W v (h : NewVars w W v 5 (st c (t + d))) => nv_left sA sA_le (t + k) h (fun c hc => by
      rw [st_find] at hc
      split at hc
      · injection hc with hc
        subst hc
        exact ⟨by show -1 ≤ t + d; omega, by show t + d ≤ _; omega⟩
      · cases hc)
    simp only [st_find] at n4'
    rw [← el, et, el] at n4'
    simp only [if_true] at n4'
    rw [if_neg (show ¬ (t + d < 0) by omega), ec] at n4'
    have N3 := Go.Lib.hid n3
    have N4 := Go.Lib.hid n4'
    have Q1 := Go.Lib.hid q1
    have Q2 := Go.Lib.hid q2
    have Q3 := Go.Lib.hid q3
    have Q4 := Go.Lib.hid q4
    clear n3 n4 n4' et el ec ex eg q1 q2 q3 q4
    have hd : decide (t + k < t + d) = true := by simpa using hx
    cases hok : addOk n more
    · obtain ⟨e1, e2, e3⟩ := pAdd_over (room := 5) (by rw [hadd]; exact hok)
      rw [e1, e2, e3] at q5
      have Q5 := Go.Lib.hid q5
      clear q5 e1 e2 e3 hadd hpok hok
      go_enter Try.func6, Try.ntmps6
      go_wp2_with fail
      refine (N0.out).mono ?_
      rintro e w' ⟨v, rfl, a0⟩
      go_wp2_with fail
      refine (N1.out _ _ a0).mono ?_
      rintro e w' ⟨rfl, a1⟩
      go_wp2_with fail
      refine (N2.out _ _ a1).mono ?_
      rintro e w' ⟨rfl, a2⟩
      go_wp2_with fail
      refine (N3.out _ _ a2).mono ?_
      rintro e w' ⟨rfl, a3⟩
      go_wp2_with fail
      refine (N4.out _ _ _ a3).mono ?_
      rintro e w' ⟨rfl, a4⟩
      go_wp2_with fail
      refine (Q5.out _ _ a4).mono ?_
      rintro e w' ⟨rfl, a5⟩
      go_wp2_with fail
      refine (N4.out _ _ _ a5).mono ?_
      rintro e w' ⟨rfl, a6⟩
      go_wp2_with fail
      refine (Q1.out _ _ _ _ a6).mono ?_
      rintro e w' ⟨rfl, a7⟩
      go_wp2_with fail
      refine (Q2.out _ _ a7).mono ?_
      rintro e w' ⟨rfl, a8⟩
      go_wp2_with fail
      refine (Q3.out _ _ a8).mono ?_
      rintro e w' ⟨rfl, a9⟩
      go_wp2_with fail
      refine (Q4.out _ _ a9).mono ?_
      rintro e w' ⟨rfl, a10⟩
      go_wp2_with fail
      refine (KN.out _).mono ?_
      rintro e w' ⟨rfl, a11⟩
      go_wp2
      go_ret
      exact ⟨rfl, bl_then a10.bl a11⟩
    · obtain ⟨e1, e2, e3⟩ := pAdd_done (room := 5) (by rw [hadd]; exact hok) hpok
      rw [e1, e2, e3, hadd, st_put _ _ _ _ (by omega)] at q5
      have hs0 : -9223372036854775808 ≤ n + more ∧ n + more ≤ 9223372036854775807 := by unfold addOk at hok; simpa using hok
      obtain ⟨hs1, hs2⟩ := hs0
      have Q5 := Go.Lib.hid q5
      clear q5 e1 e2 e3 hadd hpok hok
      go_enter Try.func6, Try.ntmps6
      go_wp2_with fail
      refine (N0.out).mono ?_
      rintro e w' ⟨v, rfl, a0⟩
      go_wp2_with fail
      refine (N1.out _ _ a0).mono ?_
      rintro e w' ⟨rfl, a1⟩
      go_wp2_with fail
      refine (N2.out _ _ a1).mono ?_
      rintro e w' ⟨rfl, a2⟩
      go_wp2_with fail
      refine (N3.out _ _ a2).mono ?_
      rintro e w' ⟨rfl, a3⟩
      go_wp2_with fail
      refine (N4.out _ _ _ a3).mono ?_
      rintro e w' ⟨rfl, a4⟩
      go_wp2_with fail
      refine (Q5.out _ _ a4).mono ?_
      rintro e w' ⟨rfl, a5⟩
      go_wp2_with fail
      refine (N4.out _ _ _ a5).mono ?_
      rintro e w' ⟨rfl, a6⟩
      go_wp2_with fail
      refine (Q1.out _ _ _ _ a6).mono ?_
      rintro e w' ⟨rfl, a7⟩
      go_wp2_with fail
      refine (Q2.out _ _ a7).mono ?_
      rintro e w' ⟨rfl, a8⟩
      go_wp2_with fail
      refine (Q3.out _ _ a8).mono ?_
      rintro e w' ⟨rfl, a9⟩
      go_wp2_with fail
      refine (Q4.out _ _ a9).mono ?_
      rintro e w' ⟨rfl, a10⟩
      go_wp2_with fail
      refine (KN.out _).mono ?_
      rintro e w' ⟨rfl, a11⟩
      go_wp2
      go_ret
      exact ⟨rfl, bl_then a10.bl a11⟩
  · rw [show decide (t + k < t + d) = false by simpa using hx] at n3 n4 et
    simp only [Bool.false_eq_true, if_false] at n3 n4
    have n5 := fun W v (h : NewVars w W v 5 (st n (t + d))) => nv_len (t + k) h
    rw [st_live, ← el, et, el] at n5
    have n6 := fun W v (h : NewVars w W v 5 (st n (t + d))) => nv_set sA sA_le more (t + k) h
    rw [st_putOk _ _ _ _ (by omega), st_put _ _ _ _ (by omega)] at n6
    have n7 := fun W v (h : NewVars w W v 5 (st more (-1))) => nv_len (t + k + 1000000) h
    rw [st_live, there_none] at n7
    simp only [Bool.false_eq_true, if_false, if_true, List.length_nil, List.length_cons] at n5 n6 n7
    have N3 := Go.Lib.hid n3
    have N4 := Go.Lib.hid n4
    have N5 := Go.Lib.hid n5
    have N6 := Go.Lib.hid n6
    have N7 := Go.Lib.hid n7
    clear n3 n4 n5 n6 n7 et el ec
    have hd : decide (t + k < t + d) = false := by simpa using hx
    go_enter Try.func6, Try.ntmps6
    go_wp2_with fail
    refine (N0.out).mono ?_
    rintro e w' ⟨v, rfl, a0⟩
    go_wp2_with fail
    refine (N1.out _ _ a0).mono ?_
    rintro e w' ⟨rfl, a1⟩
    go_wp2_with fail
    refine (N2.out _ _ a1).mono ?_
    rintro e w' ⟨rfl, a2⟩
    go_wp2_with fail
    refine (N3.out _ _ a2).mono ?_
    rintro e w' ⟨rfl, a3⟩
    go_wp2_with fail
    refine (N4.out _ _ a3).mono ?_
    rintro e w' ⟨rfl, a4⟩
    go_wp2_with fail
    refine (N5.out _ _ a4).mono ?_
    rintro e w' ⟨rfl, a5⟩
    go_wp2_with fail
    refine (N6.out _ _ a5).mono ?_
    rintro e w' ⟨rfl, a6⟩
    go_wp2_with fail
    refine (N7.out _ _ a6).mono ?_
    rintro e w' ⟨rfl, a7⟩
    go_wp2_with fail
    refine (KN.out _).mono ?_
    rintro e w' ⟨rfl, a8⟩
    go_wp2
    go_ret
    exact ⟨rfl, bl_then a7.bl a8⟩
end Go.Proofs.Ytkdhafndngcamaa
