/-
  What tapsterlaw08.known answers: true.
  tapsterref04.Same: of states that are the same.
  What a bucket does, law by law, in plain Lean.
  What gcra does, law by law, in plain Lean.
  What a counter does, law by law, in plain Lean.
  What a log does, law by law, in plain Lean.
  What a kernel's methods answer, whatever function stands in it: right, until, retry, advance.
  What bucket.Until answers.
  What gcra.Until answers.
  What window.Until answers.
  What limiter.Right, Until, Advance and Fresh answer.
  What window.Retry answers.
  What gcra.Retry answers.
  What bucket.Retry answers.
  What limiter.Retry answers.
  What tapsterlaw08.small and the policies that may be (tapsterref04.Of ..) answer.
  The policies that may be (tapsterref05.Of .. tapsterref08.Of).
  What tapsterref04.Check .. tapsterref08.Check and tapsterref08.Most answer.
  What a limiter does, law by law, whichever policy, in plain Lean.
  Policies, states and acts among a law's arguments, opened to their cells.
  Answers in memory, to be read; a state in its box, to be written: loops over acts.
  No condition.
-/
import Derived.Test.YthinbjknkjpdjaaM4
import Derived.Deep.Slices
import Derived.Deep.Fields
import Derived.ChangeSame
namespace Go.Proofs.Ythinbjknkjpdjaa
open Go.RowKit
set_option linter.unusedVariables false
set_option linter.unusedSimpArgs false

theorem callC3 {P : Program} {l : List Oper} {Q : Exit → Act → World → Prop} {S : World → Prop} {i j k : Nat} {o o' o'' : Oper} {rest rest' rest'' : List Oper} {fuel : Nat} {listed : Array Bool} {a : Act} {w : World}
    (hl : l.drop i = o :: rest) (hl' : l.drop j = o' :: rest') (hl'' : l.drop k = o'' :: rest'')
    (h : ∀ K' : Act → World → Prop, Shut (∀ a w, S w → (S w → wpAnyH P .any l.toArray Q S fuel (listed.setIfInBounds i true) a w) → K' a w) → if Region.wanted o (yielded l.toArray a.tmps) = true then Oper.wp P o a w K' Q else K' (a.put o.dst undef) w)
    (h' : ∀ K' : Act → World → Prop, Shut (∀ a w, S w → (S w → wpAnyH P .any l.toArray Q S fuel (listed.setIfInBounds j true) a w) → K' a w) → if Region.wanted o' (yielded l.toArray a.tmps) = true then Oper.wp P o' a w K' Q else K' (a.put o'.dst undef) w)
    (h'' : ∀ K' : Act → World → Prop, Shut (∀ a w, S w → (S w → wpAnyH P .any l.toArray Q S fuel (listed.setIfInBounds k true) a w) → K' a w) → if Region.wanted o'' (yielded l.toArray a.tmps) = true then Oper.wp P o'' a w K' Q else K' (a.put o''.dst undef) w)
    (hr : Region.ready .any l.toArray listed = [i, j, k] := by kernel_rfl) : wpAnyH P .any l.toArray Q S (fuel + 1) listed a w :=
  wpAnyH_ready hr (by simp) (AllReadyH.cons (by simpa using drop_get hl) h (AllReadyH.cons (by simpa using drop_get hl') h' (AllReadyH.cons (by simpa using drop_get hl'') h'' AllReadyH.nil)))
/-- A log does not lie in a box. -/
def Away (a : Option Addr) (n r : Nat) : Prop := ∀ ad, a = some ad → n ≠ 0 → ad.block ≠ r
theorem known_new : (newP ⟨3, 5, 1000, 0, 9, false⟩ 10).v none 0 0 = .agg #[.int .i64 10, .int .i64 0, .int .i64 0, .slice none 0 0] := by kernel_rfl
theorem known_run : runP ⟨3, 5, 1000, 0, 9, false⟩ (newP ⟨3, 5, 1000, 0, 9, false⟩ 10) [⟨1, 0, 5⟩, ⟨1, 0, 1⟩] = (⟨10, 0, 0, [(10, 5)]⟩, [true, false]) := by kernel_rfl
theorem known_most : mostP ⟨3, 5, 1000, 0, 9, false⟩ = 5 := by kernel_rfl
theorem known_chk : chkP ⟨0, 0, 0, 0, 0, false⟩ = 2 := by kernel_rfl
theorem known_log : (newP ⟨3, 5, 1000, 0, 9, false⟩ 10).log = [] := by kernel_rfl
theorem known_acts (w : World) (q : Nat) (h : w.cell? ⟨q, 0, none⟩ = some (.int .i64 1) ∧ w.cell? ⟨q, 1, none⟩ = some (.int .i64 0) ∧ w.cell? ⟨q, 2, none⟩ = some (.int .i64 5) ∧ w.cell? ⟨q, 3, none⟩ = some (.int .i64 1) ∧ w.cell? ⟨q, 4, none⟩ = some (.int .i64 0) ∧ w.cell? ⟨q, 5, none⟩ = some (.int .i64 1)) :
    ActsIn w (some ⟨q, 0, none⟩) 2 2 [⟨1, 0, 5⟩, ⟨1, 0, 1⟩] :=
  ⟨rfl, by omega, by omega, fun i hi => ⟨q, 0, rfl, by
    obtain ⟨h0, h1, h2, h3, h4, h5⟩ := h
    rcases i with _ | _ | i
    · exact ⟨h0, h1, h2⟩
    · exact ⟨h3, h4, h5⟩
    · omega⟩⟩
theorem known_bools {w : World} {base m : Nat} {vb : Value} (h : OwnB w base vb m [true, false]) : ∃ g cap, vb = .slice (some ⟨g, 0, none⟩) 2 cap ∧ base ≤ g ∧ w.cell? ⟨g, 0, none⟩ = some (.bool true) ∧ w.cell? ⟨g, 1, none⟩ = some (.bool false) := by
  have hm : m = 2 := by have := h.1; simp at this; omega
  subst hm
  rcases h.2 with ⟨-, hx⟩ | ⟨g, cap, cur, rfl, h2, h3, h4⟩
  · cases hx
  · exact ⟨g, cap, rfl, h2, by rw [World.ownsRow.cellAt h 0 (by simp)]; rfl, by rw [World.ownsRow.cellAt h 1 (by simp)]; rfl⟩

set_option maxHeartbeats 2000000 in
set_option maxRecDepth 100000 in
theorem known_yes (w : World) : Calls Try.prog 10 #[] w fun e w' => e = .returned (.bool true) ∧ Below w.heap.size w w' := by
  have hnew := lnew_any ⟨3, 5, 1000, 0, 9, false⟩ 10
  rw [known_new] at hnew
  have hrun := fun la m lc W h1 h2 h3 h4 => run_any ⟨3, 5, 1000, 0, 9, false⟩ (newP ⟨3, 5, 1000, 0, 9, false⟩ 10) [⟨1, 0, 5⟩, ⟨1, 0, 1⟩] none 0 0 la m lc W h1 h2 h3 h4
  rw [known_run, known_new] at hrun
  have hmost := lmost_any ⟨3, 5, 1000, 0, 9, false⟩
  rw [known_most] at hmost
  have hchk := lcheck_any ⟨0, 0, 0, 0, 0, false⟩
  rw [known_chk] at hchk
  unfold Pol.v at *
  dsimp only at *
  have HN := Go.Lib.hid hnew
  have HR := Go.Lib.hid hrun
  have HM := Go.Lib.hid hmost
  have HC := Go.Lib.hid hchk
  clear hnew hrun hmost hchk
  go_enter Try.func10, Try.ntmps10
  go_wp2_with fail
  refine wp_abs (S0 := fun w' => w'.cell? ⟨w.heap.size, 0, none⟩ = some (.int .i64 3) ∧ w'.cell? ⟨w.heap.size, 1, none⟩ = some (.int .i64 5) ∧ w'.cell? ⟨w.heap.size, 2, none⟩ = some (.int .i64 1000) ∧ w'.cell? ⟨w.heap.size, 3, none⟩ = some (.int .i64 0) ∧ w'.cell? ⟨w.heap.size, 4, none⟩ = some (.int .i64 9) ∧ w'.cell? ⟨w.heap.size, 5, none⟩ = some (.bool false) ∧ Below w.heap.size w w') ⟨by go_simp, by go_simp, by go_simp, by go_simp, by go_simp, by go_simp, bl_alloc (bl_refl _) _⟩ ?_
  rintro W ⟨c0, c1, c2, c3, c4, c5, hB⟩
  refine wp_region_held_drew (S := fun w' => w'.cell? ⟨w.heap.size, 0, none⟩ = some (.int .i64 3) ∧ w'.cell? ⟨w.heap.size, 1, none⟩ = some (.int .i64 5) ∧ w'.cell? ⟨w.heap.size, 2, none⟩ = some (.int .i64 1000) ∧ w'.cell? ⟨w.heap.size, 3, none⟩ = some (.int .i64 0) ∧ w'.cell? ⟨w.heap.size, 4, none⟩ = some (.int .i64 9) ∧ w'.cell? ⟨w.heap.size, 5, none⟩ = some (.bool false) ∧ Below w.heap.size w w') (by kernel_rfl) ?_ (fun hHeld => ?_)
  · exact ⟨c0, c1, c2, c3, c4, c5, bl_drew hB⟩
  try simp only [Act.put, List.setIfInBounds_toArray, List.set_cons_zero, List.set_cons_succ]
  refine wpAnyH_abs (F := fun X => True) hHeld trivial (fun W0 hHeld hF => ?_)
  clear hF c0 c1 c2 c3 c4 c5 hB
  (refine tk (i := 0) rfl rfl hHeld ?_)
  (refine tk (i := 1) rfl rfl hHeld ?_)
  (refine tk (i := 3) rfl rfl hHeld ?_)
  (refine tk (i := 4) rfl rfl hHeld ?_)
  refine callC3 (i := 2) (j := 5) (k := 10) rfl rfl rfl (fun K hK => ?_) (fun K hK => ?_) (fun K hK => ?_)
  · go_simp
    refine (HN.out _).mono ?_
    rintro e w1 ⟨rfl, hb⟩
    go_wp2_with fail
    refine hK.out _ _ ?_ (fun hHeld' => ?_)
    · obtain ⟨h0, h1, h2, h3, h4, h5, hB'⟩ := hHeld
      exact ⟨bl_cell hb h0, bl_cell hb h1, bl_cell hb h2, bl_cell hb h3, bl_cell hb h4, bl_cell hb h5, bl_then hB' hb⟩
    clear hK K
    refine wpAnyH_abs (F := fun X => True) hHeld' trivial (fun W1 hHeld9 hF => ?_)
    clear hHeld hHeld' hb 
    have hHeld := hHeld9
    clear hHeld9
    try simp only [Act.put, List.setIfInBounds_toArray, List.set_cons_zero, List.set_cons_succ]
    refine callC2 (i := 5) (j := 10) rfl rfl (fun K hK => ?_) (fun K hK => ?_)
    · go_simp
      have hb := bl_alloc (bl_refl W1) (.cells #[.int .i64 1, .int .i64 0, .int .i64 5, .int .i64 1, .int .i64 0, .int .i64 1] 40)
      refine hK.out _ _ ?_ (fun hHeld' => ?_)
      · obtain ⟨h0, h1, h2, h3, h4, h5, hB'⟩ := hHeld
        exact ⟨bl_cell hb h0, bl_cell hb h1, bl_cell hb h2, bl_cell hb h3, bl_cell hb h4, bl_cell hb h5, bl_then hB' hb⟩
      clear hK K
      refine wpAnyH_abs (F := fun X => X.cell? ⟨W1.heap.size, 0, none⟩ = some (.int .i64 1) ∧ X.cell? ⟨W1.heap.size, 1, none⟩ = some (.int .i64 0) ∧ X.cell? ⟨W1.heap.size, 2, none⟩ = some (.int .i64 5) ∧ X.cell? ⟨W1.heap.size, 3, none⟩ = some (.int .i64 1) ∧ X.cell? ⟨W1.heap.size, 4, none⟩ = some (.int .i64 0) ∧ X.cell? ⟨W1.heap.size, 5, none⟩ = some (.int .i64 1)) hHeld' ⟨by go_simp, by go_simp, by go_simp, by go_simp, by go_simp, by go_simp⟩ (fun W2 hHeld9 hF => ?_)
      clear hHeld hHeld' hb 
      have hHeld := hHeld9
      clear hHeld9
      obtain ⟨L0, L1, L2, L3, L4, L5⟩ := hF
      generalize W1.heap.size = q at *
      try simp only [Act.put, List.setIfInBounds_toArray, List.set_cons_zero, List.set_cons_succ]
      refine callC2 (i := 6) (j := 10) rfl rfl (fun K hK => ?_) (fun K hK => ?_)
      · have hac := known_acts _ q ⟨L0, L1, L2, L3, L4, L5⟩
        go_simp
        refine (HR.out _ 2 2 _ (by rw [known_log]; exact log_nil _ _ _ (by omega)) (by omega) hac (by omega)).mono ?_
        rintro e w1 ⟨a1, n1, c1, m1, vb, rfl, -, -, hob, hb⟩
        obtain ⟨g, cap, rfl, hgb, G0, G1⟩ := known_bools hob
        unfold St.v
        dsimp only
        go_wp2_with fail
        refine hK.out _ _ ?_ (fun hHeld' => ?_)
        · obtain ⟨h0, h1, h2, h3, h4, h5, hB'⟩ := hHeld
          exact ⟨bl_cell hb h0, bl_cell hb h1, bl_cell hb h2, bl_cell hb h3, bl_cell hb h4, bl_cell hb h5, bl_then hB' hb⟩
        clear hK K
        refine wpAnyH_abs (F := fun X => X.cell? ⟨g, 0, none⟩ = some (.bool true) ∧ X.cell? ⟨g, 1, none⟩ = some (.bool false)) hHeld' ⟨G0, G1⟩ (fun W3 hHeld9 hF => ?_)
        clear hHeld hHeld' hb L0 L1 L2 L3 L4 L5
        have hHeld := hHeld9
        clear hHeld9
        obtain ⟨G0, G1⟩ := hF
        try simp only [Act.put, List.setIfInBounds_toArray, List.set_cons_zero, List.set_cons_succ]
        (refine tk (i := 7) rfl rfl hHeld ?_)
        (refine tk (i := 8) rfl rfl hHeld ?_)
        (refine tk (i := 9) rfl rfl hHeld ?_)
        refine callC (i := 10) rfl (fun K hK => ?_)
        have hlt := World.block_lt_of_cell? W3 _ hHeld.1
        dsimp only at hlt
        go_simp
        have hb := bl_alloc (bl_refl W3) (.cells #[.int .i64 0, .int .i64 0, .int .i64 0, .slice none 0 0] 32)
        have hgl := World.block_lt_of_cell? W3 _ G0
        dsimp only at hgl
        refine hK.out _ _ ?_ (fun hHeld' => ?_)
        · obtain ⟨h0, h1, h2, h3, h4, h5, hB'⟩ := hHeld
          exact ⟨bl_cell hb h0, bl_cell hb h1, bl_cell hb h2, bl_cell hb h3, bl_cell hb h4, bl_cell hb h5, bl_then hB' hb⟩
        clear hK K
        refine wpAnyH_abs (F := fun X => ResB X W3.heap.size ∧ w.heap.size < W3.heap.size ∧ X.cell? ⟨g, 0, none⟩ = some (.bool true) ∧ X.cell? ⟨g, 1, none⟩ = some (.bool false) ∧ g ≠ W3.heap.size) hHeld' ⟨res_new _ _ _ _ _ _ rfl, hlt, bl_cell hb G0, bl_cell hb G1, Nat.ne_of_lt hgl⟩ (fun W4 hHeld9 hF => ?_)
        clear hHeld hHeld' hb G0 G1
        have hHeld := hHeld9
        clear hHeld9
        obtain ⟨hRes, hrw, G0, G1, hgr⟩ := hF
        generalize W3.heap.size = r at *
        try simp only [Act.put, List.setIfInBounds_toArray, List.set_cons_zero, List.set_cons_succ]
        refine callC (i := 11) rfl (fun K hK => ?_)
        obtain ⟨f0, f1, f2, f3, u0, u1, u2, u3, i0, i1, i2, i3⟩ := res_all hRes
        go_simp
        obtain ⟨h0, h1, h2, h3, h4, h5, hB'⟩ := hHeld
        have e0 : r ≠ w.heap.size := by omega
        have e1 : r ≠ g := fun e => hgr e.symm
        refine hK.out _ _ ?_ (fun hHeld => ?_)
        · exact ⟨far4 h0 e0, far4 h1 e0, far4 h2 e0, far4 h3 e0, far4 h4 e0, far4 h5 e0, bl4 hB' (by omega)⟩
        clear hK K
        obtain ⟨s0, -, -, -⟩ := set4r (v0 := .int .i64 10) (v1 := .int .i64 0) (v2 := .int .i64 0) (v3 := .slice a1 n1 c1) hRes
        have g0 := far4 (v0 := .int .i64 10) (v1 := .int .i64 0) (v2 := .int .i64 0) (v3 := .slice a1 n1 c1) G0 e1
        have g1 := far4 (v0 := .int .i64 10) (v1 := .int .i64 0) (v2 := .int .i64 0) (v3 := .slice a1 n1 c1) G1 e1
        try simp only [Act.put, List.setIfInBounds_toArray, List.set_cons_zero, List.set_cons_succ]
        (refine tk (i := 12) rfl rfl hHeld ?_)
        refine wpAnyH_done (by kernel_rfl) ?_ _
        refine then_abs (F := fun X => (fun w' => w'.cell? ⟨w.heap.size, 0, none⟩ = some (.int .i64 3) ∧ w'.cell? ⟨w.heap.size, 1, none⟩ = some (.int .i64 5) ∧ w'.cell? ⟨w.heap.size, 2, none⟩ = some (.int .i64 1000) ∧ w'.cell? ⟨w.heap.size, 3, none⟩ = some (.int .i64 0) ∧ w'.cell? ⟨w.heap.size, 4, none⟩ = some (.int .i64 9) ∧ w'.cell? ⟨w.heap.size, 5, none⟩ = some (.bool false) ∧ Below w.heap.size w w') X ∧ X.cell? ⟨r, 0, none⟩ = some (.int .i64 10) ∧ X.cell? ⟨g, 0, none⟩ = some (.bool true) ∧ X.cell? ⟨g, 1, none⟩ = some (.bool false)) ⟨hHeld, s0, g0, g1⟩ ?_
        clear s0 g0 g1 hHeld h0 h1 h2 h3 h4 h5 hB' hRes G0 G1 i0 i1 i2 i3 f0 f1 f2 f3
        rintro X ⟨⟨h0, h1, h2, h3, h4, h5, hB⟩, s0, g0, g1⟩
        go_wp2_with fail
        refine (HM.out _).mono ?_
        rintro e w7 ⟨rfl, hb⟩
        have k0 := bl_cell hb h0
        have k1 := bl_cell hb h1
        have k2 := bl_cell hb h2
        have k3 := bl_cell hb h3
        have k4 := bl_cell hb h4
        have k5 := bl_cell hb h5
        have hB7 := bl_then hB hb
        go_wp2_with fail
        refine (HC.out _).mono ?_
        rintro e w8 ⟨rfl, hb8⟩
        go_wp2_with fail
        go_ret
        exact ⟨rfl, bl_then hB7 hb8⟩
      · have hlt := World.block_lt_of_cell? W2 _ hHeld.1
        dsimp only at hlt
        go_simp
        have hb := bl_alloc (bl_refl W2) (.cells #[.int .i64 0, .int .i64 0, .int .i64 0, .slice none 0 0] 32)
        refine hK.out _ _ ?_ (fun hHeld' => ?_)
        · obtain ⟨h0, h1, h2, h3, h4, h5, hB'⟩ := hHeld
          exact ⟨bl_cell hb h0, bl_cell hb h1, bl_cell hb h2, bl_cell hb h3, bl_cell hb h4, bl_cell hb h5, bl_then hB' hb⟩
        clear hK K
        refine wpAnyH_abs (F := fun X => X.cell? ⟨q, 0, none⟩ = some (.int .i64 1) ∧ X.cell? ⟨q, 1, none⟩ = some (.int .i64 0) ∧ X.cell? ⟨q, 2, none⟩ = some (.int .i64 5) ∧ X.cell? ⟨q, 3, none⟩ = some (.int .i64 1) ∧ X.cell? ⟨q, 4, none⟩ = some (.int .i64 0) ∧ X.cell? ⟨q, 5, none⟩ = some (.int .i64 1) ∧ ResB X W2.heap.size ∧ w.heap.size < W2.heap.size) hHeld' ⟨bl_cell hb L0, bl_cell hb L1, bl_cell hb L2, bl_cell hb L3, bl_cell hb L4, bl_cell hb L5, res_new _ _ _ _ _ _ rfl, hlt⟩ (fun W3 hHeld9 hF => ?_)
        clear hHeld hHeld' hb L0 L1 L2 L3 L4 L5
        have hHeld := hHeld9
        clear hHeld9
        obtain ⟨L0, L1, L2, L3, L4, L5, hRes, hrw⟩ := hF
        generalize W2.heap.size = r at *
        try simp only [Act.put, List.setIfInBounds_toArray, List.set_cons_zero, List.set_cons_succ]
        refine callC (i := 6) rfl (fun K hK => ?_)
        have hac := known_acts _ q ⟨L0, L1, L2, L3, L4, L5⟩
        go_simp
        refine (HR.out _ 2 2 _ (by rw [known_log]; exact log_nil _ _ _ (by omega)) (by omega) hac (by omega)).mono ?_
        rintro e w1 ⟨a1, n1, c1, m1, vb, rfl, -, -, hob, hb⟩
        obtain ⟨g, cap, rfl, hgb, G0, G1⟩ := known_bools hob
        have hrl := res_lt hRes
        unfold St.v
        dsimp only
        go_wp2_with fail
        refine hK.out _ _ ?_ (fun hHeld' => ?_)
        · obtain ⟨h0, h1, h2, h3, h4, h5, hB'⟩ := hHeld
          exact ⟨bl_cell hb h0, bl_cell hb h1, bl_cell hb h2, bl_cell hb h3, bl_cell hb h4, bl_cell hb h5, bl_then hB' hb⟩
        clear hK K
        refine wpAnyH_abs (F := fun X => ResB X r ∧ w.heap.size < r ∧ X.cell? ⟨g, 0, none⟩ = some (.bool true) ∧ X.cell? ⟨g, 1, none⟩ = some (.bool false) ∧ g ≠ r) hHeld' ⟨res_bl hRes hb, hrw, G0, G1, by omega⟩ (fun W4 hHeld9 hF => ?_)
        clear hHeld hHeld' hb L0 L1 L2 L3 L4 L5 hRes hrw
        have hHeld := hHeld9
        clear hHeld9
        obtain ⟨hRes, hrw, G0, G1, hgr⟩ := hF
        try simp only [Act.put, List.setIfInBounds_toArray, List.set_cons_zero, List.set_cons_succ]
        (refine tk (i := 7) rfl rfl hHeld ?_)
        (refine tk (i := 8) rfl rfl hHeld ?_)
        (refine tk (i := 9) rfl rfl hHeld ?_)
        refine callC (i := 11) rfl (fun K hK => ?_)
        obtain ⟨f0, f1, f2, f3, u0, u1, u2, u3, i0, i1, i2, i3⟩ := res_all hRes
        go_simp
        obtain ⟨h0, h1, h2, h3, h4, h5, hB'⟩ := hHeld
        have e0 : r ≠ w.heap.size := by omega
        have e1 : r ≠ g := fun e => hgr e.symm
        refine hK.out _ _ ?_ (fun hHeld => ?_)
        · exact ⟨far4 h0 e0, far4 h1 e0, far4 h2 e0, far4 h3 e0, far4 h4 e0, far4 h5 e0, bl4 hB' (by omega)⟩
        clear hK K
        obtain ⟨s0, -, -, -⟩ := set4r (v0 := .int .i64 10) (v1 := .int .i64 0) (v2 := .int .i64 0) (v3 := .slice a1 n1 c1) hRes
        have g0 := far4 (v0 := .int .i64 10) (v1 := .int .i64 0) (v2 := .int .i64 0) (v3 := .slice a1 n1 c1) G0 e1
        have g1 := far4 (v0 := .int .i64 10) (v1 := .int .i64 0) (v2 := .int .i64 0) (v3 := .slice a1 n1 c1) G1 e1
        try simp only [Act.put, List.setIfInBounds_toArray, List.set_cons_zero, List.set_cons_succ]
        (refine tk (i := 12) rfl rfl hHeld ?_)
        refine wpAnyH_done (by kernel_rfl) ?_ _
        refine then_abs (F := fun X => (fun w' => w'.cell? ⟨w.heap.size, 0, none⟩ = some (.int .i64 3) ∧ w'.cell? ⟨w.heap.size, 1, none⟩ = some (.int .i64 5) ∧ w'.cell? ⟨w.heap.size, 2, none⟩ = some (.int .i64 1000) ∧ w'.cell? ⟨w.heap.size, 3, none⟩ = some (.int .i64 0) ∧ w'.cell? ⟨w.heap.size, 4, none⟩ = some (.int .i64 9) ∧ w'.cell? ⟨w.heap.size, 5, none⟩ = some (.bool false) ∧ Below w.heap.size w w') X ∧ X.cell? ⟨r, 0, none⟩ = some (.int .i64 10) ∧ X.cell? ⟨g, 0, none⟩ = some (.bool true) ∧ X.cell? ⟨g, 1, none⟩ = some (.bool false)) ⟨hHeld, s0, g0, g1⟩ ?_
        clear s0 g0 g1 hHeld h0 h1 h2 h3 h4 h5 hB' hRes G0 G1 i0 i1 i2 i3 f0 f1 f2 f3
        rintro X ⟨⟨h0, h1, h2, h3, h4, h5, hB⟩, s0, g0, g1⟩
        go_wp2_with fail
        refine (HM.out _).mono ?_
        rintro e w7 ⟨rfl, hb⟩
        have k0 := bl_cell hb h0
        have k1 := bl_cell hb h1
        have k2 := bl_cell hb h2
        have k3 := bl_cell hb h3
        have k4 := bl_cell hb h4
        have k5 := bl_cell hb h5
        have hB7 := bl_then hB hb
        go_wp2_with fail
        refine (HC.out _).mono ?_
        rintro e w8 ⟨rfl, hb8⟩
        go_wp2_with fail
        go_ret
        exact ⟨rfl, bl_then hB7 hb8⟩
    · have hlt := World.block_lt_of_cell? W1 _ hHeld.1
      dsimp only at hlt
      go_simp
      have hb := bl_alloc (bl_refl W1) (.cells #[.int .i64 0, .int .i64 0, .int .i64 0, .slice none 0 0] 32)
      refine hK.out _ _ ?_ (fun hHeld' => ?_)
      · obtain ⟨h0, h1, h2, h3, h4, h5, hB'⟩ := hHeld
        exact ⟨bl_cell hb h0, bl_cell hb h1, bl_cell hb h2, bl_cell hb h3, bl_cell hb h4, bl_cell hb h5, bl_then hB' hb⟩
      clear hK K
      refine wpAnyH_abs (F := fun X => ResB X W1.heap.size ∧ w.heap.size < W1.heap.size) hHeld' ⟨res_new _ _ _ _ _ _ rfl, hlt⟩ (fun W2 hHeld9 hF => ?_)
      clear hHeld hHeld' hb 
      have hHeld := hHeld9
      clear hHeld9
      obtain ⟨hRes, hrw⟩ := hF
      generalize W1.heap.size = r at *
      try simp only [Act.put, List.setIfInBounds_toArray, List.set_cons_zero, List.set_cons_succ]
      refine callC (i := 5) rfl (fun K hK => ?_)
      go_simp
      have hb := bl_alloc (bl_refl W2) (.cells #[.int .i64 1, .int .i64 0, .int .i64 5, .int .i64 1, .int .i64 0, .int .i64 1] 40)
      refine hK.out _ _ ?_ (fun hHeld' => ?_)
      · obtain ⟨h0, h1, h2, h3, h4, h5, hB'⟩ := hHeld
        exact ⟨bl_cell hb h0, bl_cell hb h1, bl_cell hb h2, bl_cell hb h3, bl_cell hb h4, bl_cell hb h5, bl_then hB' hb⟩
      clear hK K
      refine wpAnyH_abs (F := fun X => X.cell? ⟨W2.heap.size, 0, none⟩ = some (.int .i64 1) ∧ X.cell? ⟨W2.heap.size, 1, none⟩ = some (.int .i64 0) ∧ X.cell? ⟨W2.heap.size, 2, none⟩ = some (.int .i64 5) ∧ X.cell? ⟨W2.heap.size, 3, none⟩ = some (.int .i64 1) ∧ X.cell? ⟨W2.heap.size, 4, none⟩ = some (.int .i64 0) ∧ X.cell? ⟨W2.heap.size, 5, none⟩ = some (.int .i64 1) ∧ ResB X r ∧ w.heap.size < r) hHeld' ⟨by go_simp, by go_simp, by go_simp, by go_simp, by go_simp, by go_simp, res_bl hRes hb, hrw⟩ (fun W3 hHeld9 hF => ?_)
      clear hHeld hHeld' hb hRes hrw
      have hHeld := hHeld9
      clear hHeld9
      obtain ⟨L0, L1, L2, L3, L4, L5, hRes, hrw⟩ := hF
      generalize W2.heap.size = q at *
      try simp only [Act.put, List.setIfInBounds_toArray, List.set_cons_zero, List.set_cons_succ]
      refine callC (i := 6) rfl (fun K hK => ?_)
      have hac := known_acts _ q ⟨L0, L1, L2, L3, L4, L5⟩
      go_simp
      refine (HR.out _ 2 2 _ (by rw [known_log]; exact log_nil _ _ _ (by omega)) (by omega) hac (by omega)).mono ?_
      rintro e w1 ⟨a1, n1, c1, m1, vb, rfl, -, -, hob, hb⟩
      obtain ⟨g, cap, rfl, hgb, G0, G1⟩ := known_bools hob
      have hrl := res_lt hRes
      unfold St.v
      dsimp only
      go_wp2_with fail
      refine hK.out _ _ ?_ (fun hHeld' => ?_)
      · obtain ⟨h0, h1, h2, h3, h4, h5, hB'⟩ := hHeld
        exact ⟨bl_cell hb h0, bl_cell hb h1, bl_cell hb h2, bl_cell hb h3, bl_cell hb h4, bl_cell hb h5, bl_then hB' hb⟩
      clear hK K
      refine wpAnyH_abs (F := fun X => ResB X r ∧ w.heap.size < r ∧ X.cell? ⟨g, 0, none⟩ = some (.bool true) ∧ X.cell? ⟨g, 1, none⟩ = some (.bool false) ∧ g ≠ r) hHeld' ⟨res_bl hRes hb, hrw, G0, G1, by omega⟩ (fun W4 hHeld9 hF => ?_)
      clear hHeld hHeld' hb L0 L1 L2 L3 L4 L5 hRes hrw
      have hHeld := hHeld9
      clear hHeld9
      obtain ⟨hRes, hrw, G0, G1, hgr⟩ := hF
      try simp only [Act.put, List.setIfInBounds_toArray, List.set_cons_zero, List.set_cons_succ]
      (refine tk (i := 7) rfl rfl hHeld ?_)
      (refine tk (i := 8) rfl rfl hHeld ?_)
      (refine tk (i := 9) rfl rfl hHeld ?_)
      refine callC (i := 11) rfl (fun K hK => ?_)
      obtain ⟨f0, f1, f2, f3, u0, u1, u2, u3, i0, i1, i2, i3⟩ := res_all hRes
      go_simp
      obtain ⟨h0, h1, h2, h3, h4, h5, hB'⟩ := hHeld
      have e0 : r ≠ w.heap.size := by omega
      have e1 : r ≠ g := fun e => hgr e.symm
      refine hK.out _ _ ?_ (fun hHeld => ?_)
      · exact ⟨far4 h0 e0, far4 h1 e0, far4 h2 e0, far4 h3 e0, far4 h4 e0, far4 h5 e0, bl4 hB' (by omega)⟩
      clear hK K
      obtain ⟨s0, -, -, -⟩ := set4r (v0 := .int .i64 10) (v1 := .int .i64 0) (v2 := .int .i64 0) (v3 := .slice a1 n1 c1) hRes
      have g0 := far4 (v0 := .int .i64 10) (v1 := .int .i64 0) (v2 := .int .i64 0) (v3 := .slice a1 n1 c1) G0 e1
      have g1 := far4 (v0 := .int .i64 10) (v1 := .int .i64 0) (v2 := .int .i64 0) (v3 := .slice a1 n1 c1) G1 e1
      try simp only [Act.put, List.setIfInBounds_toArray, List.set_cons_zero, List.set_cons_succ]
      (refine tk (i := 12) rfl rfl hHeld ?_)
      refine wpAnyH_done (by kernel_rfl) ?_ _
      refine then_abs (F := fun X => (fun w' => w'.cell? ⟨w.heap.size, 0, none⟩ = some (.int .i64 3) ∧ w'.cell? ⟨w.heap.size, 1, none⟩ = some (.int .i64 5) ∧ w'.cell? ⟨w.heap.size, 2, none⟩ = some (.int .i64 1000) ∧ w'.cell? ⟨w.heap.size, 3, none⟩ = some (.int .i64 0) ∧ w'.cell? ⟨w.heap.size, 4, none⟩ = some (.int .i64 9) ∧ w'.cell? ⟨w.heap.size, 5, none⟩ = some (.bool false) ∧ Below w.heap.size w w') X ∧ X.cell? ⟨r, 0, none⟩ = some (.int .i64 10) ∧ X.cell? ⟨g, 0, none⟩ = some (.bool true) ∧ X.cell? ⟨g, 1, none⟩ = some (.bool false)) ⟨hHeld, s0, g0, g1⟩ ?_
      clear s0 g0 g1 hHeld h0 h1 h2 h3 h4 h5 hB' hRes G0 G1 i0 i1 i2 i3 f0 f1 f2 f3
      rintro X ⟨⟨h0, h1, h2, h3, h4, h5, hB⟩, s0, g0, g1⟩
      go_wp2_with fail
      refine (HM.out _).mono ?_
      rintro e w7 ⟨rfl, hb⟩
      have k0 := bl_cell hb h0
      have k1 := bl_cell hb h1
      have k2 := bl_cell hb h2
      have k3 := bl_cell hb h3
      have k4 := bl_cell hb h4
      have k5 := bl_cell hb h5
      have hB7 := bl_then hB hb
      go_wp2_with fail
      refine (HC.out _).mono ?_
      rintro e w8 ⟨rfl, hb8⟩
      go_wp2_with fail
      go_ret
      exact ⟨rfl, bl_then hB7 hb8⟩
  · go_simp
    have hb := bl_alloc (bl_refl W0) (.cells #[.int .i64 1, .int .i64 0, .int .i64 5, .int .i64 1, .int .i64 0, .int .i64 1] 40)
    refine hK.out _ _ ?_ (fun hHeld' => ?_)
    · obtain ⟨h0, h1, h2, h3, h4, h5, hB'⟩ := hHeld
      exact ⟨bl_cell hb h0, bl_cell hb h1, bl_cell hb h2, bl_cell hb h3, bl_cell hb h4, bl_cell hb h5, bl_then hB' hb⟩
    clear hK K
    refine wpAnyH_abs (F := fun X => X.cell? ⟨W0.heap.size, 0, none⟩ = some (.int .i64 1) ∧ X.cell? ⟨W0.heap.size, 1, none⟩ = some (.int .i64 0) ∧ X.cell? ⟨W0.heap.size, 2, none⟩ = some (.int .i64 5) ∧ X.cell? ⟨W0.heap.size, 3, none⟩ = some (.int .i64 1) ∧ X.cell? ⟨W0.heap.size, 4, none⟩ = some (.int .i64 0) ∧ X.cell? ⟨W0.heap.size, 5, none⟩ = some (.int .i64 1)) hHeld' ⟨by go_simp, by go_simp, by go_simp, by go_simp, by go_simp, by go_simp⟩ (fun W1 hHeld9 hF => ?_)
    clear hHeld hHeld' hb 
    have hHeld := hHeld9
    clear hHeld9
    obtain ⟨L0, L1, L2, L3, L4, L5⟩ := hF
    generalize W0.heap.size = q at *
    try simp only [Act.put, List.setIfInBounds_toArray, List.set_cons_zero, List.set_cons_succ]
    refine callC2 (i := 2) (j := 10) rfl rfl (fun K hK => ?_) (fun K hK => ?_)
    · go_simp
      refine (HN.out _).mono ?_
      rintro e w1 ⟨rfl, hb⟩
      go_wp2_with fail
      refine hK.out _ _ ?_ (fun hHeld' => ?_)
      · obtain ⟨h0, h1, h2, h3, h4, h5, hB'⟩ := hHeld
        exact ⟨bl_cell hb h0, bl_cell hb h1, bl_cell hb h2, bl_cell hb h3, bl_cell hb h4, bl_cell hb h5, bl_then hB' hb⟩
      clear hK K
      refine wpAnyH_abs (F := fun X => X.cell? ⟨q, 0, none⟩ = some (.int .i64 1) ∧ X.cell? ⟨q, 1, none⟩ = some (.int .i64 0) ∧ X.cell? ⟨q, 2, none⟩ = some (.int .i64 5) ∧ X.cell? ⟨q, 3, none⟩ = some (.int .i64 1) ∧ X.cell? ⟨q, 4, none⟩ = some (.int .i64 0) ∧ X.cell? ⟨q, 5, none⟩ = some (.int .i64 1)) hHeld' ⟨bl_cell hb L0, bl_cell hb L1, bl_cell hb L2, bl_cell hb L3, bl_cell hb L4, bl_cell hb L5⟩ (fun W2 hHeld9 hF => ?_)
      clear hHeld hHeld' hb L0 L1 L2 L3 L4 L5
      have hHeld := hHeld9
      clear hHeld9
      obtain ⟨L0, L1, L2, L3, L4, L5⟩ := hF
      try simp only [Act.put, List.setIfInBounds_toArray, List.set_cons_zero, List.set_cons_succ]
      refine callC2 (i := 6) (j := 10) rfl rfl (fun K hK => ?_) (fun K hK => ?_)
      · have hac := known_acts _ q ⟨L0, L1, L2, L3, L4, L5⟩
        go_simp
        refine (HR.out _ 2 2 _ (by rw [known_log]; exact log_nil _ _ _ (by omega)) (by omega) hac (by omega)).mono ?_
        rintro e w1 ⟨a1, n1, c1, m1, vb, rfl, -, -, hob, hb⟩
        obtain ⟨g, cap, rfl, hgb, G0, G1⟩ := known_bools hob
        unfold St.v
        dsimp only
        go_wp2_with fail
        refine hK.out _ _ ?_ (fun hHeld' => ?_)
        · obtain ⟨h0, h1, h2, h3, h4, h5, hB'⟩ := hHeld
          exact ⟨bl_cell hb h0, bl_cell hb h1, bl_cell hb h2, bl_cell hb h3, bl_cell hb h4, bl_cell hb h5, bl_then hB' hb⟩
        clear hK K
        refine wpAnyH_abs (F := fun X => X.cell? ⟨g, 0, none⟩ = some (.bool true) ∧ X.cell? ⟨g, 1, none⟩ = some (.bool false)) hHeld' ⟨G0, G1⟩ (fun W3 hHeld9 hF => ?_)
        clear hHeld hHeld' hb L0 L1 L2 L3 L4 L5
        have hHeld := hHeld9
        clear hHeld9
        obtain ⟨G0, G1⟩ := hF
        try simp only [Act.put, List.setIfInBounds_toArray, List.set_cons_zero, List.set_cons_succ]
        (refine tk (i := 7) rfl rfl hHeld ?_)
        (refine tk (i := 8) rfl rfl hHeld ?_)
        (refine tk (i := 9) rfl rfl hHeld ?_)
        refine callC (i := 10) rfl (fun K hK => ?_)
        have hlt := World.block_lt_of_cell? W3 _ hHeld.1
        dsimp only at hlt
        go_simp
        have hb := bl_alloc (bl_refl W3) (.cells #[.int .i64 0, .int .i64 0, .int .i64 0, .slice none 0 0] 32)
        have hgl := World.block_lt_of_cell? W3 _ G0
        dsimp only at hgl
        refine hK.out _ _ ?_ (fun hHeld' => ?_)
        · obtain ⟨h0, h1, h2, h3, h4, h5, hB'⟩ := hHeld
          exact ⟨bl_cell hb h0, bl_cell hb h1, bl_cell hb h2, bl_cell hb h3, bl_cell hb h4, bl_cell hb h5, bl_then hB' hb⟩
        clear hK K
        refine wpAnyH_abs (F := fun X => ResB X W3.heap.size ∧ w.heap.size < W3.heap.size ∧ X.cell? ⟨g, 0, none⟩ = some (.bool true) ∧ X.cell? ⟨g, 1, none⟩ = some (.bool false) ∧ g ≠ W3.heap.size) hHeld' ⟨res_new _ _ _ _ _ _ rfl, hlt, bl_cell hb G0, bl_cell hb G1, Nat.ne_of_lt hgl⟩ (fun W4 hHeld9 hF => ?_)
        clear hHeld hHeld' hb G0 G1
        have hHeld := hHeld9
        clear hHeld9
        obtain ⟨hRes, hrw, G0, G1, hgr⟩ := hF
        generalize W3.heap.size = r at *
        try simp only [Act.put, List.setIfInBounds_toArray, List.set_cons_zero, List.set_cons_succ]
        refine callC (i := 11) rfl (fun K hK => ?_)
        obtain ⟨f0, f1, f2, f3, u0, u1, u2, u3, i0, i1, i2, i3⟩ := res_all hRes
        go_simp
        obtain ⟨h0, h1, h2, h3, h4, h5, hB'⟩ := hHeld
        have e0 : r ≠ w.heap.size := by omega
        have e1 : r ≠ g := fun e => hgr e.symm
        refine hK.out _ _ ?_ (fun hHeld => ?_)
        · exact ⟨far4 h0 e0, far4 h1 e0, far4 h2 e0, far4 h3 e0, far4 h4 e0, far4 h5 e0, bl4 hB' (by omega)⟩
        clear hK K
        obtain ⟨s0, -, -, -⟩ := set4r (v0 := .int .i64 10) (v1 := .int .i64 0) (v2 := .int .i64 0) (v3 := .slice a1 n1 c1) hRes
        have g0 := far4 (v0 := .int .i64 10) (v1 := .int .i64 0) (v2 := .int .i64 0) (v3 := .slice a1 n1 c1) G0 e1
        have g1 := far4 (v0 := .int .i64 10) (v1 := .int .i64 0) (v2 := .int .i64 0) (v3 := .slice a1 n1 c1) G1 e1
        try simp only [Act.put, List.setIfInBounds_toArray, List.set_cons_zero, List.set_cons_succ]
        (refine tk (i := 12) rfl rfl hHeld ?_)
        refine wpAnyH_done (by kernel_rfl) ?_ _
        refine then_abs (F := fun X => (fun w' => w'.cell? ⟨w.heap.size, 0, none⟩ = some (.int .i64 3) ∧ w'.cell? ⟨w.heap.size, 1, none⟩ = some (.int .i64 5) ∧ w'.cell? ⟨w.heap.size, 2, none⟩ = some (.int .i64 1000) ∧ w'.cell? ⟨w.heap.size, 3, none⟩ = some (.int .i64 0) ∧ w'.cell? ⟨w.heap.size, 4, none⟩ = some (.int .i64 9) ∧ w'.cell? ⟨w.heap.size, 5, none⟩ = some (.bool false) ∧ Below w.heap.size w w') X ∧ X.cell? ⟨r, 0, none⟩ = some (.int .i64 10) ∧ X.cell? ⟨g, 0, none⟩ = some (.bool true) ∧ X.cell? ⟨g, 1, none⟩ = some (.bool false)) ⟨hHeld, s0, g0, g1⟩ ?_
        clear s0 g0 g1 hHeld h0 h1 h2 h3 h4 h5 hB' hRes G0 G1 i0 i1 i2 i3 f0 f1 f2 f3
        rintro X ⟨⟨h0, h1, h2, h3, h4, h5, hB⟩, s0, g0, g1⟩
        go_wp2_with fail
        refine (HM.out _).mono ?_
        rintro e w7 ⟨rfl, hb⟩
        have k0 := bl_cell hb h0
        have k1 := bl_cell hb h1
        have k2 := bl_cell hb h2
        have k3 := bl_cell hb h3
        have k4 := bl_cell hb h4
        have k5 := bl_cell hb h5
        have hB7 := bl_then hB hb
        go_wp2_with fail
        refine (HC.out _).mono ?_
        rintro e w8 ⟨rfl, hb8⟩
        go_wp2_with fail
        go_ret
        exact ⟨rfl, bl_then hB7 hb8⟩
      · have hlt := World.block_lt_of_cell? W2 _ hHeld.1
        dsimp only at hlt
        go_simp
        have hb := bl_alloc (bl_refl W2) (.cells #[.int .i64 0, .int .i64 0, .int .i64 0, .slice none 0 0] 32)
        refine hK.out _ _ ?_ (fun hHeld' => ?_)
        · obtain ⟨h0, h1, h2, h3, h4, h5, hB'⟩ := hHeld
          exact ⟨bl_cell hb h0, bl_cell hb h1, bl_cell hb h2, bl_cell hb h3, bl_cell hb h4, bl_cell hb h5, bl_then hB' hb⟩
        clear hK K
        refine wpAnyH_abs (F := fun X => X.cell? ⟨q, 0, none⟩ = some (.int .i64 1) ∧ X.cell? ⟨q, 1, none⟩ = some (.int .i64 0) ∧ X.cell? ⟨q, 2, none⟩ = some (.int .i64 5) ∧ X.cell? ⟨q, 3, none⟩ = some (.int .i64 1) ∧ X.cell? ⟨q, 4, none⟩ = some (.int .i64 0) ∧ X.cell? ⟨q, 5, none⟩ = some (.int .i64 1) ∧ ResB X W2.heap.size ∧ w.heap.size < W2.heap.size) hHeld' ⟨bl_cell hb L0, bl_cell hb L1, bl_cell hb L2, bl_cell hb L3, bl_cell hb L4, bl_cell hb L5, res_new _ _ _ _ _ _ rfl, hlt⟩ (fun W3 hHeld9 hF => ?_)
        clear hHeld hHeld' hb L0 L1 L2 L3 L4 L5
        have hHeld := hHeld9
        clear hHeld9
        obtain ⟨L0, L1, L2, L3, L4, L5, hRes, hrw⟩ := hF
        generalize W2.heap.size = r at *
        try simp only [Act.put, List.setIfInBounds_toArray, List.set_cons_zero, List.set_cons_succ]
        refine callC (i := 6) rfl (fun K hK => ?_)
        have hac := known_acts _ q ⟨L0, L1, L2, L3, L4, L5⟩
        go_simp
        refine (HR.out _ 2 2 _ (by rw [known_log]; exact log_nil _ _ _ (by omega)) (by omega) hac (by omega)).mono ?_
        rintro e w1 ⟨a1, n1, c1, m1, vb, rfl, -, -, hob, hb⟩
        obtain ⟨g, cap, rfl, hgb, G0, G1⟩ := known_bools hob
        have hrl := res_lt hRes
        unfold St.v
        dsimp only
        go_wp2_with fail
        refine hK.out _ _ ?_ (fun hHeld' => ?_)
        · obtain ⟨h0, h1, h2, h3, h4, h5, hB'⟩ := hHeld
          exact ⟨bl_cell hb h0, bl_cell hb h1, bl_cell hb h2, bl_cell hb h3, bl_cell hb h4, bl_cell hb h5, bl_then hB' hb⟩
        clear hK K
        refine wpAnyH_abs (F := fun X => ResB X r ∧ w.heap.size < r ∧ X.cell? ⟨g, 0, none⟩ = some (.bool true) ∧ X.cell? ⟨g, 1, none⟩ = some (.bool false) ∧ g ≠ r) hHeld' ⟨res_bl hRes hb, hrw, G0, G1, by omega⟩ (fun W4 hHeld9 hF => ?_)
        clear hHeld hHeld' hb L0 L1 L2 L3 L4 L5 hRes hrw
        have hHeld := hHeld9
        clear hHeld9
        obtain ⟨hRes, hrw, G0, G1, hgr⟩ := hF
        try simp only [Act.put, List.setIfInBounds_toArray, List.set_cons_zero, List.set_cons_succ]
        (refine tk (i := 7) rfl rfl hHeld ?_)
        (refine tk (i := 8) rfl rfl hHeld ?_)
        (refine tk (i := 9) rfl rfl hHeld ?_)
        refine callC (i := 11) rfl (fun K hK => ?_)
        obtain ⟨f0, f1, f2, f3, u0, u1, u2, u3, i0, i1, i2, i3⟩ := res_all hRes
        go_simp
        obtain ⟨h0, h1, h2, h3, h4, h5, hB'⟩ := hHeld
        have e0 : r ≠ w.heap.size := by omega
        have e1 : r ≠ g := fun e => hgr e.symm
        refine hK.out _ _ ?_ (fun hHeld => ?_)
        · exact ⟨far4 h0 e0, far4 h1 e0, far4 h2 e0, far4 h3 e0, far4 h4 e0, far4 h5 e0, bl4 hB' (by omega)⟩
        clear hK K
        obtain ⟨s0, -, -, -⟩ := set4r (v0 := .int .i64 10) (v1 := .int .i64 0) (v2 := .int .i64 0) (v3 := .slice a1 n1 c1) hRes
        have g0 := far4 (v0 := .int .i64 10) (v1 := .int .i64 0) (v2 := .int .i64 0) (v3 := .slice a1 n1 c1) G0 e1
        have g1 := far4 (v0 := .int .i64 10) (v1 := .int .i64 0) (v2 := .int .i64 0) (v3 := .slice a1 n1 c1) G1 e1
        try simp only [Act.put, List.setIfInBounds_toArray, List.set_cons_zero, List.set_cons_succ]
        (refine tk (i := 12) rfl rfl hHeld ?_)
        refine wpAnyH_done (by kernel_rfl) ?_ _
        refine then_abs (F := fun X => (fun w' => w'.cell? ⟨w.heap.size, 0, none⟩ = some (.int .i64 3) ∧ w'.cell? ⟨w.heap.size, 1, none⟩ = some (.int .i64 5) ∧ w'.cell? ⟨w.heap.size, 2, none⟩ = some (.int .i64 1000) ∧ w'.cell? ⟨w.heap.size, 3, none⟩ = some (.int .i64 0) ∧ w'.cell? ⟨w.heap.size, 4, none⟩ = some (.int .i64 9) ∧ w'.cell? ⟨w.heap.size, 5, none⟩ = some (.bool false) ∧ Below w.heap.size w w') X ∧ X.cell? ⟨r, 0, none⟩ = some (.int .i64 10) ∧ X.cell? ⟨g, 0, none⟩ = some (.bool true) ∧ X.cell? ⟨g, 1, none⟩ = some (.bool false)) ⟨hHeld, s0, g0, g1⟩ ?_
        clear s0 g0 g1 hHeld h0 h1 h2 h3 h4 h5 hB' hRes G0 G1 i0 i1 i2 i3 f0 f1 f2 f3
        rintro X ⟨⟨h0, h1, h2, h3, h4, h5, hB⟩, s0, g0, g1⟩
        go_wp2_with fail
        refine (HM.out _).mono ?_
        rintro e w7 ⟨rfl, hb⟩
        have k0 := bl_cell hb h0
        have k1 := bl_cell hb h1
        have k2 := bl_cell hb h2
        have k3 := bl_cell hb h3
        have k4 := bl_cell hb h4
        have k5 := bl_cell hb h5
        have hB7 := bl_then hB hb
        go_wp2_with fail
        refine (HC.out _).mono ?_
        rintro e w8 ⟨rfl, hb8⟩
        go_wp2_with fail
        go_ret
        exact ⟨rfl, bl_then hB7 hb8⟩
    · have hlt := World.block_lt_of_cell? W1 _ hHeld.1
      dsimp only at hlt
      go_simp
      have hb := bl_alloc (bl_refl W1) (.cells #[.int .i64 0, .int .i64 0, .int .i64 0, .slice none 0 0] 32)
      refine hK.out _ _ ?_ (fun hHeld' => ?_)
      · obtain ⟨h0, h1, h2, h3, h4, h5, hB'⟩ := hHeld
        exact ⟨bl_cell hb h0, bl_cell hb h1, bl_cell hb h2, bl_cell hb h3, bl_cell hb h4, bl_cell hb h5, bl_then hB' hb⟩
      clear hK K
      refine wpAnyH_abs (F := fun X => X.cell? ⟨q, 0, none⟩ = some (.int .i64 1) ∧ X.cell? ⟨q, 1, none⟩ = some (.int .i64 0) ∧ X.cell? ⟨q, 2, none⟩ = some (.int .i64 5) ∧ X.cell? ⟨q, 3, none⟩ = some (.int .i64 1) ∧ X.cell? ⟨q, 4, none⟩ = some (.int .i64 0) ∧ X.cell? ⟨q, 5, none⟩ = some (.int .i64 1) ∧ ResB X W1.heap.size ∧ w.heap.size < W1.heap.size) hHeld' ⟨bl_cell hb L0, bl_cell hb L1, bl_cell hb L2, bl_cell hb L3, bl_cell hb L4, bl_cell hb L5, res_new _ _ _ _ _ _ rfl, hlt⟩ (fun W2 hHeld9 hF => ?_)
      clear hHeld hHeld' hb L0 L1 L2 L3 L4 L5
      have hHeld := hHeld9
      clear hHeld9
      obtain ⟨L0, L1, L2, L3, L4, L5, hRes, hrw⟩ := hF
      generalize W1.heap.size = r at *
      try simp only [Act.put, List.setIfInBounds_toArray, List.set_cons_zero, List.set_cons_succ]
      refine callC (i := 2) rfl (fun K hK => ?_)
      go_simp
      refine (HN.out _).mono ?_
      rintro e w1 ⟨rfl, hb⟩
      go_wp2_with fail
      refine hK.out _ _ ?_ (fun hHeld' => ?_)
      · obtain ⟨h0, h1, h2, h3, h4, h5, hB'⟩ := hHeld
        exact ⟨bl_cell hb h0, bl_cell hb h1, bl_cell hb h2, bl_cell hb h3, bl_cell hb h4, bl_cell hb h5, bl_then hB' hb⟩
      clear hK K
      refine wpAnyH_abs (F := fun X => X.cell? ⟨q, 0, none⟩ = some (.int .i64 1) ∧ X.cell? ⟨q, 1, none⟩ = some (.int .i64 0) ∧ X.cell? ⟨q, 2, none⟩ = some (.int .i64 5) ∧ X.cell? ⟨q, 3, none⟩ = some (.int .i64 1) ∧ X.cell? ⟨q, 4, none⟩ = some (.int .i64 0) ∧ X.cell? ⟨q, 5, none⟩ = some (.int .i64 1) ∧ ResB X r ∧ w.heap.size < r) hHeld' ⟨bl_cell hb L0, bl_cell hb L1, bl_cell hb L2, bl_cell hb L3, bl_cell hb L4, bl_cell hb L5, res_bl hRes hb, hrw⟩ (fun W3 hHeld9 hF => ?_)
      clear hHeld hHeld' hb L0 L1 L2 L3 L4 L5 hRes hrw
      have hHeld := hHeld9
      clear hHeld9
      obtain ⟨L0, L1, L2, L3, L4, L5, hRes, hrw⟩ := hF
      try simp only [Act.put, List.setIfInBounds_toArray, List.set_cons_zero, List.set_cons_succ]
      refine callC (i := 6) rfl (fun K hK => ?_)
      have hac := known_acts _ q ⟨L0, L1, L2, L3, L4, L5⟩
      go_simp
      refine (HR.out _ 2 2 _ (by rw [known_log]; exact log_nil _ _ _ (by omega)) (by omega) hac (by omega)).mono ?_
      rintro e w1 ⟨a1, n1, c1, m1, vb, rfl, -, -, hob, hb⟩
      obtain ⟨g, cap, rfl, hgb, G0, G1⟩ := known_bools hob
      have hrl := res_lt hRes
      unfold St.v
      dsimp only
      go_wp2_with fail
      refine hK.out _ _ ?_ (fun hHeld' => ?_)
      · obtain ⟨h0, h1, h2, h3, h4, h5, hB'⟩ := hHeld
        exact ⟨bl_cell hb h0, bl_cell hb h1, bl_cell hb h2, bl_cell hb h3, bl_cell hb h4, bl_cell hb h5, bl_then hB' hb⟩
      clear hK K
      refine wpAnyH_abs (F := fun X => ResB X r ∧ w.heap.size < r ∧ X.cell? ⟨g, 0, none⟩ = some (.bool true) ∧ X.cell? ⟨g, 1, none⟩ = some (.bool false) ∧ g ≠ r) hHeld' ⟨res_bl hRes hb, hrw, G0, G1, by omega⟩ (fun W4 hHeld9 hF => ?_)
      clear hHeld hHeld' hb L0 L1 L2 L3 L4 L5 hRes hrw
      have hHeld := hHeld9
      clear hHeld9
      obtain ⟨hRes, hrw, G0, G1, hgr⟩ := hF
      try simp only [Act.put, List.setIfInBounds_toArray, List.set_cons_zero, List.set_cons_succ]
      (refine tk (i := 7) rfl rfl hHeld ?_)
      (refine tk (i := 8) rfl rfl hHeld ?_)
      (refine tk (i := 9) rfl rfl hHeld ?_)
      refine callC (i := 11) rfl (fun K hK => ?_)
      obtain ⟨f0, f1, f2, f3, u0, u1, u2, u3, i0, i1, i2, i3⟩ := res_all hRes
      go_simp
      obtain ⟨h0, h1, h2, h3, h4, h5, hB'⟩ := hHeld
      have e0 : r ≠ w.heap.size := by omega
      have e1 : r ≠ g := fun e => hgr e.symm
      refine hK.out _ _ ?_ (fun hHeld => ?_)
      · exact ⟨far4 h0 e0, far4 h1 e0, far4 h2 e0, far4 h3 e0, far4 h4 e0, far4 h5 e0, bl4 hB' (by omega)⟩
      clear hK K
      obtain ⟨s0, -, -, -⟩ := set4r (v0 := .int .i64 10) (v1 := .int .i64 0) (v2 := .int .i64 0) (v3 := .slice a1 n1 c1) hRes
      have g0 := far4 (v0 := .int .i64 10) (v1 := .int .i64 0) (v2 := .int .i64 0) (v3 := .slice a1 n1 c1) G0 e1
      have g1 := far4 (v0 := .int .i64 10) (v1 := .int .i64 0) (v2 := .int .i64 0) (v3 := .slice a1 n1 c1) G1 e1
      try simp only [Act.put, List.setIfInBounds_toArray, List.set_cons_zero, List.set_cons_succ]
      (refine tk (i := 12) rfl rfl hHeld ?_)
      refine wpAnyH_done (by kernel_rfl) ?_ _
      refine then_abs (F := fun X => (fun w' => w'.cell? ⟨w.heap.size, 0, none⟩ = some (.int .i64 3) ∧ w'.cell? ⟨w.heap.size, 1, none⟩ = some (.int .i64 5) ∧ w'.cell? ⟨w.heap.size, 2, none⟩ = some (.int .i64 1000) ∧ w'.cell? ⟨w.heap.size, 3, none⟩ = some (.int .i64 0) ∧ w'.cell? ⟨w.heap.size, 4, none⟩ = some (.int .i64 9) ∧ w'.cell? ⟨w.heap.size, 5, none⟩ = some (.bool false) ∧ Below w.heap.size w w') X ∧ X.cell? ⟨r, 0, none⟩ = some (.int .i64 10) ∧ X.cell? ⟨g, 0, none⟩ = some (.bool true) ∧ X.cell? ⟨g, 1, none⟩ = some (.bool false)) ⟨hHeld, s0, g0, g1⟩ ?_
      clear s0 g0 g1 hHeld h0 h1 h2 h3 h4 h5 hB' hRes G0 G1 i0 i1 i2 i3 f0 f1 f2 f3
      rintro X ⟨⟨h0, h1, h2, h3, h4, h5, hB⟩, s0, g0, g1⟩
      go_wp2_with fail
      refine (HM.out _).mono ?_
      rintro e w7 ⟨rfl, hb⟩
      have k0 := bl_cell hb h0
      have k1 := bl_cell hb h1
      have k2 := bl_cell hb h2
      have k3 := bl_cell hb h3
      have k4 := bl_cell hb h4
      have k5 := bl_cell hb h5
      have hB7 := bl_then hB hb
      go_wp2_with fail
      refine (HC.out _).mono ?_
      rintro e w8 ⟨rfl, hb8⟩
      go_wp2_with fail
      go_ret
      exact ⟨rfl, bl_then hB7 hb8⟩
  · have hlt := World.block_lt_of_cell? W0 _ hHeld.1
    dsimp only at hlt
    go_simp
    have hb := bl_alloc (bl_refl W0) (.cells #[.int .i64 0, .int .i64 0, .int .i64 0, .slice none 0 0] 32)
    refine hK.out _ _ ?_ (fun hHeld' => ?_)
    · obtain ⟨h0, h1, h2, h3, h4, h5, hB'⟩ := hHeld
      exact ⟨bl_cell hb h0, bl_cell hb h1, bl_cell hb h2, bl_cell hb h3, bl_cell hb h4, bl_cell hb h5, bl_then hB' hb⟩
    clear hK K
    refine wpAnyH_abs (F := fun X => ResB X W0.heap.size ∧ w.heap.size < W0.heap.size) hHeld' ⟨res_new _ _ _ _ _ _ rfl, hlt⟩ (fun W1 hHeld9 hF => ?_)
    clear hHeld hHeld' hb 
    have hHeld := hHeld9
    clear hHeld9
    obtain ⟨hRes, hrw⟩ := hF
    generalize W0.heap.size = r at *
    try simp only [Act.put, List.setIfInBounds_toArray, List.set_cons_zero, List.set_cons_succ]
    refine callC2 (i := 2) (j := 5) rfl rfl (fun K hK => ?_) (fun K hK => ?_)
    · go_simp
      refine (HN.out _).mono ?_
      rintro e w1 ⟨rfl, hb⟩
      go_wp2_with fail
      refine hK.out _ _ ?_ (fun hHeld' => ?_)
      · obtain ⟨h0, h1, h2, h3, h4, h5, hB'⟩ := hHeld
        exact ⟨bl_cell hb h0, bl_cell hb h1, bl_cell hb h2, bl_cell hb h3, bl_cell hb h4, bl_cell hb h5, bl_then hB' hb⟩
      clear hK K
      refine wpAnyH_abs (F := fun X => ResB X r ∧ w.heap.size < r) hHeld' ⟨res_bl hRes hb, hrw⟩ (fun W2 hHeld9 hF => ?_)
      clear hHeld hHeld' hb hRes hrw
      have hHeld := hHeld9
      clear hHeld9
      obtain ⟨hRes, hrw⟩ := hF
      try simp only [Act.put, List.setIfInBounds_toArray, List.set_cons_zero, List.set_cons_succ]
      refine callC (i := 5) rfl (fun K hK => ?_)
      go_simp
      have hb := bl_alloc (bl_refl W2) (.cells #[.int .i64 1, .int .i64 0, .int .i64 5, .int .i64 1, .int .i64 0, .int .i64 1] 40)
      refine hK.out _ _ ?_ (fun hHeld' => ?_)
      · obtain ⟨h0, h1, h2, h3, h4, h5, hB'⟩ := hHeld
        exact ⟨bl_cell hb h0, bl_cell hb h1, bl_cell hb h2, bl_cell hb h3, bl_cell hb h4, bl_cell hb h5, bl_then hB' hb⟩
      clear hK K
      refine wpAnyH_abs (F := fun X => X.cell? ⟨W2.heap.size, 0, none⟩ = some (.int .i64 1) ∧ X.cell? ⟨W2.heap.size, 1, none⟩ = some (.int .i64 0) ∧ X.cell? ⟨W2.heap.size, 2, none⟩ = some (.int .i64 5) ∧ X.cell? ⟨W2.heap.size, 3, none⟩ = some (.int .i64 1) ∧ X.cell? ⟨W2.heap.size, 4, none⟩ = some (.int .i64 0) ∧ X.cell? ⟨W2.heap.size, 5, none⟩ = some (.int .i64 1) ∧ ResB X r ∧ w.heap.size < r) hHeld' ⟨by go_simp, by go_simp, by go_simp, by go_simp, by go_simp, by go_simp, res_bl hRes hb, hrw⟩ (fun W3 hHeld9 hF => ?_)
      clear hHeld hHeld' hb hRes hrw
      have hHeld := hHeld9
      clear hHeld9
      obtain ⟨L0, L1, L2, L3, L4, L5, hRes, hrw⟩ := hF
      generalize W2.heap.size = q at *
      try simp only [Act.put, List.setIfInBounds_toArray, List.set_cons_zero, List.set_cons_succ]
      refine callC (i := 6) rfl (fun K hK => ?_)
      have hac := known_acts _ q ⟨L0, L1, L2, L3, L4, L5⟩
      go_simp
      refine (HR.out _ 2 2 _ (by rw [known_log]; exact log_nil _ _ _ (by omega)) (by omega) hac (by omega)).mono ?_
      rintro e w1 ⟨a1, n1, c1, m1, vb, rfl, -, -, hob, hb⟩
      obtain ⟨g, cap, rfl, hgb, G0, G1⟩ := known_bools hob
      have hrl := res_lt hRes
      unfold St.v
      dsimp only
      go_wp2_with fail
      refine hK.out _ _ ?_ (fun hHeld' => ?_)
      · obtain ⟨h0, h1, h2, h3, h4, h5, hB'⟩ := hHeld
        exact ⟨bl_cell hb h0, bl_cell hb h1, bl_cell hb h2, bl_cell hb h3, bl_cell hb h4, bl_cell hb h5, bl_then hB' hb⟩
      clear hK K
      refine wpAnyH_abs (F := fun X => ResB X r ∧ w.heap.size < r ∧ X.cell? ⟨g, 0, none⟩ = some (.bool true) ∧ X.cell? ⟨g, 1, none⟩ = some (.bool false) ∧ g ≠ r) hHeld' ⟨res_bl hRes hb, hrw, G0, G1, by omega⟩ (fun W4 hHeld9 hF => ?_)
      clear hHeld hHeld' hb L0 L1 L2 L3 L4 L5 hRes hrw
      have hHeld := hHeld9
      clear hHeld9
      obtain ⟨hRes, hrw, G0, G1, hgr⟩ := hF
      try simp only [Act.put, List.setIfInBounds_toArray, List.set_cons_zero, List.set_cons_succ]
      (refine tk (i := 7) rfl rfl hHeld ?_)
      (refine tk (i := 8) rfl rfl hHeld ?_)
      (refine tk (i := 9) rfl rfl hHeld ?_)
      refine callC (i := 11) rfl (fun K hK => ?_)
      obtain ⟨f0, f1, f2, f3, u0, u1, u2, u3, i0, i1, i2, i3⟩ := res_all hRes
      go_simp
      obtain ⟨h0, h1, h2, h3, h4, h5, hB'⟩ := hHeld
      have e0 : r ≠ w.heap.size := by omega
      have e1 : r ≠ g := fun e => hgr e.symm
      refine hK.out _ _ ?_ (fun hHeld => ?_)
      · exact ⟨far4 h0 e0, far4 h1 e0, far4 h2 e0, far4 h3 e0, far4 h4 e0, far4 h5 e0, bl4 hB' (by omega)⟩
      clear hK K
      obtain ⟨s0, -, -, -⟩ := set4r (v0 := .int .i64 10) (v1 := .int .i64 0) (v2 := .int .i64 0) (v3 := .slice a1 n1 c1) hRes
      have g0 := far4 (v0 := .int .i64 10) (v1 := .int .i64 0) (v2 := .int .i64 0) (v3 := .slice a1 n1 c1) G0 e1
      have g1 := far4 (v0 := .int .i64 10) (v1 := .int .i64 0) (v2 := .int .i64 0) (v3 := .slice a1 n1 c1) G1 e1
      try simp only [Act.put, List.setIfInBounds_toArray, List.set_cons_zero, List.set_cons_succ]
      (refine tk (i := 12) rfl rfl hHeld ?_)
      refine wpAnyH_done (by kernel_rfl) ?_ _
      refine then_abs (F := fun X => (fun w' => w'.cell? ⟨w.heap.size, 0, none⟩ = some (.int .i64 3) ∧ w'.cell? ⟨w.heap.size, 1, none⟩ = some (.int .i64 5) ∧ w'.cell? ⟨w.heap.size, 2, none⟩ = some (.int .i64 1000) ∧ w'.cell? ⟨w.heap.size, 3, none⟩ = some (.int .i64 0) ∧ w'.cell? ⟨w.heap.size, 4, none⟩ = some (.int .i64 9) ∧ w'.cell? ⟨w.heap.size, 5, none⟩ = some (.bool false) ∧ Below w.heap.size w w') X ∧ X.cell? ⟨r, 0, none⟩ = some (.int .i64 10) ∧ X.cell? ⟨g, 0, none⟩ = some (.bool true) ∧ X.cell? ⟨g, 1, none⟩ = some (.bool false)) ⟨hHeld, s0, g0, g1⟩ ?_
      clear s0 g0 g1 hHeld h0 h1 h2 h3 h4 h5 hB' hRes G0 G1 i0 i1 i2 i3 f0 f1 f2 f3
      rintro X ⟨⟨h0, h1, h2, h3, h4, h5, hB⟩, s0, g0, g1⟩
      go_wp2_with fail
      refine (HM.out _).mono ?_
      rintro e w7 ⟨rfl, hb⟩
      have k0 := bl_cell hb h0
      have k1 := bl_cell hb h1
      have k2 := bl_cell hb h2
      have k3 := bl_cell hb h3
      have k4 := bl_cell hb h4
      have k5 := bl_cell hb h5
      have hB7 := bl_then hB hb
      go_wp2_with fail
      refine (HC.out _).mono ?_
      rintro e w8 ⟨rfl, hb8⟩
      go_wp2_with fail
      go_ret
      exact ⟨rfl, bl_then hB7 hb8⟩
    · go_simp
      have hb := bl_alloc (bl_refl W1) (.cells #[.int .i64 1, .int .i64 0, .int .i64 5, .int .i64 1, .int .i64 0, .int .i64 1] 40)
      refine hK.out _ _ ?_ (fun hHeld' => ?_)
      · obtain ⟨h0, h1, h2, h3, h4, h5, hB'⟩ := hHeld
        exact ⟨bl_cell hb h0, bl_cell hb h1, bl_cell hb h2, bl_cell hb h3, bl_cell hb h4, bl_cell hb h5, bl_then hB' hb⟩
      clear hK K
      refine wpAnyH_abs (F := fun X => X.cell? ⟨W1.heap.size, 0, none⟩ = some (.int .i64 1) ∧ X.cell? ⟨W1.heap.size, 1, none⟩ = some (.int .i64 0) ∧ X.cell? ⟨W1.heap.size, 2, none⟩ = some (.int .i64 5) ∧ X.cell? ⟨W1.heap.size, 3, none⟩ = some (.int .i64 1) ∧ X.cell? ⟨W1.heap.size, 4, none⟩ = some (.int .i64 0) ∧ X.cell? ⟨W1.heap.size, 5, none⟩ = some (.int .i64 1) ∧ ResB X r ∧ w.heap.size < r) hHeld' ⟨by go_simp, by go_simp, by go_simp, by go_simp, by go_simp, by go_simp, res_bl hRes hb, hrw⟩ (fun W2 hHeld9 hF => ?_)
      clear hHeld hHeld' hb hRes hrw
      have hHeld := hHeld9
      clear hHeld9
      obtain ⟨L0, L1, L2, L3, L4, L5, hRes, hrw⟩ := hF
      generalize W1.heap.size = q at *
      try simp only [Act.put, List.setIfInBounds_toArray, List.set_cons_zero, List.set_cons_succ]
      refine callC (i := 2) rfl (fun K hK => ?_)
      go_simp
      refine (HN.out _).mono ?_
      rintro e w1 ⟨rfl, hb⟩
      go_wp2_with fail
      refine hK.out _ _ ?_ (fun hHeld' => ?_)
      · obtain ⟨h0, h1, h2, h3, h4, h5, hB'⟩ := hHeld
        exact ⟨bl_cell hb h0, bl_cell hb h1, bl_cell hb h2, bl_cell hb h3, bl_cell hb h4, bl_cell hb h5, bl_then hB' hb⟩
      clear hK K
      refine wpAnyH_abs (F := fun X => X.cell? ⟨q, 0, none⟩ = some (.int .i64 1) ∧ X.cell? ⟨q, 1, none⟩ = some (.int .i64 0) ∧ X.cell? ⟨q, 2, none⟩ = some (.int .i64 5) ∧ X.cell? ⟨q, 3, none⟩ = some (.int .i64 1) ∧ X.cell? ⟨q, 4, none⟩ = some (.int .i64 0) ∧ X.cell? ⟨q, 5, none⟩ = some (.int .i64 1) ∧ ResB X r ∧ w.heap.size < r) hHeld' ⟨bl_cell hb L0, bl_cell hb L1, bl_cell hb L2, bl_cell hb L3, bl_cell hb L4, bl_cell hb L5, res_bl hRes hb, hrw⟩ (fun W3 hHeld9 hF => ?_)
      clear hHeld hHeld' hb L0 L1 L2 L3 L4 L5 hRes hrw
      have hHeld := hHeld9
      clear hHeld9
      obtain ⟨L0, L1, L2, L3, L4, L5, hRes, hrw⟩ := hF
      try simp only [Act.put, List.setIfInBounds_toArray, List.set_cons_zero, List.set_cons_succ]
      refine callC (i := 6) rfl (fun K hK => ?_)
      have hac := known_acts _ q ⟨L0, L1, L2, L3, L4, L5⟩
      go_simp
      refine (HR.out _ 2 2 _ (by rw [known_log]; exact log_nil _ _ _ (by omega)) (by omega) hac (by omega)).mono ?_
      rintro e w1 ⟨a1, n1, c1, m1, vb, rfl, -, -, hob, hb⟩
      obtain ⟨g, cap, rfl, hgb, G0, G1⟩ := known_bools hob
      have hrl := res_lt hRes
      unfold St.v
      dsimp only
      go_wp2_with fail
      refine hK.out _ _ ?_ (fun hHeld' => ?_)
      · obtain ⟨h0, h1, h2, h3, h4, h5, hB'⟩ := hHeld
        exact ⟨bl_cell hb h0, bl_cell hb h1, bl_cell hb h2, bl_cell hb h3, bl_cell hb h4, bl_cell hb h5, bl_then hB' hb⟩
      clear hK K
      refine wpAnyH_abs (F := fun X => ResB X r ∧ w.heap.size < r ∧ X.cell? ⟨g, 0, none⟩ = some (.bool true) ∧ X.cell? ⟨g, 1, none⟩ = some (.bool false) ∧ g ≠ r) hHeld' ⟨res_bl hRes hb, hrw, G0, G1, by omega⟩ (fun W4 hHeld9 hF => ?_)
      clear hHeld hHeld' hb L0 L1 L2 L3 L4 L5 hRes hrw
      have hHeld := hHeld9
      clear hHeld9
      obtain ⟨hRes, hrw, G0, G1, hgr⟩ := hF
      try simp only [Act.put, List.setIfInBounds_toArray, List.set_cons_zero, List.set_cons_succ]
      (refine tk (i := 7) rfl rfl hHeld ?_)
      (refine tk (i := 8) rfl rfl hHeld ?_)
      (refine tk (i := 9) rfl rfl hHeld ?_)
      refine callC (i := 11) rfl (fun K hK => ?_)
      obtain ⟨f0, f1, f2, f3, u0, u1, u2, u3, i0, i1, i2, i3⟩ := res_all hRes
      go_simp
      obtain ⟨h0, h1, h2, h3, h4, h5, hB'⟩ := hHeld
      have e0 : r ≠ w.heap.size := by omega
      have e1 : r ≠ g := fun e => hgr e.symm
      refine hK.out _ _ ?_ (fun hHeld => ?_)
      · exact ⟨far4 h0 e0, far4 h1 e0, far4 h2 e0, far4 h3 e0, far4 h4 e0, far4 h5 e0, bl4 hB' (by omega)⟩
      clear hK K
      obtain ⟨s0, -, -, -⟩ := set4r (v0 := .int .i64 10) (v1 := .int .i64 0) (v2 := .int .i64 0) (v3 := .slice a1 n1 c1) hRes
      have g0 := far4 (v0 := .int .i64 10) (v1 := .int .i64 0) (v2 := .int .i64 0) (v3 := .slice a1 n1 c1) G0 e1
      have g1 := far4 (v0 := .int .i64 10) (v1 := .int .i64 0) (v2 := .int .i64 0) (v3 := .slice a1 n1 c1) G1 e1
      try simp only [Act.put, List.setIfInBounds_toArray, List.set_cons_zero, List.set_cons_succ]
      (refine tk (i := 12) rfl rfl hHeld ?_)
      refine wpAnyH_done (by kernel_rfl) ?_ _
      refine then_abs (F := fun X => (fun w' => w'.cell? ⟨w.heap.size, 0, none⟩ = some (.int .i64 3) ∧ w'.cell? ⟨w.heap.size, 1, none⟩ = some (.int .i64 5) ∧ w'.cell? ⟨w.heap.size, 2, none⟩ = some (.int .i64 1000) ∧ w'.cell? ⟨w.heap.size, 3, none⟩ = some (.int .i64 0) ∧ w'.cell? ⟨w.heap.size, 4, none⟩ = some (.int .i64 9) ∧ w'.cell? ⟨w.heap.size, 5, none⟩ = some (.bool false) ∧ Below w.heap.size w w') X ∧ X.cell? ⟨r, 0, none⟩ = some (.int .i64 10) ∧ X.cell? ⟨g, 0, none⟩ = some (.bool true) ∧ X.cell? ⟨g, 1, none⟩ = some (.bool false)) ⟨hHeld, s0, g0, g1⟩ ?_
      clear s0 g0 g1 hHeld h0 h1 h2 h3 h4 h5 hB' hRes G0 G1 i0 i1 i2 i3 f0 f1 f2 f3
      rintro X ⟨⟨h0, h1, h2, h3, h4, h5, hB⟩, s0, g0, g1⟩
      go_wp2_with fail
      refine (HM.out _).mono ?_
      rintro e w7 ⟨rfl, hb⟩
      have k0 := bl_cell hb h0
      have k1 := bl_cell hb h1
      have k2 := bl_cell hb h2
      have k3 := bl_cell hb h3
      have k4 := bl_cell hb h4
      have k5 := bl_cell hb h5
      have hB7 := bl_then hB hb
      go_wp2_with fail
      refine (HC.out _).mono ?_
      rintro e w8 ⟨rfl, hb8⟩
      go_wp2_with fail
      go_ret
      exact ⟨rfl, bl_then hB7 hb8⟩

end Go.Proofs.Ythinbjknkjpdjaa

namespace Go.Proofs.Ythinbjknkjpdjaa
open Go.RowKit
set_option linter.unusedVariables false
set_option linter.unusedSimpArgs false

set_option maxHeartbeats 2000000 in
set_option maxRecDepth 100000 in
theorem same_yes (s : St) (a1 a2 : Option Addr) (n k1 k2 : Nat) (w : World) (h1 : LogAt w a1 n k1 s.log) (h2 : LogAt w a2 n k2 s.log) :
    Calls Try.prog 26 #[s.v a1 n k1, s.v a2 n k2] w fun e w' => e = .returned (.bool true) ∧ Below w.heap.size w w' := by
  obtain ⟨at_, level, held, L⟩ := s
  unfold St.v
  dsimp only at *
  have H1 := Go.Lib.hid h1
  have H2 := Go.Lib.hid h2
  have hnm : (n : Int) ≤ 9223372036854775807 := by have := h1.2.1; have := h1.2.2.1; omega
  have hneq : ∀ (x y : Int) (w : World), (binOp .neq 69 (.agg #[.int .i64 x, .int .i64 y]) (.agg #[.int .i64 x, .int .i64 y])).run Try.prog w = .ok (.bool false) w := by
    intro x y w
    simp [go_sem, Op.equal]
  clear h1 h2
  go_enter Try.func26, Try.ntmps26
  go_wp2_with fail
  refine wp_abs (S0 := fun w' => w'.cell? ⟨w.heap.size, 0, none⟩ = some (.int .i64 at_) ∧ w'.cell? ⟨w.heap.size, 1, none⟩ = some (.int .i64 level) ∧ w'.cell? ⟨w.heap.size, 2, none⟩ = some (.int .i64 held) ∧ w'.cell? ⟨w.heap.size, 3, none⟩ = some (.slice a1 n k1) ∧ w'.cell? ⟨w.heap.size + 1, 0, none⟩ = some (.int .i64 at_) ∧ w'.cell? ⟨w.heap.size + 1, 1, none⟩ = some (.int .i64 level) ∧ w'.cell? ⟨w.heap.size + 1, 2, none⟩ = some (.int .i64 held) ∧ w'.cell? ⟨w.heap.size + 1, 3, none⟩ = some (.slice a2 n k2) ∧ Below w.heap.size w w') ⟨by go_simp, by go_simp, by go_simp, by go_simp, by go_simp, by go_simp, by go_simp, by go_simp, bl_alloc (bl_alloc (bl_refl _) _) _⟩ ?_
  rintro W ⟨c0, c1, c2, c3, c4, c5, c6, c7, hB⟩
  go_loopw [5] (fun s5 wr => ∃ j : Nat, s5 = .int .i64 j ∧ j ≤ n ∧ Hid (Below W.heap.size W wr))
    (fun s5 _ => n - (intOf s5).toNat)
  case atStart => exact ⟨0, rfl, Nat.zero_le _, Below.refl _ _⟩
  case round =>
    obtain ⟨j, rfl, hj, H⟩ := hrel
    have hb := H.out
    have d0 := bl_cell hb c0
    have d1 := bl_cell hb c1
    have d2 := bl_cell hb c2
    have d3 := bl_cell hb c3
    have d4 := bl_cell hb c4
    have d5 := bl_cell hb c5
    have d6 := bl_cell hb c6
    have d7 := bl_cell hb c7
    have dB : Below w.heap.size w wr := hB.trans (hb.mono hB.size)
    by_cases hjn : j < n
    · obtain ⟨b1, o1, rfl, p1, p2⟩ := H1.out.2.2.2 j hjn
      obtain ⟨b2, o2, rfl, p3, p4⟩ := H2.out.2.2.2 j hjn
      have x1 := bl_cell dB p1
      have x2 := bl_cell dB p2
      have x3 := bl_cell dB p3
      have x4 := bl_cell dB p4
      generalize (L.getD j (0, 0)).1 = T at x1 x3
      generalize (L.getD j (0, 0)).2 = C at x2 x4
      have hk0 : (0 : Int) ≤ (j : Int) := by omega
      have hk1 : (j : Int) < (n : Int) := by omega
      have hj1 : j + 1 ≤ n := hjn
      have hms : n - (j + 1) < n - j := by omega
      clear p1 p2 p3 p4 H hB c0 c1 c2 c3 c4 c5 c6 c7
      go_wp2_with fail
      refine wp_region_held_drew (S := fun w' => w'.cell? ⟨w.heap.size, 0, none⟩ = some (.int .i64 at_) ∧ w'.cell? ⟨w.heap.size, 1, none⟩ = some (.int .i64 level) ∧ w'.cell? ⟨w.heap.size, 2, none⟩ = some (.int .i64 held) ∧ w'.cell? ⟨w.heap.size, 3, none⟩ = some (.slice (some ⟨b1, o1, none⟩) n k1) ∧ w'.cell? ⟨w.heap.size + 1, 0, none⟩ = some (.int .i64 at_) ∧ w'.cell? ⟨w.heap.size + 1, 1, none⟩ = some (.int .i64 level) ∧ w'.cell? ⟨w.heap.size + 1, 2, none⟩ = some (.int .i64 held) ∧ w'.cell? ⟨w.heap.size + 1, 3, none⟩ = some (.slice (some ⟨b2, o2, none⟩) n k2) ∧ w'.cell? ⟨b1, o1 + j * 2, none⟩ = some (.int .i64 T) ∧ w'.cell? ⟨b1, o1 + j * 2 + 1, none⟩ = some (.int .i64 C) ∧ w'.cell? ⟨b2, o2 + j * 2, none⟩ = some (.int .i64 T) ∧ w'.cell? ⟨b2, o2 + j * 2 + 1, none⟩ = some (.int .i64 C) ∧ Below w.heap.size w w') (by kernel_rfl) ?_ (fun hHeld => ?_)
      · exact ⟨d0, d1, d2, d3, d4, d5, d6, d7, x1, x2, x3, x4, bl_drew dB⟩
      try simp only [Act.put, List.setIfInBounds_toArray, List.set_cons_zero, List.set_cons_succ]
      (refine tk (i := 0) rfl rfl hHeld ?_)
      (refine tk (i := 1) rfl rfl hHeld ?_)
      (refine tk (i := 2) rfl rfl hHeld ?_)
      (refine tk (i := 3) rfl rfl hHeld ?_)
      (refine tk (i := 4) rfl rfl hHeld ?_)
      (refine tk (i := 5) rfl rfl hHeld ?_)
      (refine tk (i := 6) rfl rfl hHeld ?_)
      (refine tk (i := 7) rfl rfl hHeld ?_)
      (refine tk (i := 8) rfl rfl hHeld ?_)
      (refine tk (i := 9) rfl rfl hHeld ?_)
      (refine tk (i := 10) rfl rfl hHeld ?_)
      refine wpAnyH_done (by kernel_rfl) ?_ _
      clear hHeld
      have hbd : Below W.heap.size W wr.drew := hb.drew
      go_wp2_with fail
      go_roundw
      case rel => exact ⟨j + 1, by go_num, hj1, hbd⟩
      case measure => (simp [intOf]; first | exact hms | omega)
    · have hje : n = j := by omega
      subst hje
      go_wp2_with fail
      go_ret
      exact ⟨rfl, dB⟩
end Go.Proofs.Ythinbjknkjpdjaa

namespace Go.Proofs.Ythinbjknkjpdjaa.Pu
set_option linter.unusedVariables false
set_option linter.unusedSimpArgs false
theorem ceilD_spec {n d : Int} (hd : 0 < d) : 0 ≤ ceilD n d ∧ n ≤ ceilD n d * d ∧ (0 < n → 1 ≤ ceilD n d ∧ (ceilD n d - 1) * d < n) ∧ (n ≤ 0 → ceilD n d = 0) := by
  unfold ceilD
  by_cases h : n ≤ 0
  · rw [if_pos h]; exact ⟨by omega, by omega, fun x => by omega, fun _ => rfl⟩
  · rw [if_neg h]
    have h1 := Int.ediv_mul_le (n + d - 1) (Int.ne_of_gt hd)
    have h2 := Int.lt_ediv_add_one_mul_self (n + d - 1) hd
    have h3 : 1 ≤ (n + d - 1) / d := by rw [Int.le_ediv_iff_mul_le hd]; omega
    generalize (n + d - 1) / d = q at *
    rw [Int.add_mul] at h2
    exact ⟨by omega, by omega, fun _ => ⟨h3, by rw [Int.sub_mul]; omega⟩, fun x => absurd x h⟩
theorem up_ge (a b : Int) : a ≤ up a b ∧ b ≤ up a b := by unfold up; split <;> omega
theorem up_or (a b : Int) : up a b = a ∨ up a b = b := by unfold up; split <;> simp
theorem up_up (a b : Int) : up (up a b) b = up a b := by unfold up; repeat' split
                                                         all_goals omega
theorem mulr {a b d : Int} (h : a ≤ b) (hd : 0 ≤ d) : a * d ≤ b * d := Int.mul_le_mul_of_nonneg_right h hd
theorem lem {a b d : Int} (h : a * d ≤ b * d) (hd : 0 < d) : a ≤ b := Int.le_of_mul_le_mul_right h hd
theorem mul0 {a d : Int} (h : 0 ≤ a) (hd : 0 ≤ d) : 0 ≤ a * d := Int.mul_nonneg h hd
theorem up_rng (a n : Int) (h0 : 0 ≤ a) (h1 : a ≤ 9007199254740992) : 0 ≤ up a (clampT n) ∧ up a (clampT n) ≤ 9007199254740992 := by
  have := clampT_range n; have := up_or a (clampT n); omega

/-! ### bucket -/
section B
variable {p : Pol} {s : St} 
theorem right_advB (n : Int) (h : rightB p s) : rightB p (advB p s n) := by
  have hl := advB_level p s n h
  unfold advB at hl ⊢
  rw [if_pos h] at hl ⊢
  have := up_rng s.at_ n h.2.1 h.2.2.1
  exact ⟨h.1, this.1, this.2, h.2.2.2.1, h.2.2.2.2.1, hl.1, hl.2.2, rfl⟩
theorem right_newB (t : Int) (h : okB p) : rightB p (newB p t) := by
  unfold newB; rw [if_pos h]
  have hcl := clampT_range t
  have h' := h
  obtain ⟨q0, q1, q2, q3, q4, q5, q6, q7⟩ := h
  have := mul0 (a := p.burst) (d := p.period) (by omega) (by omega)
  refine ⟨h', hcl.1, hcl.2, by dsimp only; omega, by dsimp only; omega, this, ?_, rfl⟩
  dsimp only; rw [Int.sub_zero]; exact Int.le_refl _
theorem adv_atB (n : Int) (h : rightB p s) : (advB p s n).at_ = up s.at_ (clampT n) := by unfold advB; rw [if_pos h]
theorem adv_logB (n : Int) (h : rightB p s) : (advB p s n).log = [] := by unfold advB; rw [if_pos h]
theorem adv_stayB (n : Int) (h : rightB p s) (hn : clampT n ≤ s.at_) : advB p s n = s := by
  unfold advB; rw [if_pos h]
  have e : up s.at_ (clampT n) = s.at_ := by unfold up; split <;> omega
  rw [e, Int.sub_self, Int.mul_zero]
  have : dn 0 ((p.burst - s.held) * p.period - s.level) = 0 := by unfold dn; have := h.2.2.2.2.2.2.1; split <;> omega
  rw [this, Int.add_zero]
  obtain ⟨a, b, c, d⟩ := s
  have := h.2.2.2.2.2.2.2
  simp at this ⊢; exact this
theorem right_doB (a : Ac) (h : rightB p s) : rightB p (doB p s a).1 := by
  unfold doB; rw [if_pos h]
  split
  · exact h
  · rename_i hc
    have hr := right_advB a.now h
    generalize advB p s a.now = t at *
    obtain ⟨hok, r1, r2, r3, r4, r5, r6, r7⟩ := hr
    have ho := hok
    obtain ⟨q0, q1, q2, q3, q4, q5, q6, q7⟩ := ho
    have hcp : 0 ≤ a.cost * p.period := mul0 (by omega) (by omega)
    rw [Int.sub_mul] at r6
    have e : (actB p t a).2 = true := by cases hh : (actB p t a).2 <;> simp [hh] at hc ⊢
    unfold actB at e ⊢
    by_cases k1 : a.kind = 1
    · simp only [k1, if_true, decide_eq_true_eq] at e ⊢
      refine ⟨hok, r1, r2, r3, r4, e, ?_, r7⟩
      dsimp only; rw [Int.sub_mul]; omega
    rw [if_neg k1] at e ⊢
    by_cases k2 : a.kind = 2
    · simp only [k2, if_true, decide_eq_true_eq] at e ⊢
      have : a.cost ≤ p.burst - t.held := lem (d := p.period) (by rw [Int.sub_mul]; omega) (by omega)
      refine ⟨hok, r1, r2, by dsimp only; omega, by dsimp only; omega, e, ?_, r7⟩
      dsimp only; rw [Int.sub_mul, Int.add_mul]; omega
    rw [if_neg k2] at e ⊢
    by_cases k3 : a.kind = 3
    · simp only [k3, if_true, decide_eq_true_eq] at e ⊢
      refine ⟨hok, r1, r2, by dsimp only; omega, by dsimp only; omega, by dsimp only; omega, ?_, r7⟩
      dsimp only; rw [Int.sub_mul, Int.sub_mul]; omega
    rw [if_neg k3] at e ⊢
    by_cases k4 : a.kind = 4
    · simp only [k4, if_true, decide_eq_true_eq] at e ⊢
      refine ⟨hok, r1, r2, by dsimp only; omega, by dsimp only; omega, by dsimp only; omega, ?_, r7⟩
      dsimp only; rw [Int.sub_mul, Int.sub_mul]; omega
    rw [if_neg k4] at e
    cases e
theorem do_noB (a : Ac) (h : rightB p s) (hd : (doB p s a).2 = false) : (doB p s a).1 = s := by
  unfold doB at hd ⊢; rw [if_pos h] at hd ⊢
  split
  · rfl
  · rename_i hc; rw [if_neg hc] at hd; exact absurd (.inr (.inr hd)) hc
theorem roomB_iff (n c : Int) (h : rightB p s) : c ≤ roomB p s n ↔ c * p.period ≤ (advB p s n).level := by
  unfold roomB; rw [if_pos h]
  have hd := h.1.2.2.2.1
  rw [Int.le_ediv_iff_mul_le (by omega)]
theorem cost_boundB (n c : Int) (h : rightB p s) (hc : c * p.period ≤ (advB p s n).level) : c ≤ p.burst - s.held := by
  have := (advB_level p s n h).2.2
  exact lem (d := p.period) (by omega) (by have := h.1.2.2.2.1; omega)
theorem hold_takeB (n c : Int) (h : rightB p s) (hc : 1 ≤ c) : (doB p s ⟨2, n, c⟩).2 = decide (c ≤ roomB p s n) ∧ (doB p s ⟨1, n, c⟩).2 = decide (c ≤ roomB p s n) := by
  have hr := roomB_iff n c h
  have hb := cost_boundB n c h
  have h3 := h.2.2.2.1
  unfold doB; rw [if_pos h, if_pos h]
  unfold actB
  simp only [show (2 : Int) ≠ 1 by omega, if_false, if_true]
  by_cases hh : c ≤ roomB p s n
  · have := hr.1 hh
    have := hb this
    rw [if_neg (by rintro (z | z | z) <;> (try simp at z) <;> omega), if_neg (by rintro (z | z | z) <;> (try simp at z) <;> omega)]
    dsimp only
    exact ⟨by simp [hh]; omega, by simp [hh]; omega⟩
  · have h4 : ¬ c * p.period ≤ (advB p s n).level := fun z => hh (hr.2 z)
    rw [if_pos (.inr (.inr (by simp; omega))), if_pos (.inr (.inr (by simp; omega)))]
    simp [hh]
theorem take_eqB (n c : Int) (h : rightB p s) (hc : 1 ≤ c) (hr : c ≤ roomB p s n) : doB p s ⟨1, n, c⟩ = ({ advB p s n with level := (advB p s n).level - c * p.period }, true) ∧ doB p s ⟨2, n, c⟩ = ({ advB p s n with level := (advB p s n).level - c * p.period, held := s.held + c }, true) := by
  have h1 := (roomB_iff n c h).1 hr
  have h2 := cost_boundB n c h h1
  have h3 := h.2.2.2.1
  have hh := advB_held p s n h
  unfold doB; rw [if_pos h, if_pos h]
  unfold actB
  simp only [show (2 : Int) ≠ 1 by omega, if_false, if_true]
  rw [if_neg (by rintro (z | z | z) <;> (try simp at z) <;> omega), if_neg (by rintro (z | z | z) <;> (try simp at z) <;> omega), hh]
  simp; omega
theorem backB (n c : Int) (h : rightB p s) (hc : 1 ≤ c) (hr : c ≤ roomB p s n) :
    doB p (doB p s ⟨2, n, c⟩).1 ⟨3, n, c⟩ = (advB p s n, true) ∧ doB p (doB p s ⟨2, n, c⟩).1 ⟨4, n, c⟩ = ((doB p s ⟨1, n, c⟩).1, true) := by
  have hR := right_doB ⟨2, n, c⟩ h
  obtain ⟨e1, e2⟩ := take_eqB n c h hc hr
  have h1 := (roomB_iff n c h).1 hr
  have h2 := cost_boundB n c h h1
  have h3 := h.2.2.2.1
  have hh := advB_held p s n h
  rw [e1]
  rw [e2] at hR ⊢
  have hs := adv_stayB n hR (by dsimp only; rw [adv_atB n h]; exact (up_ge _ _).2)
  unfold doB; rw [if_pos hR, if_pos hR]
  dsimp only at hs ⊢
  rw [hs]
  unfold actB
  simp only [show (3 : Int) ≠ 1 by omega, show (3 : Int) ≠ 2 by omega, show (4 : Int) ≠ 1 by omega, show (4 : Int) ≠ 2 by omega, show (4 : Int) ≠ 3 by omega, if_false, if_true]
  have e : s.held + c - c = (advB p s n).held := by rw [hh]; omega
  have e' : (advB p s n).level - c * p.period + c * p.period = (advB p s n).level := by omega
  rw [e, e']
  rw [if_neg (by rintro (z | z | z) <;> (try simp at z) <;> omega), if_neg (by rintro (z | z | z) <;> (try simp at z) <;> omega)]
  simp; omega
theorem heldB (n : Int) (h : rightB p s) : 0 ≤ s.held ∧ s.held + roomB p s n ≤ p.burst := by
  have h1 := (roomB_iff n (roomB p s n) h).1 (Int.le_refl _)
  have := cost_boundB n _ h h1
  exact ⟨h.2.2.2.1, by omega⟩
theorem unheldB (n c : Int) (h : rightB p s) (hc : s.held < c) : (doB p s ⟨3, n, c⟩).2 = false ∧ (doB p s ⟨4, n, c⟩).2 = false := by
  have h3 := h.2.2.2.1
  have hh := advB_held p s n h
  unfold doB; rw [if_pos h, if_pos h]
  unfold actB
  simp only [show (3 : Int) ≠ 1 by omega, show (3 : Int) ≠ 2 by omega, show (4 : Int) ≠ 1 by omega, show (4 : Int) ≠ 2 by omega, show (4 : Int) ≠ 3 by omega, if_false, if_true]
  rw [if_pos (.inr (.inr (by simp; omega))), if_pos (.inr (.inr (by simp; omega)))]
  simp
theorem freeB (n : Int) (h : rightB p s) (hc : 0 < s.held) :
    doB p s ⟨3, n, s.held⟩ = ({ advB p s n with level := (advB p s n).level + s.held * p.period, held := 0 }, true) ∧ doB p s ⟨4, n, s.held⟩ = ({ advB p s n with held := 0 }, true) := by
  have h3 := h.2.2.2.2.1
  have hh := advB_held p s n h
  unfold doB; rw [if_pos h, if_pos h]
  unfold actB
  simp only [show (3 : Int) ≠ 1 by omega, show (3 : Int) ≠ 2 by omega, show (4 : Int) ≠ 1 by omega, show (4 : Int) ≠ 2 by omega, show (4 : Int) ≠ 3 by omega, if_false, if_true]
  rw [if_neg (by rintro (z | z | z) <;> (try simp at z) <;> omega), if_neg (by rintro (z | z | z) <;> (try simp at z) <;> omega), hh]
  simp
theorem freeRoomB (n : Int) (h : rightB p s) (hc : 0 < s.held) : roomB p (doB p s ⟨4, n, s.held⟩).1 n ≤ roomB p (doB p s ⟨3, n, s.held⟩).1 n := by
  have hR3 := right_doB ⟨3, n, s.held⟩ h
  have hR4 := right_doB ⟨4, n, s.held⟩ h
  rw [roomB_iff n _ hR3]
  have e := (roomB_iff n _ hR4).1 (Int.le_refl _)
  refine Int.le_trans e ?_
  obtain ⟨e3, e4⟩ := freeB n h hc
  rw [e3] at hR3 ⊢
  rw [e4] at hR4 ⊢
  rw [adv_stayB n hR3 (by dsimp only; rw [adv_atB n h]; exact (up_ge _ _).2), adv_stayB n hR4 (by dsimp only; rw [adv_atB n h]; exact (up_ge _ _).2)]
  dsimp only
  have := mul0 (a := s.held) (d := p.period) (by omega) (by have := h.1.2.2.2.1; omega)
  omega
theorem until_negB (n : Int) (h : rightB p s) : untilB p s n < 0 ↔ 0 < s.held := by
  unfold untilB
  by_cases hh : s.held ≤ 0
  · rw [if_pos ⟨h, hh⟩]
    have := (ceilD_spec (n := p.burst * p.period - (advB p s n).level) (d := p.limit) (by have := h.1.2.1; omega)).1
    omega
  · rw [if_neg (fun z => hh z.2)]; omega
theorem freshB (t : Int) (h : rightB p s) (hu : untilB p s t = 0) (h0 : 0 ≤ t) (ht : t ≤ 9007199254740992) (hat : s.at_ ≤ t) : advB p s t = newB p t ∧ roomB p s t = p.burst := by
  have hheld : ¬ 0 < s.held := fun z => by have := (until_negB t h).2 z; omega
  have hz : s.held = 0 := by have := h.2.2.2.1; omega
  have hl := (advB_level p s t h).2.2
  rw [hz, Int.sub_zero] at hl
  unfold untilB at hu
  rw [if_pos ⟨h, by omega⟩] at hu
  have hc := (ceilD_spec (n := p.burst * p.period - (advB p s t).level) (d := p.limit) (by have := h.1.2.1; omega))
  rw [hu] at hc
  have hlev : (advB p s t).level = p.burst * p.period := by omega
  have e : advB p s t = newB p t := by
    have e1 : advB p s t = ⟨(advB p s t).at_, (advB p s t).level, (advB p s t).held, (advB p s t).log⟩ := rfl
    rw [e1, adv_atB t h, advB_held p s t h, adv_logB t h, hlev, hz]
    unfold newB; rw [if_pos h.1, clampT_id h0 ht]
    have : up s.at_ t = t := by unfold up; split <;> omega
    rw [this]
  refine ⟨e, ?_⟩
  unfold roomB; rw [if_pos h, hlev]
  exact Int.mul_ediv_cancel _ (by have := h.1.2.2.2.1; omega)
theorem adv_levelB (t : Int) (h : rightB p s) (h0 : 0 ≤ t) (ht : s.at_ + t ≤ 9007199254740992) : (advB p s (s.at_ + t)).level = s.level + dn (p.limit * t) ((p.burst - s.held) * p.period - s.level) := by
  unfold advB; rw [if_pos h, clampT_id (by have := h.2.1; omega) ht]
  have : up s.at_ (s.at_ + t) = s.at_ + t := by unfold up; split <;> omega
  rw [this]
  have : s.at_ + t - s.at_ = t := by omega
  rw [this]
theorem zeroB (h : rightB p s) : advB p s 0 = s := adv_stayB 0 h (by rw [clampT_id (by omega) (by omega)]; exact h.2.1)
theorem until_thenB (h : rightB p s) (hu : ¬ untilB p s 0 < 0) (ht : s.at_ + untilB p s 0 ≤ 9007199254740992) : untilB p s (s.at_ + untilB p s 0) = 0 ∧ (untilB p s 0 ≠ 0 → 0 < untilB p s (s.at_ + untilB p s 0 - 1)) := by
  have hz : s.held = 0 := by have := (until_negB 0 h).2; have := h.2.2.2.1; omega
  have hl1 := h.1.2.1
  have hlv := h.2.2.2.2.2.2.1
  rw [hz, Int.sub_zero] at hlv
  have e : untilB p s 0 = ceilD (p.burst * p.period - s.level) p.limit := by unfold untilB; rw [if_pos ⟨h, by omega⟩, zeroB h]
  have hc := ceilD_spec (n := p.burst * p.period - s.level) (d := p.limit) (by omega)
  rw [← e] at hc
  generalize untilB p s 0 = u at *
  have hcc := Int.mul_comm p.limit u
  constructor
  · unfold untilB
    rw [if_pos ⟨h, by omega⟩, adv_levelB u h (by omega) (by omega), hz, Int.sub_zero]
    refine (ceilD_spec (by omega)).2.2.2 ?_
    unfold dn; split <;> omega
  · intro hu0
    have hu1 : 0 < p.burst * p.period - s.level := by
      by_cases z : 0 < p.burst * p.period - s.level
      · exact z
      · exact absurd (hc.2.2.2 (by omega)) hu0
    have hd := hc.2.2.1 hu1
    have e2 : s.at_ + u - 1 = s.at_ + (u - 1) := by omega
    unfold untilB
    rw [if_pos ⟨h, by omega⟩, e2, adv_levelB (u - 1) h (by omega) (by omega), hz, Int.sub_zero]
    have hcc := Int.mul_comm p.limit (u - 1)
    have : 0 < p.burst * p.period - (s.level + dn (p.limit * (u - 1)) (p.burst * p.period - s.level)) := by unfold dn; split <;> omega
    have := (ceilD_spec (n := p.burst * p.period - (s.level + dn (p.limit * (u - 1)) (p.burst * p.period - s.level))) (d := p.limit) (by omega)).2.2.1 this
    omega
theorem retry_okB (c : Int) (h : rightB p s) (hc : 1 ≤ c) (n : Int) : (retryB p s n c).2 = decide (c ≤ p.burst - s.held) := by
  unfold retryB
  by_cases hh : c ≤ p.burst - s.held
  · rw [if_pos ⟨h, hc, hh⟩]; simp [hh]
  · rw [if_neg (fun z => hh z.2.2)]; simp [hh]
theorem retry_leB (c : Int) (h : rightB p s) (hc : 1 ≤ c) : 0 ≤ (retryB p s 0 c).1 ∧ (retryB p s 0 c).1 ≤ c * p.period := by
  have hl1 := h.1.2.1
  have hp := h.1.2.2.2.1
  have hcp : 0 ≤ c * p.period := mul0 (by omega) (by omega)
  unfold retryB
  split
  · rw [zeroB h]
    dsimp only
    have hcd := ceilD_spec (n := c * p.period - s.level) (d := p.limit) (by omega)
    refine ⟨hcd.1, ?_⟩
    by_cases z : 0 < c * p.period - s.level
    · have := hcd.2.2.1 z
      have h5 : (ceilD (c * p.period - s.level) p.limit - 1) * 1 ≤ (ceilD (c * p.period - s.level) p.limit - 1) * p.limit := Int.mul_le_mul_of_nonneg_left (by omega) (by omega)
      have h6 := h.2.2.2.2.2.1
      omega
    · rw [hcd.2.2.2 (by omega)]; exact hcp
  · exact ⟨by decide, hcp⟩
theorem retry_thenB (c : Int) (h : rightB p s) (hc : 1 ≤ c) (hr : c ≤ p.burst - s.held) (ht : s.at_ + (retryB p s 0 c).1 ≤ 9007199254740992) :
    (doB p s ⟨1, s.at_ + (retryB p s 0 c).1, c⟩).2 = true ∧ (0 < (retryB p s 0 c).1 → (doB p s ⟨1, s.at_ + (retryB p s 0 c).1 - 1, c⟩).2 = false) := by
  have hl1 := h.1.2.1
  have hp := h.1.2.2.2.1
  have e : (retryB p s 0 c).1 = ceilD (c * p.period - s.level) p.limit := by unfold retryB; rw [if_pos ⟨h, hc, hr⟩, zeroB h]
  have hcd := ceilD_spec (n := c * p.period - s.level) (d := p.limit) (by omega)
  rw [← e] at hcd
  generalize (retryB p s 0 c).1 = r at *
  have hm : c * p.period ≤ (p.burst - s.held) * p.period := mulr hr (by omega)
  have hcc := Int.mul_comm p.limit r
  constructor
  · rw [(hold_takeB _ c h hc).2, decide_eq_true_eq, roomB_iff _ c h, adv_levelB r h (by omega) ht]
    unfold dn; split <;> omega
  · intro hr0
    have hu1 : 0 < c * p.period - s.level := by
      by_cases z : 0 < c * p.period - s.level
      · exact z
      · have := hcd.2.2.2 (by omega); omega
    have hd := hcd.2.2.1 hu1
    have e2 : s.at_ + r - 1 = s.at_ + (r - 1) := by omega
    have hcc := Int.mul_comm p.limit (r - 1)
    rw [(hold_takeB _ c h hc).2, decide_eq_false_iff_not, roomB_iff _ c h, e2, adv_levelB (r - 1) h (by omega) (by omega)]
    unfold dn; split <;> omega
theorem new_allB (t : Int) (h : okB p) : roomB p (newB p t) t = p.burst ∧ (newB p t).held = 0 ∧ untilB p (newB p t) t = 0 ∧ 1 ≤ p.burst := by
  have hR := right_newB t h
  have e : newB p t = ⟨clampT t, p.burst * p.period, 0, []⟩ := by unfold newB; rw [if_pos h]
  have hs := adv_stayB t hR (by rw [e]; exact Int.le_refl _)
  refine ⟨?_, by rw [e], ?_, h.2.2.1⟩
  · unfold roomB; rw [if_pos hR, hs, e]
    exact Int.mul_ediv_cancel _ (by have := h.2.2.2.1; omega)
  · unfold untilB; rw [if_pos ⟨hR, by rw [e]; exact Int.le_refl _⟩, hs, e]
    exact (ceilD_spec (by have := h.2.1; omega)).2.2.2 (by dsimp only; omega)
end B
end Go.Proofs.Ythinbjknkjpdjaa.Pu

namespace Go.Proofs.Ythinbjknkjpdjaa.Pu
set_option linter.unusedVariables false
set_option linter.unusedSimpArgs false
/-! ### gcra -/
section G
variable {p : Pol} {s : St} 
theorem lvlG (n : Int) (h : rightG p s) : p.burst * p.period ≤ 1152921504606846976 ∧ 0 ≤ s.held * p.period ∧ s.held * p.period ≤ (advG p s n).level ∧ (advG p s n).level ≤ p.burst * p.period := by
  unfold advG
  rw [if_pos h]
  obtain ⟨⟨q0, q1, q2, q3, q4, q5, q6, q7⟩, r1, r2, r3, r4, r5, r6, r7⟩ := h
  have hM : p.burst * p.period ≤ 1152921504606846976 := prod_le (by omega) (by omega) (by omega)
  have h0 : 0 ≤ s.held * p.period := mul0 (by omega) (by omega)
  have hT := (up_ge s.at_ (clampT n)).1
  have hDD0 : 0 ≤ (up s.at_ (clampT n) - s.at_) * p.limit := mul0 (by omega) (by omega)
  dsimp only
  have := up_ge (s.level - (up s.at_ (clampT n) - s.at_) * p.limit) (s.held * p.period)
  have := up_or (s.level - (up s.at_ (clampT n) - s.at_) * p.limit) (s.held * p.period)
  refine ⟨hM, h0, ?_, ?_⟩ <;> omega
theorem adv_heldG (n : Int) (h : rightG p s) : (advG p s n).held = s.held := by unfold advG; rw [if_pos h]
theorem adv_atG (n : Int) (h : rightG p s) : (advG p s n).at_ = up s.at_ (clampT n) := by unfold advG; rw [if_pos h]
theorem adv_logG (n : Int) (h : rightG p s) : (advG p s n).log = [] := by unfold advG; rw [if_pos h]
theorem right_advG (n : Int) (h : rightG p s) : rightG p (advG p s n) := by
  have hl := lvlG n h
  have := up_rng s.at_ n h.2.1 h.2.2.1
  have e := adv_heldG n h
  refine ⟨h.1, by rw [adv_atG n h]; exact this.1, by rw [adv_atG n h]; exact this.2, by rw [e]; exact h.2.2.2.1, by rw [e]; exact h.2.2.2.2.1, by rw [e]; exact hl.2.2.1, hl.2.2.2, adv_logG n h⟩
theorem right_newG (t : Int) (h : okG p) : rightG p (newG p t) := by
  unfold newG; rw [if_pos h]
  have hcl := clampT_range t
  have h' := h
  obtain ⟨q0, q1, q2, q3, q4, q5, q6, q7⟩ := h
  have := mul0 (a := p.burst) (d := p.period) (by omega) (by omega)
  refine ⟨h', hcl.1, hcl.2, by dsimp only; omega, by dsimp only; omega, ?_, by dsimp only; omega, rfl⟩
  dsimp only; rw [Int.zero_mul]; exact Int.le_refl _
theorem adv_stayG (n : Int) (h : rightG p s) (hn : clampT n ≤ s.at_) : advG p s n = s := by
  unfold advG; rw [if_pos h]
  have e : up s.at_ (clampT n) = s.at_ := by unfold up; split <;> omega
  rw [e, Int.sub_self, Int.zero_mul, Int.sub_zero]
  have : up s.level (s.held * p.period) = s.level := by unfold up; have := h.2.2.2.2.2.1; split <;> omega
  rw [this]
  obtain ⟨a, b, c, d⟩ := s
  have := h.2.2.2.2.2.2.2
  simp at this ⊢; exact this
theorem right_doG (a : Ac) (h : rightG p s) : rightG p (doG p s a).1 := by
  unfold doG; rw [if_pos h]
  split
  · exact h
  · rename_i hc
    have hr := right_advG a.now h
    generalize advG p s a.now = t at *
    obtain ⟨hok, r1, r2, r3, r4, r5, r6, r7⟩ := hr
    have ho := hok
    obtain ⟨q0, q1, q2, q3, q4, q5, q6, q7⟩ := ho
    have hcp : 0 ≤ a.cost * p.period := mul0 (by omega) (by omega)
    dsimp only
    have e1 : ¬ (actG p t a).held < 0 := fun z => hc (.inr (.inr (.inr (.inr (.inl z)))))
    have e2 : ¬ p.burst * p.period < (actG p t a).level := fun z => hc (.inr (.inr (.inr (.inr (.inr z)))))
    have e0 : ¬ a.cost < 1 := fun z => hc (.inl z)
    clear hc
    unfold actG at e1 e2 ⊢
    by_cases k1 : a.kind = 1
    · simp only [k1, if_true] at e1 e2 ⊢
      exact ⟨hok, r1, r2, r3, r4, by dsimp only; omega, by dsimp only; omega, r7⟩
    rw [if_neg k1] at e1 e2 ⊢
    by_cases k2 : a.kind = 2
    · simp only [k2, if_true] at e1 e2 ⊢
      have : t.held + a.cost ≤ p.burst := lem (d := p.period) (by rw [Int.add_mul]; omega) (by omega)
      refine ⟨hok, r1, r2, by dsimp only; omega, by dsimp only; omega, ?_, by dsimp only; omega, r7⟩
      dsimp only; rw [Int.add_mul]; omega
    rw [if_neg k2] at e1 e2 ⊢
    by_cases k3 : a.kind = 3
    · simp only [k3, if_true] at e1 e2 ⊢
      refine ⟨hok, r1, r2, by dsimp only; omega, by dsimp only; omega, ?_, by dsimp only; omega, r7⟩
      dsimp only; rw [Int.sub_mul]; omega
    rw [if_neg k3] at e1 e2 ⊢
    dsimp only at e1 e2
    refine ⟨hok, r1, r2, by dsimp only; omega, by dsimp only; omega, ?_, by dsimp only; omega, r7⟩
    dsimp only; rw [Int.sub_mul]; omega
theorem do_noG (a : Ac) (h : rightG p s) (hd : (doG p s a).2 = false) : (doG p s a).1 = s := by
  unfold doG at hd ⊢; rw [if_pos h] at hd ⊢
  split
  · rfl
  · rename_i hc; rw [if_neg hc] at hd; cases hd
theorem roomG_iff (n c : Int) (h : rightG p s) : c ≤ roomG p s n ↔ c * p.period ≤ p.burst * p.period - (advG p s n).level := by
  unfold roomG; rw [if_pos h]
  have hd := h.1.2.2.2.2.2.2.1
  rw [Int.le_ediv_iff_mul_le (by omega)]
theorem cost_boundG (n c : Int) (h : rightG p s) (hc : c * p.period ≤ p.burst * p.period - (advG p s n).level) : c ≤ p.burst - s.held := by
  have := (lvlG n h).2.2.1
  exact lem (d := p.period) (by rw [Int.sub_mul]; omega) (by have := h.1.2.2.2.2.2.2.1; omega)
theorem hold_takeG (n c : Int) (h : rightG p s) (hc : 1 ≤ c) : (doG p s ⟨2, n, c⟩).2 = decide (c ≤ roomG p s n) ∧ (doG p s ⟨1, n, c⟩).2 = decide (c ≤ roomG p s n) := by
  have hr := roomG_iff n c h
  have hb := cost_boundG n c h
  have h3 := h.2.2.2.1
  have hhd := adv_heldG n h
  unfold doG; rw [if_pos h, if_pos h]
  unfold actG
  simp only [show (2 : Int) ≠ 1 by omega, if_false, if_true]
  by_cases hh : c ≤ roomG p s n
  · have := hr.1 hh
    have := hb this
    rw [if_neg (by rintro (z | z | z | z | z | z) <;> (try simp at z) <;> omega), if_neg (by rintro (z | z | z | z | z | z) <;> (try simp at z) <;> omega)]
    simp [hh]
  · have h4 : ¬ c * p.period ≤ p.burst * p.period - (advG p s n).level := fun z => hh (hr.2 z)
    rw [if_pos (.inr (.inr (.inr (.inr (.inr (by omega)))))), if_pos (.inr (.inr (.inr (.inr (.inr (by omega))))))]
    simp [hh]
theorem take_eqG (n c : Int) (h : rightG p s) (hc : 1 ≤ c) (hr : c ≤ roomG p s n) : doG p s ⟨1, n, c⟩ = ({ advG p s n with level := (advG p s n).level + c * p.period }, true) ∧ doG p s ⟨2, n, c⟩ = ({ advG p s n with level := (advG p s n).level + c * p.period, held := s.held + c }, true) := by
  have h1 := (roomG_iff n c h).1 hr
  have h2 := cost_boundG n c h h1
  have h3 := h.2.2.2.1
  have hh := adv_heldG n h
  unfold doG; rw [if_pos h, if_pos h]
  unfold actG
  simp only [show (2 : Int) ≠ 1 by omega, if_false, if_true]
  rw [if_neg (by rintro (z | z | z | z | z | z) <;> (try simp at z) <;> omega), if_neg (by rintro (z | z | z | z | z | z) <;> (try simp at z) <;> omega), hh]
  simp
theorem backG (n c : Int) (h : rightG p s) (hc : 1 ≤ c) (hr : c ≤ roomG p s n) :
    doG p (doG p s ⟨2, n, c⟩).1 ⟨3, n, c⟩ = (advG p s n, true) ∧ doG p (doG p s ⟨2, n, c⟩).1 ⟨4, n, c⟩ = ((doG p s ⟨1, n, c⟩).1, true) := by
  have hR := right_doG ⟨2, n, c⟩ h
  obtain ⟨e1, e2⟩ := take_eqG n c h hc hr
  have h1 := (roomG_iff n c h).1 hr
  have h2 := cost_boundG n c h h1
  have h3 := h.2.2.2.1
  have hh := adv_heldG n h
  have hlv := lvlG n h
  rw [e1]
  rw [e2] at hR ⊢
  have hs := adv_stayG n hR (by dsimp only; rw [adv_atG n h]; exact (up_ge _ _).2)
  unfold doG; rw [if_pos hR, if_pos hR]
  dsimp only at hs ⊢
  rw [hs]
  unfold actG
  simp only [show (3 : Int) ≠ 1 by omega, show (3 : Int) ≠ 2 by omega, show (4 : Int) ≠ 1 by omega, show (4 : Int) ≠ 2 by omega, show (4 : Int) ≠ 3 by omega, if_false, if_true]
  have e : s.held + c - c = (advG p s n).held := by rw [hh]; omega
  have e' : (advG p s n).level + c * p.period - c * p.period = (advG p s n).level := by omega
  rw [e, e']
  rw [if_neg (by rintro (z | z | z | z | z | z) <;> (try simp at z) <;> omega), if_neg (by rintro (z | z | z | z | z | z) <;> (try simp at z) <;> omega)]
  simp
theorem heldG (n : Int) (h : rightG p s) : 0 ≤ s.held ∧ s.held + roomG p s n ≤ p.burst := by
  have h1 := (roomG_iff n (roomG p s n) h).1 (Int.le_refl _)
  have := cost_boundG n _ h h1
  exact ⟨h.2.2.2.1, by omega⟩
theorem unheldG (n c : Int) (h : rightG p s) (hc : s.held < c) : (doG p s ⟨3, n, c⟩).2 = false ∧ (doG p s ⟨4, n, c⟩).2 = false := by
  have h3 := h.2.2.2.1
  have hh := adv_heldG n h
  unfold doG; rw [if_pos h, if_pos h]
  unfold actG
  simp only [show (3 : Int) ≠ 1 by omega, show (3 : Int) ≠ 2 by omega, show (4 : Int) ≠ 1 by omega, show (4 : Int) ≠ 2 by omega, show (4 : Int) ≠ 3 by omega, if_false, if_true]
  rw [if_pos (.inr (.inr (.inr (.inr (.inl (by omega)))))), if_pos (.inr (.inr (.inr (.inr (.inl (by omega))))))]
  simp
theorem freeG (n : Int) (h : rightG p s) (hc : 0 < s.held) :
    doG p s ⟨3, n, s.held⟩ = ({ advG p s n with level := (advG p s n).level - s.held * p.period, held := 0 }, true) ∧ doG p s ⟨4, n, s.held⟩ = ({ advG p s n with held := 0 }, true) := by
  have h3 := h.2.2.2.2.1
  have hh := adv_heldG n h
  have hlv := lvlG n h
  unfold doG; rw [if_pos h, if_pos h]
  unfold actG
  simp only [show (3 : Int) ≠ 1 by omega, show (3 : Int) ≠ 2 by omega, show (4 : Int) ≠ 1 by omega, show (4 : Int) ≠ 2 by omega, show (4 : Int) ≠ 3 by omega, if_false, if_true]
  rw [if_neg (by rintro (z | z | z | z | z | z) <;> (try simp at z) <;> omega), if_neg (by rintro (z | z | z | z | z | z) <;> (try simp at z) <;> omega), hh]
  simp
theorem freeRoomG (n : Int) (h : rightG p s) (hc : 0 < s.held) : roomG p (doG p s ⟨4, n, s.held⟩).1 n ≤ roomG p (doG p s ⟨3, n, s.held⟩).1 n := by
  have hR3 := right_doG ⟨3, n, s.held⟩ h
  have hR4 := right_doG ⟨4, n, s.held⟩ h
  rw [roomG_iff n _ hR3]
  have e := (roomG_iff n _ hR4).1 (Int.le_refl _)
  refine Int.le_trans e ?_
  obtain ⟨e3, e4⟩ := freeG n h hc
  rw [e3] at hR3 ⊢
  rw [e4] at hR4 ⊢
  rw [adv_stayG n hR3 (by dsimp only; rw [adv_atG n h]; exact (up_ge _ _).2), adv_stayG n hR4 (by dsimp only; rw [adv_atG n h]; exact (up_ge _ _).2)]
  dsimp only
  have := lvlG n h
  omega
theorem until_negG (n : Int) (h : rightG p s) : untilG p s n < 0 ↔ 0 < s.held := by
  unfold untilG
  by_cases hh : s.held ≤ 0
  · rw [if_pos ⟨h, hh⟩]
    have := (ceilD_spec (n := (advG p s n).level) (d := p.limit) (by have := h.1.2.2.1; omega)).1
    omega
  · rw [if_neg (fun z => hh z.2)]; omega
theorem freshG (t : Int) (h : rightG p s) (hu : untilG p s t = 0) (h0 : 0 ≤ t) (ht : t ≤ 9007199254740992) (hat : s.at_ ≤ t) : advG p s t = newG p t ∧ roomG p s t = p.burst := by
  have hheld : ¬ 0 < s.held := fun z => by have := (until_negG t h).2 z; omega
  have hz : s.held = 0 := by have := h.2.2.2.1; omega
  have hl := lvlG t h
  unfold untilG at hu
  rw [if_pos ⟨h, by omega⟩] at hu
  have hc := (ceilD_spec (n := (advG p s t).level) (d := p.limit) (by have := h.1.2.2.1; omega))
  rw [hu] at hc
  have hlev : (advG p s t).level = 0 := by omega
  have e : advG p s t = newG p t := by
    have e1 : advG p s t = ⟨(advG p s t).at_, (advG p s t).level, (advG p s t).held, (advG p s t).log⟩ := rfl
    rw [e1, adv_atG t h, adv_heldG t h, adv_logG t h, hlev, hz]
    unfold newG; rw [if_pos h.1, clampT_id h0 ht]
    have : up s.at_ t = t := by unfold up; split <;> omega
    rw [this]
  refine ⟨e, ?_⟩
  unfold roomG; rw [if_pos h, hlev, Int.sub_zero]
  exact Int.mul_ediv_cancel _ (by have := h.1.2.2.2.2.2.2.1; omega)
theorem adv_levelG (t : Int) (h : rightG p s) (h0 : 0 ≤ t) (ht : s.at_ + t ≤ 9007199254740992) : (advG p s (s.at_ + t)).level = up (s.level - t * p.limit) (s.held * p.period) := by
  unfold advG; rw [if_pos h, clampT_id (by have := h.2.1; omega) ht]
  have : up s.at_ (s.at_ + t) = s.at_ + t := by unfold up; split <;> omega
  rw [this]
  have : s.at_ + t - s.at_ = t := by omega
  rw [this]
theorem zeroG (h : rightG p s) : advG p s 0 = s := adv_stayG 0 h (by rw [clampT_id (by omega) (by omega)]; exact h.2.1)
theorem until_thenG (h : rightG p s) (hu : ¬ untilG p s 0 < 0) (ht : s.at_ + untilG p s 0 ≤ 9007199254740992) : untilG p s (s.at_ + untilG p s 0) = 0 ∧ (untilG p s 0 ≠ 0 → 0 < untilG p s (s.at_ + untilG p s 0 - 1)) := by
  have hz : s.held = 0 := by have := (until_negG 0 h).2; have := h.2.2.2.1; omega
  have hl1 := h.1.2.2.1
  have hlv := h.2.2.2.2.2.1
  have e : untilG p s 0 = ceilD s.level p.limit := by unfold untilG; rw [if_pos ⟨h, by omega⟩, zeroG h]
  have hc := ceilD_spec (n := s.level) (d := p.limit) (by omega)
  rw [← e] at hc
  generalize untilG p s 0 = u at *
  rw [hz, Int.zero_mul] at hlv
  constructor
  · unfold untilG
    rw [if_pos ⟨h, by omega⟩, adv_levelG u h (by omega) (by omega), hz, Int.zero_mul]
    refine (ceilD_spec (by omega)).2.2.2 ?_
    unfold up; split <;> omega
  · intro hu0
    have hu1 : 0 < s.level := by
      by_cases z : 0 < s.level
      · exact z
      · exact absurd (hc.2.2.2 (by omega)) hu0
    have hd := hc.2.2.1 hu1
    have e2 : s.at_ + u - 1 = s.at_ + (u - 1) := by omega
    unfold untilG
    rw [if_pos ⟨h, by omega⟩, e2, adv_levelG (u - 1) h (by omega) (by omega), hz, Int.zero_mul]
    have : 0 < up (s.level - (u - 1) * p.limit) 0 := by unfold up; split <;> omega
    have := (ceilD_spec (n := up (s.level - (u - 1) * p.limit) 0) (d := p.limit) (by omega)).2.2.1 this
    omega
theorem retry_okG (c : Int) (h : rightG p s) (hc : 1 ≤ c) (n : Int) : (retryG p s n c).2 = decide (c ≤ p.burst - s.held) := by
  unfold retryG
  by_cases hh : c ≤ p.burst - s.held
  · rw [if_pos ⟨h, hc, hh⟩]; simp [hh]
  · rw [if_neg (fun z => hh z.2.2)]; simp [hh]
theorem retry_leG (c : Int) (h : rightG p s) (hc : 1 ≤ c) : 0 ≤ (retryG p s 0 c).1 ∧ (retryG p s 0 c).1 ≤ c * p.period := by
  have hl1 := h.1.2.2.1
  have hp := h.1.2.2.2.2.2.2.1
  have hcp : 0 ≤ c * p.period := mul0 (by omega) (by omega)
  unfold retryG
  split
  · rw [zeroG h]
    dsimp only
    have hcd := ceilD_spec (n := s.level - (p.burst - c) * p.period) (d := p.limit) (by omega)
    refine ⟨hcd.1, ?_⟩
    by_cases z : 0 < s.level - (p.burst - c) * p.period
    · have := hcd.2.2.1 z
      have h5 : (ceilD (s.level - (p.burst - c) * p.period) p.limit - 1) * 1 ≤ (ceilD (s.level - (p.burst - c) * p.period) p.limit - 1) * p.limit := Int.mul_le_mul_of_nonneg_left (by omega) (by omega)
      have h6 := h.2.2.2.2.2.2.1
      have hbb := Int.sub_mul p.burst c p.period
      omega
    · rw [hcd.2.2.2 (by omega)]; exact hcp
  · exact ⟨by decide, hcp⟩
theorem retry_thenG (c : Int) (h : rightG p s) (hc : 1 ≤ c) (hr : c ≤ p.burst - s.held) (ht : s.at_ + (retryG p s 0 c).1 ≤ 9007199254740992) :
    (doG p s ⟨1, s.at_ + (retryG p s 0 c).1, c⟩).2 = true ∧ (0 < (retryG p s 0 c).1 → (doG p s ⟨1, s.at_ + (retryG p s 0 c).1 - 1, c⟩).2 = false) := by
  have hl1 := h.1.2.2.1
  have hp := h.1.2.2.2.2.2.2.1
  have e : (retryG p s 0 c).1 = ceilD (s.level - (p.burst - c) * p.period) p.limit := by unfold retryG; rw [if_pos ⟨h, hc, hr⟩, zeroG h]
  have hcd := ceilD_spec (n := s.level - (p.burst - c) * p.period) (d := p.limit) (by omega)
  rw [← e] at hcd
  generalize (retryG p s 0 c).1 = r at *
  have hm : c * p.period ≤ (p.burst - s.held) * p.period := mulr hr (by omega)
  rw [Int.sub_mul] at hm hcd
  constructor
  · rw [(hold_takeG _ c h hc).2, decide_eq_true_eq, roomG_iff _ c h, adv_levelG r h (by omega) ht]
    unfold up; split <;> omega
  · intro hr0
    have hu1 : 0 < s.level - (p.burst * p.period - c * p.period) := by
      by_cases z : 0 < s.level - (p.burst * p.period - c * p.period)
      · exact z
      · have := hcd.2.2.2 (by omega); omega
    have hd := hcd.2.2.1 hu1
    have e2 : s.at_ + r - 1 = s.at_ + (r - 1) := by omega
    rw [(hold_takeG _ c h hc).2, decide_eq_false_iff_not, roomG_iff _ c h, e2, adv_levelG (r - 1) h (by omega) (by omega)]
    have := up_ge (s.level - (r - 1) * p.limit) (s.held * p.period)
    omega
theorem new_allG (t : Int) (h : okG p) : roomG p (newG p t) t = p.burst ∧ (newG p t).held = 0 ∧ untilG p (newG p t) t = 0 ∧ 1 ≤ p.burst := by
  have hR := right_newG t h
  have e : newG p t = ⟨clampT t, 0, 0, []⟩ := by unfold newG; rw [if_pos h]
  have hs := adv_stayG t hR (by rw [e]; exact Int.le_refl _)
  refine ⟨?_, by rw [e], ?_, h.2.2.2.2.1⟩
  · unfold roomG; rw [if_pos hR, hs, e]
    dsimp only
    rw [Int.sub_zero]
    exact Int.mul_ediv_cancel _ (by have := h.2.2.2.2.2.2.1; omega)
  · unfold untilG; rw [if_pos ⟨hR, by rw [e]; exact Int.le_refl _⟩, hs, e]
    exact (ceilD_spec (by have := h.2.2.1; omega)).2.2.2 (by dsimp only; omega)
end G
end Go.Proofs.Ythinbjknkjpdjaa.Pu

namespace Go.Proofs.Ythinbjknkjpdjaa.Pu
set_option linter.unusedVariables false
set_option linter.unusedSimpArgs false
/-! ### counter -/
section C
variable {p : Pol} {s : St}
theorem lvlC (n : Int) (h : rightC p s) : 0 ≤ (advC p s n).level ∧ (advC p s n).level ≤ s.level := by
  unfold advC; rw [if_pos h]; dsimp only
  have := h.2.2.2.2.1
  split <;> omega
theorem adv_heldC (n : Int) (h : rightC p s) : (advC p s n).held = s.held := by unfold advC; rw [if_pos h]
theorem adv_atC (n : Int) (h : rightC p s) : (advC p s n).at_ = up s.at_ (clampT n) := by unfold advC; rw [if_pos h]
theorem adv_logC (n : Int) (h : rightC p s) : (advC p s n).log = [] := by unfold advC; rw [if_pos h]
theorem right_advC (n : Int) (h : rightC p s) : rightC p (advC p s n) := by
  have hl := lvlC n h
  have := up_rng s.at_ n h.2.1 h.2.2.1
  have e := adv_heldC n h
  obtain ⟨hok, r1, r2, r3, r4, r5, r6, r7, r8⟩ := h
  refine ⟨hok, by rw [adv_atC n ⟨hok, r1, r2, r3, r4, r5, r6, r7, r8⟩]; exact this.1, by rw [adv_atC n ⟨hok, r1, r2, r3, r4, r5, r6, r7, r8⟩]; exact this.2, by omega, hl.1, by omega, by omega, by omega, adv_logC n ⟨hok, r1, r2, r3, r4, r5, r6, r7, r8⟩⟩
theorem right_newC (t : Int) (h : okC p) : rightC p (newC p t) := by
  unfold newC; rw [if_pos h]
  have hcl := clampT_range t
  have h' := h
  obtain ⟨q0, q1, q2, q3, q4, q5, q6⟩ := h
  exact ⟨h', hcl.1, hcl.2, by dsimp only; omega, by dsimp only; omega, by dsimp only; omega, by dsimp only; omega, by dsimp only; omega, rfl⟩
theorem adv_stayC (n : Int) (h : rightC p s) (hn : clampT n ≤ s.at_) : advC p s n = s := by
  unfold advC; rw [if_pos h]
  have e : up s.at_ (clampT n) = s.at_ := by unfold up; split <;> omega
  rw [e, if_pos rfl]
  obtain ⟨a, b, c, d⟩ := s
  have := h.2.2.2.2.2.2.2.2
  simp at this ⊢; exact this
theorem right_doC (a : Ac) (h : rightC p s) : rightC p (doC p s a).1 := by
  unfold doC; rw [if_pos h]
  have hr := right_advC a.now h
  have hh := adv_heldC a.now h
  generalize advC p s a.now = t at *
  obtain ⟨hok, r1, r2, r3, r4, r5, r6, r7, r8⟩ := hr
  repeat' split
  · exact h
  all_goals first | exact h | exact ⟨hok, r1, r2, by dsimp only; omega, by dsimp only; omega, by dsimp only; omega, by dsimp only; omega, by dsimp only; omega, r8⟩
theorem do_noC (a : Ac) (h : rightC p s) (hd : (doC p s a).2 = false) : (doC p s a).1 = s := by
  unfold doC at hd ⊢; rw [if_pos h] at hd ⊢
  repeat' split at hd
  all_goals first | (cases hd; done) | skip
  · rename_i x; rw [if_pos x]
  · rename_i x1 x2 x3 x4 x5; rw [if_neg x1, if_neg x2, if_neg x3, if_neg x4, if_neg x5]
theorem roomC_eq (n : Int) (h : rightC p s) : roomC p s n = p.limit - s.held - (advC p s n).level := by unfold roomC; rw [if_pos h]
theorem take_eqC (n c : Int) (h : rightC p s) (hc : 1 ≤ c) (hr : c ≤ roomC p s n) : doC p s ⟨1, n, c⟩ = ({ advC p s n with level := (advC p s n).level + c }, true) ∧ doC p s ⟨2, n, c⟩ = ({ advC p s n with held := s.held + c }, true) := by
  rw [roomC_eq n h] at hr
  unfold doC; rw [if_pos h, if_pos h]
  dsimp only
  rw [if_neg (by omega), if_pos ⟨rfl, hr⟩, if_neg (by omega), if_neg (by omega), if_pos ⟨rfl, hr⟩]
  exact ⟨rfl, rfl⟩
theorem hold_takeC (n c : Int) (h : rightC p s) (hc : 1 ≤ c) : (doC p s ⟨2, n, c⟩).2 = decide (c ≤ roomC p s n) ∧ (doC p s ⟨1, n, c⟩).2 = decide (c ≤ roomC p s n) := by
  by_cases hh : c ≤ roomC p s n
  · obtain ⟨e1, e2⟩ := take_eqC n c h hc hh
    rw [e1, e2]; simp [hh]
  · have hh' := hh
    rw [roomC_eq n h] at hh'
    unfold doC; rw [if_pos h, if_pos h]
    dsimp only
    rw [if_neg (by omega), if_neg (by omega), if_neg (by omega), if_neg (by omega), if_neg (by omega), if_neg (by omega), if_neg (by omega), if_neg (by omega), if_neg (by omega), if_neg (by omega)]
    simp [hh]
theorem backC (n c : Int) (h : rightC p s) (hc : 1 ≤ c) (hr : c ≤ roomC p s n) :
    doC p (doC p s ⟨2, n, c⟩).1 ⟨3, n, c⟩ = (advC p s n, true) ∧ doC p (doC p s ⟨2, n, c⟩).1 ⟨4, n, c⟩ = ((doC p s ⟨1, n, c⟩).1, true) := by
  have hR := right_doC ⟨2, n, c⟩ h
  obtain ⟨e1, e2⟩ := take_eqC n c h hc hr
  have h3 := h.2.2.2.1
  have hh := adv_heldC n h
  rw [e1]
  rw [e2] at hR ⊢
  have hs := adv_stayC n hR (by dsimp only; rw [adv_atC n h]; exact (up_ge _ _).2)
  unfold doC; rw [if_pos hR, if_pos hR]
  dsimp only at hs ⊢
  rw [hs]
  dsimp only
  rw [if_neg (by omega), if_neg (by omega), if_neg (by omega), if_pos (by omega), if_neg (by omega), if_neg (by omega), if_neg (by omega), if_neg (by omega), if_pos (by omega)]
  have e : s.held + c - c = (advC p s n).held := by rw [hh]; omega
  rw [e]
  exact ⟨rfl, rfl⟩
theorem heldC (n : Int) (h : rightC p s) : 0 ≤ s.held ∧ s.held + roomC p s n ≤ p.limit := by
  rw [roomC_eq n h]
  have := lvlC n h
  exact ⟨h.2.2.2.1, by omega⟩
theorem unheldC (n c : Int) (h : rightC p s) (hc : s.held < c) : (doC p s ⟨3, n, c⟩).2 = false ∧ (doC p s ⟨4, n, c⟩).2 = false := by
  have h3 := h.2.2.2.1
  unfold doC; rw [if_pos h, if_pos h]
  dsimp only
  rw [if_neg (by omega), if_neg (by omega), if_neg (by omega), if_neg (by omega), if_neg (by omega), if_neg (by omega), if_neg (by omega), if_neg (by omega), if_neg (by omega), if_neg (by omega)]
  exact ⟨rfl, rfl⟩
theorem freeC (n : Int) (h : rightC p s) (hc : 0 < s.held) :
    doC p s ⟨3, n, s.held⟩ = ({ advC p s n with held := 0 }, true) ∧ doC p s ⟨4, n, s.held⟩ = ({ advC p s n with held := 0, level := (advC p s n).level + s.held }, true) := by
  unfold doC; rw [if_pos h, if_pos h]
  dsimp only
  rw [if_neg (by omega), if_neg (by omega), if_neg (by omega), if_pos (by omega), if_neg (by omega), if_neg (by omega), if_neg (by omega), if_neg (by omega), if_pos (by omega), Int.sub_self]
  exact ⟨rfl, rfl⟩
theorem freeRoomC (n : Int) (h : rightC p s) (hc : 0 < s.held) : roomC p (doC p s ⟨4, n, s.held⟩).1 n ≤ roomC p (doC p s ⟨3, n, s.held⟩).1 n := by
  have hR3 := right_doC ⟨3, n, s.held⟩ h
  have hR4 := right_doC ⟨4, n, s.held⟩ h
  obtain ⟨e3, e4⟩ := freeC n h hc
  rw [e3] at hR3 ⊢
  rw [e4] at hR4 ⊢
  rw [roomC_eq n hR3, roomC_eq n hR4]
  rw [adv_stayC n hR3 (by dsimp only; rw [adv_atC n h]; exact (up_ge _ _).2), adv_stayC n hR4 (by dsimp only; rw [adv_atC n h]; exact (up_ge _ _).2)]
  dsimp only
  omega
theorem next_pos (h : okC p) (t : Int) : 0 < p.period - t % p.period ∧ p.period - t % p.period ≤ p.period := by
  have hd := h.2.2.1
  have h1 := Int.emod_nonneg t (show p.period ≠ 0 by omega)
  have h2 := Int.emod_lt_of_pos t (show 0 < p.period by omega)
  omega
theorem next_div {d t : Int} (hd : 0 < d) : (t + (d - t % d)) / d = t / d + 1 ∧ ∀ k, 0 ≤ k → k < d - t % d → (t + k) / d = t / d := by
  have h1 := Int.mul_ediv_add_emod t d
  have h2 := Int.emod_nonneg t (Int.ne_of_gt hd)
  have h3 := Int.emod_lt_of_pos t hd
  constructor
  · have : t + (d - t % d) = d * (t / d + 1) := by rw [Int.mul_add, Int.mul_one]; omega
    rw [this, Int.mul_ediv_cancel_left _ (Int.ne_of_gt hd)]
  · intro k k0 k1
    have : t + k = (t % d + k) + d * (t / d) := by omega
    rw [this, Int.add_mul_ediv_left _ _ (Int.ne_of_gt hd), Int.ediv_eq_zero_of_lt (by omega) (by omega)]
    omega
theorem until_negC (n : Int) (h : rightC p s) : untilC p s n < 0 ↔ 0 < s.held := by
  unfold untilC
  by_cases hh : s.held ≤ 0
  · rw [if_pos ⟨h, hh⟩]
    have := next_pos h.1 (advC p s n).at_
    split <;> omega
  · rw [if_neg (fun z => hh z.2)]; omega
theorem freshC (t : Int) (h : rightC p s) (hu : untilC p s t = 0) (h0 : 0 ≤ t) (ht : t ≤ 9007199254740992) (hat : s.at_ ≤ t) : advC p s t = newC p t ∧ roomC p s t = p.limit := by
  have hheld : ¬ 0 < s.held := fun z => by have := (until_negC t h).2 z; omega
  have hz : s.held = 0 := by have := h.2.2.2.1; omega
  have hl := lvlC t h
  have hn := next_pos h.1 (advC p s t).at_
  unfold untilC at hu
  rw [if_pos ⟨h, by omega⟩] at hu
  have hlev : (advC p s t).level = 0 := by split at hu <;> omega
  have e : advC p s t = newC p t := by
    have e1 : advC p s t = ⟨(advC p s t).at_, (advC p s t).level, (advC p s t).held, (advC p s t).log⟩ := rfl
    rw [e1, adv_atC t h, adv_heldC t h, adv_logC t h, hlev, hz]
    unfold newC; rw [if_pos h.1, clampT_id h0 ht]
    have : up s.at_ t = t := by unfold up; split <;> omega
    rw [this]
  refine ⟨e, ?_⟩
  rw [roomC_eq t h, hlev, hz]; omega
theorem adv_levelC (t : Int) (h : rightC p s) (h0 : 0 ≤ t) (ht : s.at_ + t ≤ 9007199254740992) : (advC p s (s.at_ + t)).level = if (s.at_ + t) / p.period = s.at_ / p.period then s.level else 0 := by
  unfold advC; rw [if_pos h, clampT_id (by have := h.2.1; omega) ht]
  have : up s.at_ (s.at_ + t) = s.at_ + t := by unfold up; split <;> omega
  rw [this]
theorem zeroC (h : rightC p s) : advC p s 0 = s := adv_stayC 0 h (by rw [clampT_id (by omega) (by omega)]; exact h.2.1)
theorem until_thenC (h : rightC p s) (hu : ¬ untilC p s 0 < 0) (ht : s.at_ + untilC p s 0 ≤ 9007199254740992) : untilC p s (s.at_ + untilC p s 0) = 0 ∧ (untilC p s 0 ≠ 0 → 0 < untilC p s (s.at_ + untilC p s 0 - 1)) := by
  have hz : s.held = 0 := by have := (until_negC 0 h).2; have := h.2.2.2.1; omega
  have hd : 0 < p.period := by have := h.1.2.2.1; omega
  have e : untilC p s 0 = if 0 < s.level then p.period - s.at_ % p.period else 0 := by unfold untilC; rw [if_pos ⟨h, by omega⟩, zeroC h]
  have hl := h.2.2.2.2.1
  have hnp := next_pos h.1 s.at_
  have hnd := next_div (t := s.at_) hd
  by_cases hv : 0 < s.level
  · rw [if_pos hv] at e
    rw [e] at ht ⊢
    constructor
    · unfold untilC
      rw [if_pos ⟨h, by omega⟩, adv_levelC _ h (by omega) ht, hnd.1, if_neg (by omega)]
    · intro _
      have e2 : s.at_ + (p.period - s.at_ % p.period) - 1 = s.at_ + (p.period - s.at_ % p.period - 1) := by omega
      unfold untilC
      rw [if_pos ⟨h, by omega⟩, e2, adv_levelC _ h (by omega) (by omega), hnd.2 _ (by omega) (by omega), if_pos rfl, if_pos hv]
      exact (next_pos h.1 _).1
  · rw [if_neg hv] at e
    rw [e]
    refine ⟨?_, fun z => absurd rfl z⟩
    have : (advC p s (s.at_ + 0)).level = 0 := by rw [adv_levelC 0 h (by omega) (by omega)]; split <;> omega
    unfold untilC
    rw [if_pos ⟨h, by omega⟩, this]; rfl
theorem retry_okC (c : Int) (h : rightC p s) (hc : 1 ≤ c) (n : Int) : (retryC p s n c).2 = decide (c ≤ p.limit - s.held) := by
  unfold retryC
  by_cases hh : c ≤ p.limit - s.held
  · rw [if_pos ⟨h, hc, hh⟩]; simp [hh]
  · rw [if_neg (fun z => hh z.2.2)]; simp [hh]
theorem retry_leC (c : Int) (h : rightC p s) (hc : 1 ≤ c) : 0 ≤ (retryC p s 0 c).1 ∧ (retryC p s 0 c).1 ≤ c * p.period := by
  have hd : 0 < p.period := by have := h.1.2.2.1; omega
  have hcp : 1 * p.period ≤ c * p.period := mulr (by omega) (by omega)
  have := next_pos h.1 (advC p s 0).at_
  unfold retryC
  split
  · dsimp only; split <;> omega
  · dsimp only; omega
theorem retry_thenC (c : Int) (h : rightC p s) (hc : 1 ≤ c) (hr : c ≤ p.limit - s.held) (ht : s.at_ + (retryC p s 0 c).1 ≤ 9007199254740992) :
    (doC p s ⟨1, s.at_ + (retryC p s 0 c).1, c⟩).2 = true ∧ (0 < (retryC p s 0 c).1 → (doC p s ⟨1, s.at_ + (retryC p s 0 c).1 - 1, c⟩).2 = false) := by
  have hd : 0 < p.period := by have := h.1.2.2.1; omega
  have e : (retryC p s 0 c).1 = if p.limit - s.held - s.level < c then p.period - s.at_ % p.period else 0 := by unfold retryC; rw [if_pos ⟨h, hc, hr⟩, zeroC h]
  have hnp := next_pos h.1 s.at_
  have hnd := next_div (t := s.at_) hd
  by_cases hv : p.limit - s.held - s.level < c
  · rw [if_pos hv] at e
    rw [e] at ht ⊢
    constructor
    · rw [(hold_takeC _ c h hc).2, decide_eq_true_eq, roomC_eq _ h, adv_levelC _ h (by omega) ht, hnd.1, if_neg (by omega)]; omega
    · intro _
      have e2 : s.at_ + (p.period - s.at_ % p.period) - 1 = s.at_ + (p.period - s.at_ % p.period - 1) := by omega
      rw [(hold_takeC _ c h hc).2, decide_eq_false_iff_not, roomC_eq _ h, e2, adv_levelC _ h (by omega) (by omega), hnd.2 _ (by omega) (by omega), if_pos rfl]; omega
  · rw [if_neg hv] at e
    rw [e]
    refine ⟨?_, fun z => by omega⟩
    rw [(hold_takeC _ c h hc).2, decide_eq_true_eq, roomC_eq _ h, adv_levelC _ h (by omega) (by have := h.2.2.1; omega), Int.add_zero, if_pos rfl]; omega
theorem new_allC (t : Int) (h : okC p) : roomC p (newC p t) t = p.limit ∧ (newC p t).held = 0 ∧ untilC p (newC p t) t = 0 ∧ 1 ≤ p.limit := by
  have hR := right_newC t h
  have e : newC p t = ⟨clampT t, 0, 0, []⟩ := by unfold newC; rw [if_pos h]
  have hs := adv_stayC t hR (by rw [e]; exact Int.le_refl _)
  refine ⟨?_, by rw [e], ?_, h.2.1⟩
  · rw [roomC_eq t hR, hs, e]; dsimp only; omega
  · unfold untilC; rw [if_pos ⟨hR, by rw [e]; exact Int.le_refl _⟩, hs, e]; rfl
end C
end Go.Proofs.Ythinbjknkjpdjaa.Pu

namespace Go.Proofs.Ythinbjknkjpdjaa.Pu
set_option linter.unusedVariables false
set_option linter.unusedSimpArgs false
/-! ### window -/
theorem risenW {lim a a' : Int} (ha : a ≤ a') : ∀ {was was' : Int} {L : List (Int × Int)}, was' ≤ was → risen lim a was L → risen lim a' was' L
  | _, _, [], _, _ => trivial
  | was, was', e :: l, hw, h => ⟨by have := h.1; omega, by have := h.2.1; omega, h.2.2.1, h.2.2.2.1, risenW ha (Int.le_refl _) h.2.2.2.2⟩
theorem risenA {lim a : Int} : ∀ {was : Int} {L : List (Int × Int)}, risen lim a was L → ∀ e ∈ L, 1 ≤ e.2 ∧ e.2 ≤ lim ∧ was ≤ e.1 ∧ e.1 ≤ a
  | _, [], _, _, he => by cases he
  | was, f :: l, h, e, he => by
    rcases List.mem_cons.1 he with rfl | he
    · exact ⟨h.2.2.1, h.2.2.2.1, h.1, h.2.1⟩
    · have := risenA h.2.2.2.2 e he
      have := h.1
      omega
theorem risen_live {lim a t d : Int} : ∀ {was : Int} {L : List (Int × Int)}, risen lim a was L → risen lim a was (live d t L)
  | _, [], _ => trivial
  | was, e :: l, h => by
    unfold live
    split
    · exact h
    · exact risenW (Int.le_refl _) h.1 (risen_live h.2.2.2.2)
theorem live_liveAt {d t t' : Int} (ht : t ≤ t') : ∀ (L : List (Int × Int)), live d t' (live d t L) = live d t' L
  | [] => rfl
  | e :: l => by
    rw [live]
    split
    · rfl
    · rw [live_liveAt ht l]
      conv => rhs; rw [live]
      rw [if_neg (by omega)]
theorem live_allL {lim a t d : Int} : ∀ {was : Int} {L : List (Int × Int)}, risen lim a was L → ∀ e ∈ live d t L, t - e.1 < d
  | _, [], _, e, he => by cases he
  | was, f :: l, h, e, he => by
    unfold live at he
    split at he
    · rename_i hf
      rcases List.mem_cons.1 he with rfl | he
      · exact hf
      · have := (risenA h.2.2.2.2 e he).2.2.1; omega
    · exact live_allL h.2.2.2.2 e he
theorem live_id {t d : Int} : ∀ {L : List (Int × Int)}, (∀ e ∈ L, t - e.1 < d) → live d t L = L
  | [], _ => rfl
  | f :: l, h => by rw [live, if_pos (h f List.mem_cons_self)]
theorem live_none {t d : Int} : ∀ {L : List (Int × Int)}, (∀ e ∈ L, ¬ t - e.1 < d) → live d t L = []
  | [], _ => rfl
  | f :: l, h => by rw [live, if_neg (h f List.mem_cons_self), live_none (fun e he => h e (List.mem_cons_of_mem _ he))]
theorem live_len {t d : Int} : ∀ (L : List (Int × Int)), (live d t L).length ≤ L.length
  | [] => Nat.le_refl _
  | f :: l => by rw [live]; split; exact Nat.le_refl _; have := live_len (t := t) (d := d) l; simp; omega
theorem sum_pos {L : List (Int × Int)} (h : ∀ e ∈ L, 1 ≤ e.2) : (L.length : Int) ≤ sumL L := by
  induction L with
  | nil => exact Int.le_refl _
  | cons e l ih =>
    have := h e List.mem_cons_self
    have := ih (fun e he => h e (List.mem_cons_of_mem _ he))
    rw [sumL]; simp; omega
theorem live_le {t d : Int} : ∀ {L : List (Int × Int)}, (∀ e ∈ L, 1 ≤ e.2) → sumL (live d t L) ≤ sumL L
  | [], _ => Int.le_refl _
  | f :: l, h => by
    rw [live]; split; exact Int.le_refl _
    have := live_le (t := t) (d := d) (fun e he => h e (List.mem_cons_of_mem _ he))
    have := h f List.mem_cons_self
    rw [sumL]; omega
theorem note_sum (full : Bool) (a c : Int) : ∀ (L : List (Int × Int)), sumL (noteL full a c L) = sumL L + c
  | [] => by simp [noteL, sumL]
  | [e] => by unfold noteL; split <;> simp [sumL]
  | e :: f :: l => by rw [noteL, sumL, note_sum full a c (f :: l), show sumL (e :: f :: l) = e.2 + sumL (f :: l) from rfl]; omega
theorem note_len (full : Bool) (a c : Int) : ∀ (L : List (Int × Int)), (noteL full a c L).length ≤ L.length + 1 ∧ (full = true → L ≠ [] → (noteL full a c L).length = L.length)
  | [] => by simp [noteL]
  | [e] => by
    unfold noteL; split
    · simp
    · rename_i h; simp at h ⊢; exact h.2
  | e :: f :: l => by
    have := note_len full a c (f :: l)
    rw [noteL]
    simp only [List.length_cons] at this ⊢
    refine ⟨by omega, fun hf _ => ?_⟩
    have := this.2 hf (by simp)
    omega
theorem note_mem (full : Bool) (a c : Int) : ∀ (L : List (Int × Int)), ∀ e ∈ noteL full a c L, e ∈ L ∨ e.1 = a
  | [], e, he => by simp [noteL] at he; subst he; right; rfl
  | [f], e, he => by
    unfold noteL at he; split at he
    · simp at he; subst he; right; rfl
    · simp at he; rcases he with rfl | rfl
      · left; simp
      · right; rfl
  | f :: g :: l, e, he => by
    rw [noteL] at he
    rcases List.mem_cons.1 he with rfl | he
    · left; simp
    · rcases note_mem full a c (g :: l) e he with h | h
      · left; exact List.mem_cons_of_mem _ h
      · right; exact h
theorem note_risen (full : Bool) {lim a c : Int} (hc : 1 ≤ c) : ∀ {was : Int} {L : List (Int × Int)}, was ≤ a → risen lim a was L → sumL L + c ≤ lim → risen lim a was (noteL full a c L)
  | was, [], hw, _, hs => by unfold noteL; rw [sumL] at hs; exact ⟨hw, Int.le_refl _, hc, by omega, trivial⟩
  | was, [e], hw, h, hs => by
    rw [sumL, sumL] at hs
    unfold noteL; split
    · exact ⟨hw, Int.le_refl _, by have := h.2.2.1; dsimp only; omega, by dsimp only; omega, trivial⟩
    · exact ⟨h.1, h.2.1, h.2.2.1, h.2.2.2.1, h.2.1, Int.le_refl _, hc, by have := h.2.2.1; dsimp only; omega, trivial⟩
  | was, e :: f :: l, hw, h, hs => by
    rw [noteL]
    refine ⟨h.1, h.2.1, h.2.2.1, h.2.2.2.1, note_risen full hc h.2.1 h.2.2.2.2 ?_⟩
    have := h.2.2.1
    rw [sumL] at hs; omega
theorem last_spec {lim a : Int} : ∀ {was : Int} {L : List (Int × Int)}, risen lim a was L → L ≠ [] → (∀ e ∈ L, e.1 ≤ lastT L) ∧ (∃ e ∈ L, e.1 = lastT L)
  | _, [], _, hn => absurd rfl hn
  | was, [e], h, _ => ⟨fun f hf => by simp at hf; subst hf; exact Int.le_refl _, e, by simp, rfl⟩
  | was, e :: f :: l, h, _ => by
    obtain ⟨h1, g, h2, h3⟩ := last_spec h.2.2.2.2 (by simp)
    rw [lastT]
    refine ⟨fun x hx => ?_, g, List.mem_cons_of_mem _ h2, h3⟩
    rcases List.mem_cons.1 hx with rfl | hx
    · have := h1 f (by simp)
      have := h.2.2.2.2.1
      omega
    · exact h1 x hx
theorem gone_ge {lim a at_ d : Int} : ∀ {was over : Int} {L : List (Int × Int)}, risen lim a was L → 0 < over → over ≤ sumL L → was + d - at_ ≤ goneT d at_ over L
  | _, _, [], _, h0, h1 => by rw [sumL] at h1; omega
  | was, over, e :: l, h, h0, h1 => by
    rw [goneT, if_neg (by omega)]
    have := h.1
    split
    · omega
    · rw [sumL] at h1
      have := gone_ge (at_ := at_) (d := d) h.2.2.2.2 (show 0 < over - e.2 by omega) (by omega)
      omega
theorem gone_le {lim a at_ d : Int} : ∀ {was over : Int} {L : List (Int × Int)}, risen lim a was L → 0 < over → over ≤ sumL L → goneT d at_ over L ≤ a + d - at_
  | _, _, [], _, h0, h1 => by rw [sumL] at h1; omega
  | was, over, e :: l, h, h0, h1 => by
    rw [goneT, if_neg (by omega)]
    have := h.2.1
    split
    · omega
    · rw [sumL] at h1
      exact gone_le (at_ := at_) (d := d) h.2.2.2.2 (show 0 < over - e.2 by omega) (by omega)
theorem gone_then {lim a at_ d : Int} : ∀ {was over : Int} {L : List (Int × Int)}, risen lim a was L → 0 < over → over ≤ sumL L →
    sumL (live d (at_ + goneT d at_ over L) L) ≤ sumL L - over ∧ sumL L - over < sumL (live d (at_ + goneT d at_ over L - 1) L)
  | _, _, [], _, h0, h1 => by rw [sumL] at h1; omega
  | was, over, e :: l, h, h0, h1 => by
    have hp := fun x hx => (risenA h.2.2.2.2 x hx).1
    have he2 := h.2.2.1
    rw [goneT, if_neg (by omega)]
    by_cases z : over - e.2 ≤ 0
    · rw [if_pos z]
      constructor
      · rw [live, if_neg (by omega)]
        have := live_le (t := at_ + (e.1 + d - at_)) (d := d) hp
        rw [sumL]; omega
      · rw [live, if_pos (by omega)]; omega
    · rw [if_neg z]
      rw [sumL] at h1
      have hg := gone_ge (at_ := at_) (d := d) h.2.2.2.2 (show 0 < over - e.2 by omega) (by omega)
      obtain ⟨i1, i2⟩ := gone_then (at_ := at_) (d := d) h.2.2.2.2 (show 0 < over - e.2 by omega) (by omega)
      generalize goneT d at_ (over - e.2) l = r at *
      constructor
      · rw [live, if_neg (by omega), sumL]; omega
      · rw [live]
        split
        · rw [sumL]; omega
        · rw [sumL]; omega
section L
variable {p : Pol} {s : St}
theorem posL (h : rightL p s) : ∀ e ∈ s.log, 1 ≤ e.2 := fun e he => (risenA h.2.2.2.2.2.2.1 e he).1
theorem adv_heldL (n : Int) (h : rightL p s) : (advL p s n).held = s.held := by unfold advL; rw [if_pos h]
theorem adv_atL (n : Int) (h : rightL p s) : (advL p s n).at_ = up s.at_ (clampT n) := by unfold advL; rw [if_pos h]
theorem adv_logL (n : Int) (h : rightL p s) : (advL p s n).log = live p.period (up s.at_ (clampT n)) s.log := by unfold advL; rw [if_pos h]
theorem adv_lvlL (n : Int) (h : rightL p s) : (advL p s n).level = 0 := by unfold advL; rw [if_pos h]
theorem adv_sumL (n : Int) (h : rightL p s) : sumL (advL p s n).log ≤ sumL s.log := by rw [adv_logL n h]; exact live_le (posL h)
theorem right_advL (n : Int) (h : rightL p s) : rightL p (advL p s n) := by
  have h' := h
  have := up_rng s.at_ n h.2.1 h.2.2.1
  have hs := adv_sumL n h
  refine ⟨h.1, by rw [adv_atL n h]; exact this.1, by rw [adv_atL n h]; exact this.2, by rw [adv_heldL n h]; exact h.2.2.2.1, by rw [adv_heldL n h]; exact h.2.2.2.2.1, adv_lvlL n h, ?_, ?_, ?_⟩
  · rw [adv_logL n h, adv_atL n h]; exact risen_live (risenW (up_ge _ _).1 (Int.le_refl _) h.2.2.2.2.2.2.1)
  · rw [adv_logL n h]
    have := live_len (t := up s.at_ (clampT n)) (d := p.period) s.log
    have := h.2.2.2.2.2.2.2.1
    omega
  · rw [adv_heldL n h]
    have := h.2.2.2.2.2.2.2.2
    omega
theorem right_newL (t : Int) (h : okL p) : rightL p (newL p t) := by
  unfold newL; rw [if_pos h]
  have hcl := clampT_range t
  have h' := h
  obtain ⟨q0, q1, q2, q3, q4, q5, q6, q7⟩ := h
  exact ⟨h', hcl.1, hcl.2, by dsimp only; omega, by dsimp only; omega, rfl, trivial, by dsimp only [List.length]; omega, by dsimp only [sumL]; omega⟩
theorem adv_stayL (n : Int) (h : rightL p s) (hn : clampT n ≤ s.at_) (hl : ∀ e ∈ s.log, s.at_ - e.1 < p.period) : advL p s n = s := by
  unfold advL; rw [if_pos h]
  have e : up s.at_ (clampT n) = s.at_ := by unfold up; split <;> omega
  rw [e, live_id hl]
  obtain ⟨a, b, c, d⟩ := s
  have := h.2.2.2.2.2.1
  simp at this ⊢; exact this.symm
theorem right_noted {t : St} (c : Int) (h : rightL p t) (hc : 1 ≤ c) (hs : t.held + sumL t.log + c ≤ p.limit) : rightL p (noted p t c) := by
  obtain ⟨hok, r1, r2, r3, r4, r5, r6, r7, r8⟩ := h
  refine ⟨hok, r1, r2, r3, r4, r5, ?_, ?_, ?_⟩
  · exact note_risen _ hc (by have := r1; exact r1) r6 (by omega)
  · have hl := note_len (decide ((t.log.length : Int) = p.cap)) t.at_ c t.log
    unfold noted
    dsimp only
    by_cases z : (t.log.length : Int) = p.cap
    · rw [hl.2 (by simp [z]) (by intro z'; rw [z'] at z; have := hok.2.2.2.1; simp at z; omega)]; exact r7
    · omega
  · unfold noted
    dsimp only
    rw [note_sum]; omega
theorem right_doL (a : Ac) (h : rightL p s) : rightL p (doL p s a).1 := by
  unfold doL; rw [if_pos h]
  have hr := right_advL a.now h
  have hh := adv_heldL a.now h
  have hs := adv_sumL a.now h
  have hp := sum_pos (posL hr)
  generalize advL p s a.now = t at *
  have hr' := hr
  obtain ⟨hok, r1, r2, r3, r4, r5, r6, r7, r8⟩ := hr
  have h8 := h.2.2.2.2.2.2.2.2
  split
  · exact right_noted _ hr' (by omega) (by omega)
  split
  · exact ⟨hok, r1, r2, by dsimp only; omega, by dsimp only; omega, r5, r6, r7, by dsimp only; omega⟩
  split
  · exact ⟨hok, r1, r2, by dsimp only; omega, by dsimp only; omega, r5, r6, r7, by dsimp only; omega⟩
  split
  · refine right_noted _ ⟨hok, r1, r2, by dsimp only; omega, by dsimp only; omega, r5, r6, r7, by dsimp only; omega⟩ (by omega) (by dsimp only; omega)
  · exact h
theorem do_noL (a : Ac) (h : rightL p s) (hd : (doL p s a).2 = false) : (doL p s a).1 = s := by
  unfold doL at hd ⊢; rw [if_pos h] at hd ⊢
  split at hd
  · cases hd
  rename_i x1
  split at hd
  · cases hd
  rename_i x2
  split at hd
  · cases hd
  rename_i x3
  split at hd
  · cases hd
  rename_i x4
  rw [if_neg x1, if_neg x2, if_neg x3, if_neg x4]
theorem roomL_eq (n : Int) (h : rightL p s) : roomL p s n = p.limit - s.held - sumL (advL p s n).log := by unfold roomL; rw [if_pos h]
theorem take_eqL (n c : Int) (h : rightL p s) (hc : 1 ≤ c) (hr : c ≤ roomL p s n) : doL p s ⟨1, n, c⟩ = (noted p (advL p s n) c, true) ∧ doL p s ⟨2, n, c⟩ = ({ advL p s n with held := s.held + c }, true) := by
  rw [roomL_eq n h] at hr
  unfold doL; rw [if_pos h, if_pos h]
  dsimp only
  rw [if_pos ⟨hc, rfl, hr⟩, if_neg (by omega), if_pos ⟨hc, rfl, hr⟩]
  exact ⟨rfl, rfl⟩
theorem hold_takeL (n c : Int) (h : rightL p s) (hc : 1 ≤ c) : (doL p s ⟨2, n, c⟩).2 = decide (c ≤ roomL p s n) ∧ (doL p s ⟨1, n, c⟩).2 = decide (c ≤ roomL p s n) := by
  by_cases hh : c ≤ roomL p s n
  · obtain ⟨e1, e2⟩ := take_eqL n c h hc hh
    rw [e1, e2]; simp [hh]
  · have hh' := hh
    rw [roomL_eq n h] at hh'
    unfold doL; rw [if_pos h, if_pos h]
    dsimp only
    rw [if_neg (by omega), if_neg (by omega), if_neg (by omega), if_neg (by omega), if_neg (by omega), if_neg (by omega), if_neg (by omega), if_neg (by omega)]
    simp [hh]
theorem live_selfL (n : Int) (h : rightL p s) : ∀ e ∈ (advL p s n).log, (advL p s n).at_ - e.1 < p.period := by
  rw [adv_logL n h, adv_atL n h]; exact live_allL h.2.2.2.2.2.2.1
theorem backL (n c : Int) (h : rightL p s) (hc : 1 ≤ c) (hr : c ≤ roomL p s n) :
    doL p (doL p s ⟨2, n, c⟩).1 ⟨3, n, c⟩ = (advL p s n, true) ∧ doL p (doL p s ⟨2, n, c⟩).1 ⟨4, n, c⟩ = ((doL p s ⟨1, n, c⟩).1, true) := by
  have hR := right_doL ⟨2, n, c⟩ h
  obtain ⟨e1, e2⟩ := take_eqL n c h hc hr
  have h3 := h.2.2.2.1
  have hh := adv_heldL n h
  rw [e1]
  rw [e2] at hR ⊢
  have hs := adv_stayL n hR (by dsimp only; rw [adv_atL n h]; exact (up_ge _ _).2) (live_selfL n h)
  unfold doL; rw [if_pos hR, if_pos hR]
  dsimp only at hs ⊢
  rw [hs]
  dsimp only
  rw [if_neg (by omega), if_neg (by omega), if_pos (by omega), if_neg (by omega), if_neg (by omega), if_neg (by omega), if_pos (by omega)]
  have e : s.held + c - c = (advL p s n).held := by rw [hh]; omega
  rw [e]
  exact ⟨rfl, rfl⟩
theorem sum0L (h : rightL p s) : 0 ≤ sumL s.log := by have := sum_pos (posL h); omega
theorem heldL (n : Int) (h : rightL p s) : 0 ≤ s.held ∧ s.held + roomL p s n ≤ p.limit := by
  rw [roomL_eq n h]
  have := sum0L (right_advL n h)
  exact ⟨h.2.2.2.1, by omega⟩
theorem unheldL (n c : Int) (h : rightL p s) (hc : s.held < c) : (doL p s ⟨3, n, c⟩).2 = false ∧ (doL p s ⟨4, n, c⟩).2 = false := by
  have h3 := h.2.2.2.1
  unfold doL; rw [if_pos h, if_pos h]
  dsimp only
  rw [if_neg (by omega), if_neg (by omega), if_neg (by omega), if_neg (by omega), if_neg (by omega), if_neg (by omega), if_neg (by omega), if_neg (by omega)]
  exact ⟨rfl, rfl⟩
theorem freeL (n : Int) (h : rightL p s) (hc : 0 < s.held) :
    doL p s ⟨3, n, s.held⟩ = ({ advL p s n with held := 0 }, true) ∧ doL p s ⟨4, n, s.held⟩ = (noted p { advL p s n with held := 0 } s.held, true) := by
  unfold doL; rw [if_pos h, if_pos h]
  dsimp only
  rw [if_neg (by omega), if_neg (by omega), if_pos (by omega), if_neg (by omega), if_neg (by omega), if_neg (by omega), if_pos (by omega), Int.sub_self]
  exact ⟨rfl, rfl⟩
theorem freeRoomL (n : Int) (h : rightL p s) (hc : 0 < s.held) : roomL p (doL p s ⟨4, n, s.held⟩).1 n ≤ roomL p (doL p s ⟨3, n, s.held⟩).1 n := by
  have hR3 := right_doL ⟨3, n, s.held⟩ h
  have hR4 := right_doL ⟨4, n, s.held⟩ h
  have hd := h.1.2.2.1
  obtain ⟨e3, e4⟩ := freeL n h hc
  have hls := live_selfL n h
  rw [e3] at hR3 ⊢
  rw [e4] at hR4 ⊢
  rw [roomL_eq n hR3, roomL_eq n hR4]
  rw [adv_stayL n hR3 (by dsimp only; rw [adv_atL n h]; exact (up_ge _ _).2) hls, adv_stayL n hR4 (by unfold noted; dsimp only; rw [adv_atL n h]; exact (up_ge _ _).2) ?_]
  · unfold noted; dsimp only; rw [note_sum]; omega
  · intro e he
    unfold noted at he ⊢
    dsimp only at he ⊢
    rcases note_mem _ _ _ _ e he with h1 | h1
    · exact hls e h1
    · omega
theorem until_posL (n : Int) (h : rightL p s) (hl : (advL p s n).log ≠ []) : 0 < lastT (advL p s n).log + p.period - (advL p s n).at_ := by
  have hr := right_advL n h
  obtain ⟨h1, e, h2, h3⟩ := last_spec hr.2.2.2.2.2.2.1 hl
  have := live_selfL n h e h2
  omega
theorem until_negL (n : Int) (h : rightL p s) : untilL p s n < 0 ↔ 0 < s.held := by
  unfold untilL
  by_cases hh : s.held ≤ 0
  · rw [if_pos ⟨h, hh⟩]
    split
    · omega
    · rename_i z; have := until_posL n h z; omega
  · rw [if_neg (fun z => hh z.2)]; omega
theorem freshL (t : Int) (h : rightL p s) (hu : untilL p s t = 0) (h0 : 0 ≤ t) (ht : t ≤ 9007199254740992) (hat : s.at_ ≤ t) : advL p s t = newL p t ∧ roomL p s t = p.limit := by
  have hheld : ¬ 0 < s.held := fun z => by have := (until_negL t h).2 z; omega
  have hz : s.held = 0 := by have := h.2.2.2.1; omega
  unfold untilL at hu
  rw [if_pos ⟨h, by omega⟩] at hu
  have hlog : (advL p s t).log = [] := by
    by_cases z : (advL p s t).log = []
    · exact z
    · rw [if_neg z] at hu; have := until_posL t h z; omega
  have e : advL p s t = newL p t := by
    have e1 : advL p s t = ⟨(advL p s t).at_, (advL p s t).level, (advL p s t).held, (advL p s t).log⟩ := rfl
    rw [e1, adv_atL t h, adv_heldL t h, hlog, adv_lvlL t h, hz]
    unfold newL; rw [if_pos h.1, clampT_id h0 ht]
    have : up s.at_ t = t := by unfold up; split <;> omega
    rw [this]
  refine ⟨e, ?_⟩
  rw [roomL_eq t h, hlog, hz]; simp [sumL]
theorem adv_laterL (t : Int) (h : rightL p s) (h0 : 0 ≤ t) (ht : s.at_ + t ≤ 9007199254740992) : (advL p s (s.at_ + t)).log = live p.period (s.at_ + t) (advL p s 0).log := by
  have e0 : clampT 0 = 0 := clampT_id (by omega) (by omega)
  have e1 : up s.at_ 0 = s.at_ := by unfold up; have := h.2.1; split <;> omega
  have e2 : up s.at_ (s.at_ + t) = s.at_ + t := by unfold up; split <;> omega
  rw [adv_logL _ h, adv_logL _ h, clampT_id (by have := h.2.1; omega) ht, e0, e1, e2, live_liveAt (by omega)]
theorem adv_at0L (h : rightL p s) : (advL p s 0).at_ = s.at_ := by
  have e0 : clampT 0 = 0 := clampT_id (by omega) (by omega)
  have e1 : up s.at_ 0 = s.at_ := by unfold up; have := h.2.1; split <;> omega
  rw [adv_atL _ h, e0, e1]
theorem until_thenL (h : rightL p s) (hu : ¬ untilL p s 0 < 0) (ht : s.at_ + untilL p s 0 ≤ 9007199254740992) : untilL p s (s.at_ + untilL p s 0) = 0 ∧ (untilL p s 0 ≠ 0 → 0 < untilL p s (s.at_ + untilL p s 0 - 1)) := by
  have hz : s.held = 0 := by have := (until_negL 0 h).2; have := h.2.2.2.1; omega
  have hd := h.1.2.2.1
  have hr0 := right_advL 0 h
  have ha0 := adv_at0L h
  have e : untilL p s 0 = if (advL p s 0).log = [] then 0 else lastT (advL p s 0).log + p.period - s.at_ := by unfold untilL; rw [if_pos ⟨h, by omega⟩, ha0]
  by_cases hv : (advL p s 0).log = []
  · rw [if_pos hv] at e
    rw [e]
    refine ⟨?_, fun z => absurd rfl z⟩
    unfold untilL
    rw [if_pos ⟨h, by omega⟩, adv_laterL 0 h (by omega) (by have := h.2.2.1; omega), hv]
    rfl
  · rw [if_neg hv] at e
    have hpos := until_posL 0 h hv
    rw [ha0] at hpos
    obtain ⟨l1, f, l2, l3⟩ := last_spec hr0.2.2.2.2.2.2.1 hv
    rw [e] at ht ⊢
    constructor
    · unfold untilL
      rw [if_pos ⟨h, by omega⟩, adv_laterL _ h (by omega) ht, live_none (fun x hx => by have := l1 x hx; omega)]
      rfl
    · intro _
      have e2 : s.at_ + (lastT (advL p s 0).log + p.period - s.at_) - 1 = s.at_ + (lastT (advL p s 0).log + p.period - s.at_ - 1) := by omega
      have e3 := adv_laterL (lastT (advL p s 0).log + p.period - s.at_ - 1) h (by omega) (by omega)
      have hne : (advL p s (s.at_ + (lastT (advL p s 0).log + p.period - s.at_ - 1))).log ≠ [] := by
        rw [e3]
        intro z
        have hmem : ∀ (L : List (Int × Int)) (t : Int), live p.period t L = [] → ∀ x ∈ L, ¬ t - x.1 < p.period := by
          intro L t
          induction L with
          | nil => intro _ x hx; cases hx
          | cons y l ih =>
            intro hl x hx
            rw [live] at hl
            split at hl
            · cases hl
            · rename_i hy
              rcases List.mem_cons.1 hx with rfl | hx
              · exact hy
              · exact ih hl x hx
        have := hmem _ _ z f l2
        omega
      unfold untilL
      rw [if_pos ⟨h, by omega⟩, e2, if_neg hne]
      exact until_posL _ h hne
theorem retry_okL (c : Int) (h : rightL p s) (hc : 1 ≤ c) (n : Int) : (retryL p s n c).2 = decide (c ≤ p.limit - s.held) := by
  unfold retryL
  by_cases hh : c ≤ p.limit - s.held
  · rw [if_pos ⟨h, hc, hh⟩]; simp [hh]
  · rw [if_neg (fun z => hh z.2.2)]; simp [hh]
theorem gone0 {d a : Int} : ∀ {over : Int} {L : List (Int × Int)}, over ≤ 0 → goneT d a over L = 0
  | _, [], _ => rfl
  | _, e :: l, h => by rw [goneT, if_pos h]
theorem retry_rangeL (c : Int) (h : rightL p s) (hc : 1 ≤ c) (hr : c ≤ p.limit - s.held) : 0 ≤ (retryL p s 0 c).1 ∧ (retryL p s 0 c).1 ≤ p.period := by
  have hr0 := right_advL 0 h
  have ha0 := adv_at0L h
  have hd := h.1.2.2.1
  unfold retryL
  rw [if_pos ⟨h, hc, hr⟩, ha0]
  dsimp only
  by_cases z : 0 < s.held + sumL (advL p s 0).log + c - p.limit
  · have h6 := hr0.2.2.2.2.2.2.1
    rw [ha0] at h6
    have h2 := gone_le (at_ := s.at_) (d := p.period) h6 z (by omega)
    refine ⟨?_, by omega⟩
    have hls := live_selfL 0 h
    rw [ha0] at hls
    generalize (advL p s 0).log = L0 at *
    cases L0 with
    | nil => rw [sumL] at z; omega
    | cons e l =>
      have h7 := gone_ge (at_ := s.at_) (d := p.period) (was := e.1) (L := e :: l) ⟨Int.le_refl _, h6.2.1, h6.2.2.1, h6.2.2.2.1, h6.2.2.2.2⟩ z (by omega)
      have := hls e (by simp)
      omega
  · rw [gone0 (by omega)]; omega
theorem retry_leL (c : Int) (h : rightL p s) (hc : 1 ≤ c) : 0 ≤ (retryL p s 0 c).1 ∧ (retryL p s 0 c).1 ≤ c * p.period := by
  have hd := h.1.2.2.1
  have hcp : 1 * p.period ≤ c * p.period := mulr (by omega) (by omega)
  by_cases hr : c ≤ p.limit - s.held
  · have := retry_rangeL c h hc hr; omega
  · unfold retryL
    rw [if_neg (fun z => hr z.2.2)]; dsimp only; omega
theorem retry_thenL (c : Int) (h : rightL p s) (hc : 1 ≤ c) (hr : c ≤ p.limit - s.held) (ht : s.at_ + (retryL p s 0 c).1 ≤ 9007199254740992) :
    (doL p s ⟨1, s.at_ + (retryL p s 0 c).1, c⟩).2 = true ∧ (0 < (retryL p s 0 c).1 → (doL p s ⟨1, s.at_ + (retryL p s 0 c).1 - 1, c⟩).2 = false) := by
  have hd := h.1.2.2.1
  have hr0 := right_advL 0 h
  have ha0 := adv_at0L h
  have hrng := retry_rangeL c h hc hr
  have h6 := hr0.2.2.2.2.2.2.1
  rw [ha0] at h6
  have e : (retryL p s 0 c).1 = goneT p.period s.at_ (s.held + sumL (advL p s 0).log + c - p.limit) (advL p s 0).log := by unfold retryL; rw [if_pos ⟨h, hc, hr⟩, ha0]
  by_cases z : 0 < s.held + sumL (advL p s 0).log + c - p.limit
  · obtain ⟨g1, g2⟩ := gone_then (at_ := s.at_) (d := p.period) h6 z (by omega)
    rw [← e] at g1 g2
    generalize (retryL p s 0 c).1 = r at *
    constructor
    · rw [(hold_takeL _ c h hc).2, decide_eq_true_eq, roomL_eq _ h, adv_laterL r h (by omega) ht]; omega
    · intro hr0
      have e2 : s.at_ + r - 1 = s.at_ + (r - 1) := by omega
      rw [(hold_takeL _ c h hc).2, decide_eq_false_iff_not, roomL_eq _ h, e2, adv_laterL (r - 1) h (by omega) (by omega), ← e2]; omega
  · rw [gone0 (by omega)] at e
    rw [e]
    refine ⟨?_, fun z => by omega⟩
    rw [(hold_takeL _ c h hc).2, decide_eq_true_eq, roomL_eq _ h, adv_laterL 0 h (by omega) (by have := h.2.2.1; omega)]
    have := live_le (t := s.at_ + 0) (d := p.period) (posL hr0)
    omega
theorem new_allL (t : Int) (h : okL p) : roomL p (newL p t) t = p.limit ∧ (newL p t).held = 0 ∧ untilL p (newL p t) t = 0 ∧ 1 ≤ p.limit := by
  have hR := right_newL t h
  have e : newL p t = ⟨clampT t, 0, 0, []⟩ := by unfold newL; rw [if_pos h]
  have hs := adv_stayL t hR (by rw [e]; exact Int.le_refl _) (by rw [e]; intro x hx; cases hx)
  refine ⟨?_, by rw [e], ?_, h.2.1⟩
  · rw [roomL_eq t hR, hs, e]; simp [sumL]
  · unfold untilL; rw [if_pos ⟨hR, by rw [e]; exact Int.le_refl _⟩, hs, e]; rfl
end L
end Go.Proofs.Ythinbjknkjpdjaa.Pu

namespace Go.Proofs.Ythinbjknkjpdjaa
open Go.RowKit
set_option linter.unusedVariables false
set_option linter.unusedSimpArgs false

set_option maxHeartbeats 1000000 in
set_option maxRecDepth 100000 in
theorem made_right (g : Nat) (eg : Enters g) (f0 f1 f3 f4 f5 f6 f7 : Value) (p : Pol) (s : St) (a : Option Addr) (n c : Nat) (R : Bool) (hc : ∀ w, LogAt w a n c s.log → Calls Try.prog g #[p.v, s.v a n c] w fun e w' => e = .returned (.bool R) ∧ Below w.heap.size w w') (w : World) (hl : LogAt w a n c s.log) :
    Calls Try.prog 115 #[.agg #[f0, f1, fv g, f3, f4, f5, f6, f7], p.v, s.v a n c] w fun e w' => e = .returned (.bool R) ∧ Below w.heap.size w w' := by
  obtain ⟨k, l, d, b, cc, o⟩ := p
  obtain ⟨at_, level, held, L⟩ := s
  unfold St.v Pol.v at *
  unfold fv
  unfold Enters at eg
  dsimp only at *
  have HC := Go.Lib.hid hc
  have HL := Go.Lib.hid hl
  clear hc hl
  go_enter Try.func115, Try.ntmps115
  go_wp2_with fail
  refine (HC.out _ (log_bl HL.out (bl_alloc (bl_alloc (bl_alloc (bl_refl _) _) _) _))).mono ?_
  rintro e w1 ⟨rfl, hb⟩
  go_wp2_with fail
  go_ret
  exact ⟨rfl, bl_then (bl_alloc (bl_alloc (bl_alloc (bl_refl _) _) _) _) hb⟩
set_option maxHeartbeats 1000000 in
set_option maxRecDepth 100000 in
theorem made_until (g : Nat) (eg : Enters g) (f0 f1 f2 f3 f4 f5 f7 : Value) (p : Pol) (s : St) (a : Option Addr) (n c : Nat) (now : Int) (R : Int) (hc : ∀ w, LogAt w a n c s.log → Calls Try.prog g #[p.v, s.v a n c, .int .i64 now] w fun e w' => e = .returned (.int .i64 R) ∧ Below w.heap.size w w') (w : World) (hl : LogAt w a n c s.log) :
    Calls Try.prog 118 #[.agg #[f0, f1, f2, f3, f4, f5, fv g, f7], p.v, s.v a n c, .int .i64 now] w fun e w' => e = .returned (.int .i64 R) ∧ Below w.heap.size w w' := by
  obtain ⟨k, l, d, b, cc, o⟩ := p
  obtain ⟨at_, level, held, L⟩ := s
  unfold St.v Pol.v at *
  unfold fv
  unfold Enters at eg
  dsimp only at *
  have HC := Go.Lib.hid hc
  have HL := Go.Lib.hid hl
  clear hc hl
  go_enter Try.func118, Try.ntmps118
  go_wp2_with fail
  refine (HC.out _ (log_bl HL.out (bl_alloc (bl_alloc (bl_alloc (bl_refl _) _) _) _))).mono ?_
  rintro e w1 ⟨rfl, hb⟩
  go_wp2_with fail
  go_ret
  exact ⟨rfl, bl_then (bl_alloc (bl_alloc (bl_alloc (bl_refl _) _) _) _) hb⟩
set_option maxHeartbeats 1000000 in
set_option maxRecDepth 100000 in
theorem made_retry (g : Nat) (eg : Enters g) (f0 f1 f2 f3 f4 f5 f6 : Value) (p : Pol) (s : St) (a : Option Addr) (n c : Nat) (now cost : Int) (R : Int × Bool) (hc : ∀ w, LogAt w a n c s.log → Calls Try.prog g #[p.v, s.v a n c, .int .i64 now, .int .i64 cost] w fun e w' => e = .returned (.tuple #[.int .i64 R.1, .bool R.2]) ∧ Below w.heap.size w w') (w : World) (hl : LogAt w a n c s.log) :
    Calls Try.prog 114 #[.agg #[f0, f1, f2, f3, f4, f5, f6, fv g], p.v, s.v a n c, .int .i64 now, .int .i64 cost] w fun e w' => e = .returned (.tuple #[.int .i64 R.1, .bool R.2]) ∧ Below w.heap.size w w' := by
  obtain ⟨k, l, d, b, cc, o⟩ := p
  obtain ⟨at_, level, held, L⟩ := s
  unfold St.v Pol.v at *
  unfold fv
  unfold Enters at eg
  dsimp only at *
  have HC := Go.Lib.hid hc
  have HL := Go.Lib.hid hl
  clear hc hl
  go_enter Try.func114, Try.ntmps114
  go_wp2_with fail
  refine (HC.out _ (log_bl HL.out (bl_alloc (bl_alloc (bl_alloc (bl_refl _) _) _) _))).mono ?_
  rintro e w1 ⟨rfl, hb⟩
  go_wp2_with fail
  go_ret2
  exact ⟨rfl, bl_then (bl_alloc (bl_alloc (bl_alloc (bl_refl _) _) _) _) hb⟩
set_option maxHeartbeats 1000000 in
set_option maxRecDepth 100000 in
theorem made_advance (g : Nat) (eg : Enters g) (f0 f1 f2 f4 f5 f6 f7 : Value) (p : Pol) (s : St) (a : Option Addr) (n c : Nat) (now : Int) (R : St) (hc : ∀ w, LogAt w a n c s.log → Calls Try.prog g #[p.v, s.v a n c, .int .i64 now] w (PostS a n R w)) (w : World) (hl : LogAt w a n c s.log) :
    Calls Try.prog 111 #[.agg #[f0, f1, f2, fv g, f4, f5, f6, f7], p.v, s.v a n c, .int .i64 now] w (PostS a n R w) := by
  obtain ⟨k, l, d, b, cc, o⟩ := p
  obtain ⟨at_, level, held, L⟩ := s
  obtain ⟨rat, rlv, rhd, rL⟩ := R
  unfold St.v Pol.v at *
  unfold fv
  unfold Enters at eg
  dsimp only at *
  have HC := Go.Lib.hid hc
  have HL := Go.Lib.hid hl
  clear hc hl
  go_enter Try.func111, Try.ntmps111
  go_wp2_with fail
  refine (HC.out _ (log_bl HL.out (bl_alloc (bl_alloc (bl_alloc (bl_alloc (bl_refl _) _) _) _) _))).mono ?_
  rintro e w1 ⟨a9, n9, c9, rfl, hl9, hs9, hb⟩
  have hB : Below w.heap.size w w1 := bl_then (bl_alloc (bl_alloc (bl_alloc (bl_alloc (bl_refl _) _) _) _) _) hb
  have hR : ResB w1 (w.heap.size + 1 + 1 + 1) := res_bl (res_new _ _ _ _ _ _ (by simp)) hb
  have hne := src_ne (b := w.heap.size + 1 + 1 + 1) HL.out hs9 (by omega) (by simp)
  have hso := src_out (w := w) hs9 (by simp; omega)
  obtain ⟨f0', f1', f2', f3', u0, u1, u2, u3, i0, i1, i2, i3⟩ := res_all hR
  have HNE := Go.Lib.hid hne
  have HSO := Go.Lib.hid hso
  have HL9 := Go.Lib.hid hl9
  clear hb HC HL hne hso hs9 hl9
  unfold St.v
  dsimp only
  go_wp2_with fail
  (try simp only [Exit.inBlock, Exit.then])
  refine bodyPost_ret (results_state rfl _ _ (by rfl) (set4r hR)) rfl ⟨a9, n9, c9, rfl, log_set4 HL9.out HNE.out, HSO.out, bl4 hB (by omega)⟩

end Go.Proofs.Ythinbjknkjpdjaa

namespace Go.Proofs.Ythinbjknkjpdjaa
open Go.RowKit
set_option linter.unusedVariables false
set_option linter.unusedSimpArgs false

set_option maxHeartbeats 1000000 in
set_option maxRecDepth 100000 in
theorem buntil_any (p : Pol) (s : St) (a : Option Addr) (n c : Nat) (now : Int) (hn : s.log.length = n) (w : World) : Calls Try.prog 67 #[p.v, s.v a n c, .int .i64 now] w fun e w' => e = .returned (.int .i64 (untilB p s now)) ∧ Below w.heap.size w w' := by
  have hrt := bright_any p s a n c hn
  have hav := badv_any p s a n c now hn
  unfold untilB
  by_cases h : rightB p s ∧ s.held ≤ 0
  · rw [if_pos h]
    obtain ⟨h, hh⟩ := h
    rw [decide_eq_true h] at hrt
    have hok := h.1
    have hlv := advB_level p s now h
    have r7 := h.2.2.2.2.2.2.2
    have r3 := h.2.2.2.1
    rw [r7] at hn
    subst hn
    have hla := fun m w hm => blasts_any p m w hok.2.1 hok.2.2.2.2.1 hm
    generalize advB p s now = A at *
    obtain ⟨aat, alv, ahd, alg⟩ := A
    clear h r7
    obtain ⟨k, l, d, b, cc, o⟩ := p
    obtain ⟨at_, level, held, lg⟩ := s
    unfold St.v Pol.v at *
    dsimp only [List.length_nil] at *
    obtain ⟨q0, q1, q2, q3, q4, q5, q6, q7⟩ := hok
    dsimp only at *
    have hM : b * d ≤ 1152921504606846976 := prod_le (by omega) (by omega) (by omega)
    have hM0 : 0 ≤ b * d := Int.mul_nonneg (by omega) (by omega)
    have hw1 : IntKind.i64.wrap (b * d) = b * d := IntWalk.i64_in _ (by omega)
    have hw2 : IntKind.i64.wrap (b * d - alv) = b * d - alv := IntWalk.i64_in _ (by omega)
    have hla' := fun w => hla (b * d - alv) w (by omega)
    generalize ceilD (b * d - alv) l = R at *
    have HRT := Go.Lib.hid hrt
    have HAV := Go.Lib.hid hav
    have HLA := Go.Lib.hid hla'
    have FL := fld_level
    clear hrt hav hlv hla hla' hM hM0 q0 q1 q2 q3 q4 q5 q6 q7 r3
    go_enter Try.func67, Try.ntmps67
    go_wp2_with fail
    refine (HRT.out _).mono ?_
    rintro e w1 ⟨rfl, hb⟩
    have hB : Below w.heap.size w w1 := bl_then (bl_alloc (bl_alloc (bl_refl _) _) _) hb
    have c0 := bl_cell (v := .int .i64 k) hb (show World.cell? _ ⟨w.heap.size, 0, none⟩ = _ by go_simp)
    have c1 := bl_cell (v := .int .i64 l) hb (show World.cell? _ ⟨w.heap.size, 1, none⟩ = _ by go_simp)
    have c2 := bl_cell (v := .int .i64 d) hb (show World.cell? _ ⟨w.heap.size, 2, none⟩ = _ by go_simp)
    have c3 := bl_cell (v := .int .i64 b) hb (show World.cell? _ ⟨w.heap.size, 3, none⟩ = _ by go_simp)
    have c4 := bl_cell (v := .int .i64 cc) hb (show World.cell? _ ⟨w.heap.size, 4, none⟩ = _ by go_simp)
    have c5 := bl_cell (v := .bool o) hb (show World.cell? _ ⟨w.heap.size, 5, none⟩ = _ by go_simp)
    have c6 := bl_cell (v := .int .i64 at_) hb (show World.cell? _ ⟨w.heap.size + 1, 0, none⟩ = _ by go_simp)
    have c7 := bl_cell (v := .int .i64 level) hb (show World.cell? _ ⟨w.heap.size + 1, 1, none⟩ = _ by go_simp)
    have c8 := bl_cell (v := .int .i64 held) hb (show World.cell? _ ⟨w.heap.size + 1, 2, none⟩ = _ by go_simp)
    have c9 := bl_cell (v := .slice a 0 c) hb (show World.cell? _ ⟨w.heap.size + 1, 3, none⟩ = _ by go_simp)
    clear hb HRT
    go_wp2_with fail
    refine wp_region_held_drew (S := fun w' => w'.cell? ⟨w.heap.size, 0, none⟩ = some (.int .i64 k) ∧ w'.cell? ⟨w.heap.size, 1, none⟩ = some (.int .i64 l) ∧ w'.cell? ⟨w.heap.size, 2, none⟩ = some (.int .i64 d) ∧ w'.cell? ⟨w.heap.size, 3, none⟩ = some (.int .i64 b) ∧ w'.cell? ⟨w.heap.size, 4, none⟩ = some (.int .i64 cc) ∧ w'.cell? ⟨w.heap.size, 5, none⟩ = some (.bool o) ∧ w'.cell? ⟨w.heap.size + 1, 0, none⟩ = some (.int .i64 at_) ∧ w'.cell? ⟨w.heap.size + 1, 1, none⟩ = some (.int .i64 level) ∧ w'.cell? ⟨w.heap.size + 1, 2, none⟩ = some (.int .i64 held) ∧ w'.cell? ⟨w.heap.size + 1, 3, none⟩ = some (.slice a 0 c) ∧ Below w.heap.size w w') (by kernel_rfl) ?_ (fun hHeld => ?_)
    · exact ⟨c0, c1, c2, c3, c4, c5, c6, c7, c8, c9, bl_drew hB⟩
    try simp only [Act.put, List.setIfInBounds_toArray, List.set_cons_zero, List.set_cons_succ]
    all_goals ((refine tk (i := 0) rfl rfl hHeld ?_))
    all_goals ((refine tk (i := 1) rfl rfl hHeld ?_))
    all_goals ((refine tk (i := 2) rfl rfl hHeld ?_))
    all_goals ((refine tk (i := 3) rfl rfl hHeld ?_))
    all_goals ((refine tk (i := 4) rfl rfl hHeld ?_))
    all_goals ((refine tk (i := 5) rfl rfl hHeld ?_))
    all_goals ((refine tk (i := 6) rfl rfl hHeld ?_))
    all_goals ((refine tk (i := 7) rfl rfl hHeld ?_))
    all_goals ((refine tk (i := 8) rfl rfl hHeld ?_))
    all_goals ((refine callH (i := 9) rfl hHeld (fun W hW K hK => ?_); clear hHeld; (try dsimp only at hW); go_simp; refine (HAV.out _).mono ?_; rintro e w1 ⟨rfl, hb⟩; go_wp2_with fail; refine hK.out _ _ ?_ (fun hHeld => ?_); (focus ((try dsimp only); (obtain ⟨h0, h1, h2, h3, h4, h5, h6, h7, h8, h9, hB'⟩ := hW; exact ⟨bl_cell hb h0, bl_cell hb h1, bl_cell hb h2, bl_cell hb h3, bl_cell hb h4, bl_cell hb h5, bl_cell hb h6, bl_cell hb h7, bl_cell hb h8, bl_cell hb h9, bl_then hB' hb⟩))); clear hK K; try simp only [Act.put, List.setIfInBounds_toArray, List.set_cons_zero, List.set_cons_succ]))
    all_goals ((refine tk (i := 10) rfl rfl hHeld ?_))
    all_goals ((refine tk (i := 11) rfl rfl hHeld ?_))
    all_goals ((refine callH (i := 12) rfl hHeld (fun W hW K hK => ?_); clear hHeld; (try dsimp only at hW); go_simp; refine (HLA.out _).mono ?_; rintro e w1 ⟨rfl, hb⟩; go_wp2_with fail; refine hK.out _ _ ?_ (fun hHeld => ?_); (focus ((try dsimp only); (obtain ⟨h0, h1, h2, h3, h4, h5, h6, h7, h8, h9, hB'⟩ := hW; exact ⟨bl_cell hb h0, bl_cell hb h1, bl_cell hb h2, bl_cell hb h3, bl_cell hb h4, bl_cell hb h5, bl_cell hb h6, bl_cell hb h7, bl_cell hb h8, bl_cell hb h9, bl_then hB' hb⟩))); clear hK K; try simp only [Act.put, List.setIfInBounds_toArray, List.set_cons_zero, List.set_cons_succ]))
    all_goals ((refine tk (i := 13) rfl rfl hHeld ?_))
    all_goals (refine wpAnyH_done (by kernel_rfl) ?_ _)
    obtain ⟨-, -, -, -, -, -, -, -, -, -, hE⟩ := hHeld
    go_wp2
    go_ret
    exact ⟨rfl, hE⟩
  · rw [if_neg h]
    by_cases h1 : rightB p s
    · rw [decide_eq_true h1] at hrt
      have hh : 0 < s.held := by
        have := h1.2.2.2.1
        by_cases h2 : 0 < s.held
        · exact h2
        · exact absurd ⟨h1, by omega⟩ h
      clear h h1 hav
      obtain ⟨k, l, d, b, cc, o⟩ := p
      obtain ⟨at_, level, held, lg⟩ := s
      unfold St.v Pol.v at *
      dsimp only at *
      have HRT := Go.Lib.hid hrt
      clear hrt
      go_enter Try.func67, Try.ntmps67
      go_wp2_with fail
      refine (HRT.out _).mono ?_
      rintro e w1 ⟨rfl, hb⟩
      have hB : Below w.heap.size w w1 := bl_then (bl_alloc (bl_alloc (bl_refl _) _) _) hb
      have c0 := bl_cell (v := .int .i64 k) hb (show World.cell? _ ⟨w.heap.size, 0, none⟩ = _ by go_simp)
      have c1 := bl_cell (v := .int .i64 l) hb (show World.cell? _ ⟨w.heap.size, 1, none⟩ = _ by go_simp)
      have c2 := bl_cell (v := .int .i64 d) hb (show World.cell? _ ⟨w.heap.size, 2, none⟩ = _ by go_simp)
      have c3 := bl_cell (v := .int .i64 b) hb (show World.cell? _ ⟨w.heap.size, 3, none⟩ = _ by go_simp)
      have c4 := bl_cell (v := .int .i64 cc) hb (show World.cell? _ ⟨w.heap.size, 4, none⟩ = _ by go_simp)
      have c5 := bl_cell (v := .bool o) hb (show World.cell? _ ⟨w.heap.size, 5, none⟩ = _ by go_simp)
      have c6 := bl_cell (v := .int .i64 at_) hb (show World.cell? _ ⟨w.heap.size + 1, 0, none⟩ = _ by go_simp)
      have c7 := bl_cell (v := .int .i64 level) hb (show World.cell? _ ⟨w.heap.size + 1, 1, none⟩ = _ by go_simp)
      have c8 := bl_cell (v := .int .i64 held) hb (show World.cell? _ ⟨w.heap.size + 1, 2, none⟩ = _ by go_simp)
      have c9 := bl_cell (v := .slice a n c) hb (show World.cell? _ ⟨w.heap.size + 1, 3, none⟩ = _ by go_simp)
      clear hb HRT
      go_wp2
      go_ret
      exact ⟨rfl, hB⟩
    · rw [decide_eq_false h1] at hrt
      clear h h1 hav
      unfold St.v Pol.v at *
      have HRT := Go.Lib.hid hrt
      clear hrt
      go_enter Try.func67, Try.ntmps67
      go_wp2_with fail
      refine (HRT.out _).mono ?_
      rintro e w1 ⟨rfl, hb⟩
      have hB : Below w.heap.size w w1 := bl_then (bl_alloc (bl_alloc (bl_refl _) _) _) hb
      clear hb HRT
      go_wp2
      go_ret
      exact ⟨rfl, hB⟩
end Go.Proofs.Ythinbjknkjpdjaa

namespace Go.Proofs.Ythinbjknkjpdjaa
open Go.RowKit
set_option linter.unusedVariables false
set_option linter.unusedSimpArgs false

set_option maxHeartbeats 1000000 in
set_option maxRecDepth 100000 in
theorem guntil_any (p : Pol) (s : St) (a : Option Addr) (n c : Nat) (now : Int) (hn : s.log.length = n) (w : World) : Calls Try.prog 55 #[p.v, s.v a n c, .int .i64 now] w fun e w' => e = .returned (.int .i64 (untilG p s now)) ∧ Below w.heap.size w w' := by
  have hrt := gright_any p s a n c hn
  have hav := gadv_any p s a n c now hn
  unfold untilG
  by_cases h : rightG p s ∧ s.held ≤ 0
  · rw [if_pos h]
    obtain ⟨h, hh⟩ := h
    rw [decide_eq_true h] at hrt
    have hok := h.1
    have hlv := advG_level p s now h
    have r7 := h.2.2.2.2.2.2.2
    rw [r7] at hn
    subst hn
    have hla := fun m w hm => glasts_any p m w hok.2.2.1 hok.2.2.2.1 hm
    generalize advG p s now = A at *
    obtain ⟨aat, alv, ahd, alg⟩ := A
    clear h r7
    obtain ⟨k, l, d, b, cc, o⟩ := p
    obtain ⟨at_, level, held, lg⟩ := s
    unfold St.v Pol.v at *
    dsimp only [List.length_nil] at *
    have hla' := fun w => hla alv w (by omega)
    generalize ceilD alv l = R at *
    have HRT := Go.Lib.hid hrt
    have HAV := Go.Lib.hid hav
    have HLA := Go.Lib.hid hla'
    have FL := fld_level
    clear hrt hav hlv hla hla' hok
    go_enter Try.func55, Try.ntmps55
    go_wp2_with fail
    refine (HRT.out _).mono ?_
    rintro e w1 ⟨rfl, hb⟩
    have hB : Below w.heap.size w w1 := bl_then (bl_alloc (bl_alloc (bl_refl _) _) _) hb
    have c0 := bl_cell (v := .int .i64 k) hb (show World.cell? _ ⟨w.heap.size, 0, none⟩ = _ by go_simp)
    have c1 := bl_cell (v := .int .i64 l) hb (show World.cell? _ ⟨w.heap.size, 1, none⟩ = _ by go_simp)
    have c2 := bl_cell (v := .int .i64 d) hb (show World.cell? _ ⟨w.heap.size, 2, none⟩ = _ by go_simp)
    have c3 := bl_cell (v := .int .i64 b) hb (show World.cell? _ ⟨w.heap.size, 3, none⟩ = _ by go_simp)
    have c4 := bl_cell (v := .int .i64 cc) hb (show World.cell? _ ⟨w.heap.size, 4, none⟩ = _ by go_simp)
    have c5 := bl_cell (v := .bool o) hb (show World.cell? _ ⟨w.heap.size, 5, none⟩ = _ by go_simp)
    have c6 := bl_cell (v := .int .i64 at_) hb (show World.cell? _ ⟨w.heap.size + 1, 0, none⟩ = _ by go_simp)
    have c7 := bl_cell (v := .int .i64 level) hb (show World.cell? _ ⟨w.heap.size + 1, 1, none⟩ = _ by go_simp)
    have c8 := bl_cell (v := .int .i64 held) hb (show World.cell? _ ⟨w.heap.size + 1, 2, none⟩ = _ by go_simp)
    have c9 := bl_cell (v := .slice a 0 c) hb (show World.cell? _ ⟨w.heap.size + 1, 3, none⟩ = _ by go_simp)
    clear hb HRT
    go_wp2_with fail
    refine wp_region_held_drew (S := fun w' => w'.cell? ⟨w.heap.size, 0, none⟩ = some (.int .i64 k) ∧ w'.cell? ⟨w.heap.size, 1, none⟩ = some (.int .i64 l) ∧ w'.cell? ⟨w.heap.size, 2, none⟩ = some (.int .i64 d) ∧ w'.cell? ⟨w.heap.size, 3, none⟩ = some (.int .i64 b) ∧ w'.cell? ⟨w.heap.size, 4, none⟩ = some (.int .i64 cc) ∧ w'.cell? ⟨w.heap.size, 5, none⟩ = some (.bool o) ∧ w'.cell? ⟨w.heap.size + 1, 0, none⟩ = some (.int .i64 at_) ∧ w'.cell? ⟨w.heap.size + 1, 1, none⟩ = some (.int .i64 level) ∧ w'.cell? ⟨w.heap.size + 1, 2, none⟩ = some (.int .i64 held) ∧ w'.cell? ⟨w.heap.size + 1, 3, none⟩ = some (.slice a 0 c) ∧ Below w.heap.size w w') (by kernel_rfl) ?_ (fun hHeld => ?_)
    · exact ⟨c0, c1, c2, c3, c4, c5, c6, c7, c8, c9, bl_drew hB⟩
    try simp only [Act.put, List.setIfInBounds_toArray, List.set_cons_zero, List.set_cons_succ]
    all_goals ((refine tk (i := 0) rfl rfl hHeld ?_))
    all_goals ((refine tk (i := 1) rfl rfl hHeld ?_))
    all_goals ((refine tk (i := 2) rfl rfl hHeld ?_))
    all_goals ((refine tk (i := 3) rfl rfl hHeld ?_))
    all_goals ((refine callH (i := 4) rfl hHeld (fun W hW K hK => ?_); clear hHeld; (try dsimp only at hW); go_simp; refine (HAV.out _).mono ?_; rintro e w1 ⟨rfl, hb⟩; go_wp2_with fail; refine hK.out _ _ ?_ (fun hHeld => ?_); (focus ((try dsimp only); (obtain ⟨h0, h1, h2, h3, h4, h5, h6, h7, h8, h9, hB'⟩ := hW; exact ⟨bl_cell hb h0, bl_cell hb h1, bl_cell hb h2, bl_cell hb h3, bl_cell hb h4, bl_cell hb h5, bl_cell hb h6, bl_cell hb h7, bl_cell hb h8, bl_cell hb h9, bl_then hB' hb⟩))); clear hK K; try simp only [Act.put, List.setIfInBounds_toArray, List.set_cons_zero, List.set_cons_succ]))
    all_goals ((refine tk (i := 5) rfl rfl hHeld ?_))
    all_goals ((refine callH (i := 6) rfl hHeld (fun W hW K hK => ?_); clear hHeld; (try dsimp only at hW); go_simp; refine (HLA.out _).mono ?_; rintro e w1 ⟨rfl, hb⟩; go_wp2_with fail; refine hK.out _ _ ?_ (fun hHeld => ?_); (focus ((try dsimp only); (obtain ⟨h0, h1, h2, h3, h4, h5, h6, h7, h8, h9, hB'⟩ := hW; exact ⟨bl_cell hb h0, bl_cell hb h1, bl_cell hb h2, bl_cell hb h3, bl_cell hb h4, bl_cell hb h5, bl_cell hb h6, bl_cell hb h7, bl_cell hb h8, bl_cell hb h9, bl_then hB' hb⟩))); clear hK K; try simp only [Act.put, List.setIfInBounds_toArray, List.set_cons_zero, List.set_cons_succ]))
    all_goals ((refine tk (i := 7) rfl rfl hHeld ?_))
    all_goals (refine wpAnyH_done (by kernel_rfl) ?_ _)
    obtain ⟨-, -, -, -, -, -, -, -, -, -, hE⟩ := hHeld
    go_wp2_with fail
    go_ret
    exact ⟨rfl, hE⟩
  · rw [if_neg h]
    by_cases h1 : rightG p s
    · rw [decide_eq_true h1] at hrt
      have hh : 0 < s.held := by
        by_cases h2 : 0 < s.held
        · exact h2
        · exact absurd ⟨h1, by omega⟩ h
      clear h h1 hav
      obtain ⟨k, l, d, b, cc, o⟩ := p
      obtain ⟨at_, level, held, lg⟩ := s
      unfold St.v Pol.v at *
      dsimp only at *
      have HRT := Go.Lib.hid hrt
      clear hrt
      go_enter Try.func55, Try.ntmps55
      go_wp2_with fail
      refine (HRT.out _).mono ?_
      rintro e w1 ⟨rfl, hb⟩
      have hB : Below w.heap.size w w1 := bl_then (bl_alloc (bl_alloc (bl_refl _) _) _) hb
      have c0 := bl_cell (v := .int .i64 k) hb (show World.cell? _ ⟨w.heap.size, 0, none⟩ = _ by go_simp)
      have c1 := bl_cell (v := .int .i64 l) hb (show World.cell? _ ⟨w.heap.size, 1, none⟩ = _ by go_simp)
      have c2 := bl_cell (v := .int .i64 d) hb (show World.cell? _ ⟨w.heap.size, 2, none⟩ = _ by go_simp)
      have c3 := bl_cell (v := .int .i64 b) hb (show World.cell? _ ⟨w.heap.size, 3, none⟩ = _ by go_simp)
      have c4 := bl_cell (v := .int .i64 cc) hb (show World.cell? _ ⟨w.heap.size, 4, none⟩ = _ by go_simp)
      have c5 := bl_cell (v := .bool o) hb (show World.cell? _ ⟨w.heap.size, 5, none⟩ = _ by go_simp)
      have c6 := bl_cell (v := .int .i64 at_) hb (show World.cell? _ ⟨w.heap.size + 1, 0, none⟩ = _ by go_simp)
      have c7 := bl_cell (v := .int .i64 level) hb (show World.cell? _ ⟨w.heap.size + 1, 1, none⟩ = _ by go_simp)
      have c8 := bl_cell (v := .int .i64 held) hb (show World.cell? _ ⟨w.heap.size + 1, 2, none⟩ = _ by go_simp)
      have c9 := bl_cell (v := .slice a n c) hb (show World.cell? _ ⟨w.heap.size + 1, 3, none⟩ = _ by go_simp)
      clear hb HRT
      go_wp2
      go_ret
      exact ⟨rfl, hB⟩
    · rw [decide_eq_false h1] at hrt
      clear h h1 hav
      unfold St.v Pol.v at *
      have HRT := Go.Lib.hid hrt
      clear hrt
      go_enter Try.func55, Try.ntmps55
      go_wp2_with fail
      refine (HRT.out _).mono ?_
      rintro e w1 ⟨rfl, hb⟩
      have hB : Below w.heap.size w w1 := bl_then (bl_alloc (bl_alloc (bl_refl _) _) _) hb
      clear hb HRT
      go_wp2
      go_ret
      exact ⟨rfl, hB⟩
end Go.Proofs.Ythinbjknkjpdjaa

namespace Go.Proofs.Ythinbjknkjpdjaa
open Go.RowKit
set_option linter.unusedVariables false
set_option linter.unusedSimpArgs false

theorem lastT_get : ∀ (L : List (Int × Int)) (m : Nat), L.length = m + 1 → lastT L = (L.getD m (0, 0)).1
  | [], m, h => by simp at h
  | [e], m, h => by
    have : m = 0 := by simpa using h.symm
    subst this
    rfl
  | e :: f :: l, m, h => by
    cases m with
    | zero => simp at h
    | succ m =>
      show lastT (f :: l) = _
      rw [lastT_get (f :: l) m (by simpa using h)]
      simp
set_option maxHeartbeats 1000000 in
set_option maxRecDepth 100000 in
theorem wuntil_any (p : Pol) (s : St) (a : Option Addr) (n c : Nat) (now : Int) (w : World) (hlog : LogAt w a n c s.log) : Calls Try.prog 59 #[p.v, s.v a n c, .int .i64 now] w fun e w' => e = .returned (.int .i64 (untilL p s now)) ∧ Below w.heap.size w w' := by
  have hrt := fun W hW => wright_any p s a n c W hW
  have hav := fun W hW => wadv_any p s a n c now W hW
  unfold untilL
  by_cases h : rightL p s ∧ s.held ≤ 0
  · rw [if_pos h]
    obtain ⟨h, hh⟩ := h
    rw [decide_eq_true h] at hrt
    have hall := risen_all h.2.2.2.2.2.2.1
    have hsub := live_sub p.period (up s.at_ (clampT now)) s.log
    have hcr := clampT_range now
    have hAe : (advL p s now).log = live p.period (up s.at_ (clampT now)) s.log ∧ 0 ≤ (advL p s now).at_ ∧ (advL p s now).at_ ≤ 9007199254740992 := by
      have r1 := h.2.1
      have r2 := h.2.2.1
      unfold advL
      rw [if_pos h]
      refine ⟨rfl, ?_, ?_⟩ <;> (dsimp only; unfold up; split <;> omega)
    rw [← hAe.1] at hsub
    obtain ⟨⟨q0, q1, q2, q3, q4, q5, q6, q7⟩, r1, r2, r3, r4, r5, r6, r7, r8⟩ := h
    obtain ⟨-, hA1, hA2⟩ := hAe
    generalize advL p s now = A at *
    have hent : ∀ e ∈ A.log, 0 ≤ e.1 ∧ e.1 ≤ 9007199254740992 := fun e he => by have := hall e (hsub.1 e he); omega
    have hd : 1 ≤ p.period ∧ p.period ≤ 1099511627776 := by omega
    clear hall hsub hcr r1 r2 r3 r4 r6 r7 r8 q0 q1 q2 q3 q4 q5 q6 q7
    obtain ⟨k, l, d, b, cc, o⟩ := p
    obtain ⟨at_, level, held, L⟩ := s
    obtain ⟨aat, alv, ahd, L2⟩ := A
    unfold St.v Pol.v at *
    dsimp only at *
    subst r5
    have HRT := Go.Lib.hid hrt
    have HAV := Go.Lib.hid hav
    have HLOG := Go.Lib.hid hlog
    have HE := Go.Lib.hid (And.intro hent (And.intro hd (And.intro hA1 hA2)))
    clear hrt hav hlog hent hd hA1 hA2
    go_enter Try.func59, Try.ntmps59
    go_wp2_with fail
    refine (HRT.out _ (log_bl HLOG.out (bl_alloc (bl_alloc (bl_refl _) _) _))).mono ?_
    rintro e w1 ⟨rfl, hb⟩
    have hB : Below w.heap.size w w1 := bl_then (bl_alloc (bl_alloc (bl_refl _) _) _) hb
    have c0 := bl_cell (v := .int .i64 k) hb (show World.cell? _ ⟨w.heap.size, 0, none⟩ = _ by go_simp)
    have c1 := bl_cell (v := .int .i64 l) hb (show World.cell? _ ⟨w.heap.size, 1, none⟩ = _ by go_simp)
    have c2 := bl_cell (v := .int .i64 d) hb (show World.cell? _ ⟨w.heap.size, 2, none⟩ = _ by go_simp)
    have c3 := bl_cell (v := .int .i64 b) hb (show World.cell? _ ⟨w.heap.size, 3, none⟩ = _ by go_simp)
    have c4 := bl_cell (v := .int .i64 cc) hb (show World.cell? _ ⟨w.heap.size, 4, none⟩ = _ by go_simp)
    have c5 := bl_cell (v := .bool o) hb (show World.cell? _ ⟨w.heap.size, 5, none⟩ = _ by go_simp)
    have c6 := bl_cell (v := .int .i64 at_) hb (show World.cell? _ ⟨w.heap.size + 1, 0, none⟩ = _ by go_simp)
    have c7 := bl_cell (v := .int .i64 0) hb (show World.cell? _ ⟨w.heap.size + 1, 1, none⟩ = _ by go_simp)
    have c8 := bl_cell (v := .int .i64 held) hb (show World.cell? _ ⟨w.heap.size + 1, 2, none⟩ = _ by go_simp)
    have c9 := bl_cell (v := .slice a n c) hb (show World.cell? _ ⟨w.heap.size + 1, 3, none⟩ = _ by go_simp)
    have hlg := log_bl HLOG.out hB
    clear hb HRT HLOG
    go_wp2_with fail
    refine (HAV.out _ hlg).mono ?_
    rintro e w2 ⟨⟨v2, m2, rfl, hown⟩, hb⟩
    obtain ⟨a2, cp2, rfl, hl2⟩ := own_log hown
    clear HAV hlg hown
    dsimp only
    have d2 := bl_cell (bl_alloc hb (.cells #[.int .i64 aat, .int .i64 alv, .int .i64 ahd, .slice a2 m2 cp2] 32)) c2
    have dB := bl_then hB hb
    clear hB hb c0 c1 c2 c3 c4 c5 c6 c7 c8 c9
    cases hm : m2 with
    | zero =>
      subst hm
      have hL2 : L2 = [] := List.length_eq_zero_iff.1 hl2.1
      subst hL2
      clear hl2
      go_wp2_with fail
      go_ret
      exact ⟨by simp, bl_alloc dB _⟩
    | succ m =>
      subst hm
      have hlen := hl2.1
      have hval : (L2.getD m (0, 0)).1 + d - aat = (if L2 = [] then 0 else lastT L2 + d - aat) := by rw [if_neg (by intro hz; rw [hz] at hlen; simp at hlen), lastT_get L2 m hlen]
      have HV := Go.Lib.hid hval
      clear hval
      obtain ⟨bb, off, rfl, p1, -⟩ := hl2.2.2.2 m (by omega)
      have hml : m < L2.length := by rw [hlen]; exact Nat.lt_succ_self m
      have hmem : L2.getD m (0, 0) ∈ L2 := by rw [List.getD_eq_getElem?_getD, List.getElem?_eq_getElem hml]; exact List.getElem_mem hml
      have hbd := HE.out.1 _ hmem
      have hx := HE.out.2
      have hmm : (m : Int) + 1 ≤ 9223372036854775807 := by have := hl2.2.1; have := hl2.2.2.1; omega
      have x1 := bl_cell (bl_alloc (bl_refl w2) (.cells #[.int .i64 aat, .int .i64 alv, .int .i64 ahd, .slice (some ⟨bb, off, none⟩) (m + 1) cp2] 32)) p1
      generalize (L2.getD m (0, 0)).1 = E at *
      have w1' : IntKind.i64.wrap (m : Int) = (m : Int) := IntWalk.i64_in _ (by omega)
      have w2' : IntKind.i64.wrap (E + d) = E + d := IntWalk.i64_in _ (by omega)
      have w3' : IntKind.i64.wrap (E + d - aat) = E + d - aat := IntWalk.i64_in _ (by omega)
      have k0 : (0 : Int) ≤ (m : Int) := by omega
      have k1 : (m : Int) < (m : Int) + 1 := by omega
      have k2 : (0 : Int) < (m : Int) + 1 := by omega
      clear hl2 hlen p1 hml hmem hbd hx HE
      go_wp2_with fail
      refine wp_region_held_drew (S := fun w' => w'.cell? ⟨w.heap.size, 2, none⟩ = some (.int .i64 d) ∧ w'.cell? ⟨w2.heap.size, 0, none⟩ = some (.int .i64 aat) ∧ w'.cell? ⟨w2.heap.size, 1, none⟩ = some (.int .i64 alv) ∧ w'.cell? ⟨w2.heap.size, 2, none⟩ = some (.int .i64 ahd) ∧ w'.cell? ⟨w2.heap.size, 3, none⟩ = some (.slice (some ⟨bb, off, none⟩) (m + 1) cp2) ∧ w'.cell? ⟨bb, off + m * 2, none⟩ = some (.int .i64 E) ∧ Below w.heap.size w w') (by kernel_rfl) ?_ (fun hHeld => ?_)
      · exact ⟨d2, by go_simp, by go_simp, by go_simp, by go_simp, x1, bl_drew (bl_alloc dB _)⟩
      try simp only [Act.put, List.setIfInBounds_toArray, List.set_cons_zero, List.set_cons_succ]
      (refine tk (i := 0) rfl rfl hHeld ?_)
      (refine tk (i := 1) rfl rfl hHeld ?_)
      (refine tk (i := 2) rfl rfl hHeld ?_)
      (refine tk (i := 3) rfl rfl hHeld ?_)
      (refine tk (i := 4) rfl rfl hHeld ?_)
      (refine tk (i := 5) rfl rfl hHeld ?_)
      (refine tk (i := 6) rfl rfl hHeld ?_)
      (refine tk (i := 7) rfl rfl hHeld ?_)
      (refine tk (i := 8) rfl rfl hHeld ?_)
      (refine tk (i := 9) rfl rfl hHeld ?_)
      (refine tk (i := 10) rfl rfl hHeld ?_)
      (refine tk (i := 11) rfl rfl hHeld ?_)
      (refine tk (i := 12) rfl rfl hHeld ?_)
      (refine tk (i := 13) rfl rfl hHeld ?_)
      refine wpAnyH_done (by kernel_rfl) ?_ _
      obtain ⟨-, -, -, -, -, -, hE⟩ := hHeld
      repeat' (first | go_skip | go_guarded | go_step | go_upon)
      go_ret
      exact ⟨congrArg (fun x => Ending.returned (.int .i64 x)) HV.out, hE⟩
  · rw [if_neg h]
    by_cases h1 : rightL p s
    · rw [decide_eq_true h1] at hrt
      have hh : 0 < s.held := by
        by_cases h2 : 0 < s.held
        · exact h2
        · exact absurd ⟨h1, by omega⟩ h
      clear h h1 hav
      obtain ⟨k, l, d, b, cc, o⟩ := p
      obtain ⟨at_, level, held, L⟩ := s
      unfold St.v Pol.v at *
      dsimp only at *
      have HRT := Go.Lib.hid hrt
      clear hrt
      go_enter Try.func59, Try.ntmps59
      go_wp2_with fail
      refine (HRT.out _ (log_bl hlog (bl_alloc (bl_alloc (bl_refl _) _) _))).mono ?_
      rintro e w1 ⟨rfl, hb⟩
      have hB : Below w.heap.size w w1 := bl_then (bl_alloc (bl_alloc (bl_refl _) _) _) hb
      have c0 := bl_cell (v := .int .i64 k) hb (show World.cell? _ ⟨w.heap.size, 0, none⟩ = _ by go_simp)
      have c1 := bl_cell (v := .int .i64 l) hb (show World.cell? _ ⟨w.heap.size, 1, none⟩ = _ by go_simp)
      have c2 := bl_cell (v := .int .i64 d) hb (show World.cell? _ ⟨w.heap.size, 2, none⟩ = _ by go_simp)
      have c3 := bl_cell (v := .int .i64 b) hb (show World.cell? _ ⟨w.heap.size, 3, none⟩ = _ by go_simp)
      have c4 := bl_cell (v := .int .i64 cc) hb (show World.cell? _ ⟨w.heap.size, 4, none⟩ = _ by go_simp)
      have c5 := bl_cell (v := .bool o) hb (show World.cell? _ ⟨w.heap.size, 5, none⟩ = _ by go_simp)
      have c6 := bl_cell (v := .int .i64 at_) hb (show World.cell? _ ⟨w.heap.size + 1, 0, none⟩ = _ by go_simp)
      have c7 := bl_cell (v := .int .i64 level) hb (show World.cell? _ ⟨w.heap.size + 1, 1, none⟩ = _ by go_simp)
      have c8 := bl_cell (v := .int .i64 held) hb (show World.cell? _ ⟨w.heap.size + 1, 2, none⟩ = _ by go_simp)
      have c9 := bl_cell (v := .slice a n c) hb (show World.cell? _ ⟨w.heap.size + 1, 3, none⟩ = _ by go_simp)
      clear hb HRT
      go_wp2_with fail
      go_ret
      exact ⟨rfl, hB⟩
    · rw [decide_eq_false h1] at hrt
      clear h h1 hav
      unfold St.v Pol.v at *
      have HRT := Go.Lib.hid hrt
      clear hrt
      go_enter Try.func59, Try.ntmps59
      go_wp2_with fail
      refine (HRT.out _ (log_bl hlog (bl_alloc (bl_alloc (bl_refl _) _) _))).mono ?_
      rintro e w1 ⟨rfl, hb⟩
      have hB : Below w.heap.size w w1 := bl_then (bl_alloc (bl_alloc (bl_refl _) _) _) hb
      go_wp2_with fail
      go_ret
      exact ⟨rfl, hB⟩
end Go.Proofs.Ythinbjknkjpdjaa

namespace Go.Proofs.Ythinbjknkjpdjaa
open Go.RowKit
set_option linter.unusedVariables false
set_option linter.unusedSimpArgs false

theorem meth_right (x : Array Value) (w : World) : (method 60 76 (.agg x) "tapster/limiter.right").run Try.prog w = .ok (115, .agg x) w := by kernel_rfl
theorem meth_until (x : Array Value) (w : World) : (method 60 76 (.agg x) "tapster/limiter.until").run Try.prog w = .ok (118, .agg x) w := by kernel_rfl
theorem meth_advance (x : Array Value) (w : World) : (method 60 76 (.agg x) "tapster/limiter.advance").run Try.prog w = .ok (111, .agg x) w := by kernel_rfl
def rightP (p : Pol) (s : St) : Bool := if p.kind = 2 then decide (rightG p s) else if p.kind = 3 then decide (rightL p s) else if p.kind = 4 then decide (rightC p s) else decide (rightB p s)
def untilP (p : Pol) (s : St) (now : Int) : Int := if p.kind = 2 then untilG p s now else if p.kind = 3 then untilL p s now else if p.kind = 4 then untilC p s now else untilB p s now
def advP (p : Pol) (s : St) (now : Int) : St := if p.kind = 2 then advG p s now else if p.kind = 3 then advL p s now else if p.kind = 4 then advC p s now else advB p s now
theorem kern_right (p : Pol) (s : St) (a : Option Addr) (n c : Nat) (w : World) (hl : LogAt w a n c s.log) : Calls Try.prog 115 #[.agg (kern p.kind), p.v, s.v a n c] w fun e w' => e = .returned (.bool (rightP p s)) ∧ Below w.heap.size w w' := by
  unfold kern rightP
  by_cases h2 : p.kind = 2
  · rw [if_pos h2, if_pos h2]; exact made_right _ (fun _ _ => by kernel_rfl) _ _ _ _ _ _ _ p s a n c _ (fun w hw => gright_any p s a n c hw.1 w) w hl
  rw [if_neg h2, if_neg h2]
  by_cases h3 : p.kind = 3
  · rw [if_pos h3, if_pos h3]; exact made_right _ (fun _ _ => by kernel_rfl) _ _ _ _ _ _ _ p s a n c _ (fun w hw => wright_any p s a n c w hw) w hl
  rw [if_neg h3, if_neg h3]
  by_cases h4 : p.kind = 4
  · rw [if_pos h4, if_pos h4]; exact made_right _ (fun _ _ => by kernel_rfl) _ _ _ _ _ _ _ p s a n c _ (fun w hw => cright_any p s a n c hw.1 w) w hl
  rw [if_neg h4, if_neg h4]
  exact made_right _ (fun _ _ => by kernel_rfl) _ _ _ _ _ _ _ p s a n c _ (fun w hw => bright_any p s a n c hw.1 w) w hl
theorem kern_until (p : Pol) (s : St) (a : Option Addr) (n c : Nat) (now : Int) (w : World) (hl : LogAt w a n c s.log) : Calls Try.prog 118 #[.agg (kern p.kind), p.v, s.v a n c, .int .i64 now] w fun e w' => e = .returned (.int .i64 (untilP p s now)) ∧ Below w.heap.size w w' := by
  unfold kern untilP
  by_cases h2 : p.kind = 2
  · rw [if_pos h2, if_pos h2]; exact made_until _ (fun _ _ => by kernel_rfl) _ _ _ _ _ _ _ p s a n c now _ (fun w hw => guntil_any p s a n c now hw.1 w) w hl
  rw [if_neg h2, if_neg h2]
  by_cases h3 : p.kind = 3
  · rw [if_pos h3, if_pos h3]; exact made_until _ (fun _ _ => by kernel_rfl) _ _ _ _ _ _ _ p s a n c now _ (fun w hw => wuntil_any p s a n c now w hw) w hl
  rw [if_neg h3, if_neg h3]
  by_cases h4 : p.kind = 4
  · rw [if_pos h4, if_pos h4]; exact made_until _ (fun _ _ => by kernel_rfl) _ _ _ _ _ _ _ p s a n c now _ (fun w hw => cuntil_any p s a n c now hw.1 w) w hl
  rw [if_neg h4, if_neg h4]
  exact made_until _ (fun _ _ => by kernel_rfl) _ _ _ _ _ _ _ p s a n c now _ (fun w hw => buntil_any p s a n c now hw.1 w) w hl
theorem advG_log (p : Pol) (s : St) (now : Int) : (advG p s now).log = [] := by unfold advG St.none; split <;> rfl
theorem advC_log (p : Pol) (s : St) (now : Int) : (advC p s now).log = [] := by unfold advC St.none; split <;> rfl
theorem advB_log (p : Pol) (s : St) (now : Int) : (advB p s now).log = [] := by unfold advB St.none; split <;> rfl
theorem kern_advance (p : Pol) (s : St) (a : Option Addr) (n c : Nat) (now : Int) (w : World) (hl : LogAt w a n c s.log) : Calls Try.prog 111 #[.agg (kern p.kind), p.v, s.v a n c, .int .i64 now] w (PostS a n (advP p s now) w) := by
  unfold kern advP
  by_cases h2 : p.kind = 2
  · rw [if_pos h2, if_pos h2]; exact made_advance _ (fun _ _ => by kernel_rfl) _ _ _ _ _ _ _ p s a n c now _ (fun w hw => (gadv_any p s a n c now hw.1 w).mono fun e w' hh => s_none (advG_log p s now) hh) w hl
  rw [if_neg h2, if_neg h2]
  by_cases h3 : p.kind = 3
  · rw [if_pos h3, if_pos h3]; exact made_advance _ (fun _ _ => by kernel_rfl) _ _ _ _ _ _ _ p s a n c now _ (fun w hw => (wadv_any p s a n c now w hw).mono fun e w' hh => s_own hh) w hl
  rw [if_neg h3, if_neg h3]
  by_cases h4 : p.kind = 4
  · rw [if_pos h4, if_pos h4]; exact made_advance _ (fun _ _ => by kernel_rfl) _ _ _ _ _ _ _ p s a n c now _ (fun w hw => (cadv_any p s a n c now hw.1 w).mono fun e w' hh => s_none (advC_log p s now) hh) w hl
  rw [if_neg h4, if_neg h4]
  exact made_advance _ (fun _ _ => by kernel_rfl) _ _ _ _ _ _ _ p s a n c now _ (fun w hw => (badv_any p s a n c now hw.1 w).mono fun e w' hh => s_none (advB_log p s now) hh) w hl

set_option maxHeartbeats 1000000 in
set_option maxRecDepth 100000 in
theorem lright_any (p : Pol) (s : St) (a : Option Addr) (n c : Nat) (w : World) (hl : LogAt w a n c s.log) : Calls Try.prog 27 #[p.v, s.v a n c] w fun e w' => e = .returned (.bool (rightP p s)) ∧ Below w.heap.size w w' := by
  have hof := of_any p
  have hkc := fun W hW => kern_right p s a n c W hW
  have hme := meth_right
  generalize kern p.kind = KV at *
  generalize rightP p s = R at *
  obtain ⟨k, l, d, b, cc, o⟩ := p
  obtain ⟨at_, level, held, L⟩ := s
  unfold St.v Pol.v at *
  dsimp only at *
  have HOF := Go.Lib.hid hof
  have HKC := Go.Lib.hid hkc
  have HL := Go.Lib.hid hl
  clear hof hkc hl
  go_enter Try.func27, Try.ntmps27
  go_wp2_with fail
  refine wp_abs (S0 := fun w' => w'.cell? ⟨w.heap.size, 0, none⟩ = some (.int .i64 k) ∧ w'.cell? ⟨w.heap.size, 1, none⟩ = some (.int .i64 l) ∧ w'.cell? ⟨w.heap.size, 2, none⟩ = some (.int .i64 d) ∧ w'.cell? ⟨w.heap.size, 3, none⟩ = some (.int .i64 b) ∧ w'.cell? ⟨w.heap.size, 4, none⟩ = some (.int .i64 cc) ∧ w'.cell? ⟨w.heap.size, 5, none⟩ = some (.bool o) ∧ w'.cell? ⟨w.heap.size + 1, 0, none⟩ = some (.int .i64 at_) ∧ w'.cell? ⟨w.heap.size + 1, 1, none⟩ = some (.int .i64 level) ∧ w'.cell? ⟨w.heap.size + 1, 2, none⟩ = some (.int .i64 held) ∧ w'.cell? ⟨w.heap.size + 1, 3, none⟩ = some (.slice a n c) ∧ LogAt w' a n c L ∧ Below w.heap.size w w') ⟨by go_simp, by go_simp, by go_simp, by go_simp, by go_simp, by go_simp, by go_simp, by go_simp, by go_simp, by go_simp, log_bl HL.out (bl_alloc (bl_alloc (bl_refl _) _) _), bl_alloc (bl_alloc (bl_refl _) _) _⟩ ?_
  rintro W ⟨c0, c1, c2, c3, c4, c5, c6, c7, c8, c9, hLg, hB⟩
  refine wp_region_held_drew (S := fun w' => w'.cell? ⟨w.heap.size, 0, none⟩ = some (.int .i64 k) ∧ w'.cell? ⟨w.heap.size, 1, none⟩ = some (.int .i64 l) ∧ w'.cell? ⟨w.heap.size, 2, none⟩ = some (.int .i64 d) ∧ w'.cell? ⟨w.heap.size, 3, none⟩ = some (.int .i64 b) ∧ w'.cell? ⟨w.heap.size, 4, none⟩ = some (.int .i64 cc) ∧ w'.cell? ⟨w.heap.size, 5, none⟩ = some (.bool o) ∧ w'.cell? ⟨w.heap.size + 1, 0, none⟩ = some (.int .i64 at_) ∧ w'.cell? ⟨w.heap.size + 1, 1, none⟩ = some (.int .i64 level) ∧ w'.cell? ⟨w.heap.size + 1, 2, none⟩ = some (.int .i64 held) ∧ w'.cell? ⟨w.heap.size + 1, 3, none⟩ = some (.slice a n c) ∧ LogAt w' a n c L ∧ Below w.heap.size w w') (by kernel_rfl) ?_ (fun hHeld => ?_)
  · exact ⟨c0, c1, c2, c3, c4, c5, c6, c7, c8, c9, hLg, bl_drew hB⟩
  try simp only [Act.put, List.setIfInBounds_toArray, List.set_cons_zero, List.set_cons_succ]
  all_goals ((refine tk (i := 0) rfl rfl hHeld ?_))
  all_goals ((refine tk (i := 2) rfl rfl hHeld ?_))
  all_goals ((refine tk (i := 3) rfl rfl hHeld ?_))
  all_goals ((refine callH (i := 1) rfl hHeld (fun W hW K hK => ?_); clear hHeld; (try dsimp only at hW); go_simp; refine (HOF.out _).mono ?_; rintro e w1 ⟨rfl, hb⟩; go_wp2_with fail; refine hK.out _ _ ?_ (fun hHeld => ?_); (focus ((try dsimp only); (obtain ⟨h0, h1, h2, h3, h4, h5, h6, h7, h8, h9, hl', hB'⟩ := hW; exact ⟨bl_cell hb h0, bl_cell hb h1, bl_cell hb h2, bl_cell hb h3, bl_cell hb h4, bl_cell hb h5, bl_cell hb h6, bl_cell hb h7, bl_cell hb h8, bl_cell hb h9, log_bl hl' hb, bl_then hB' hb⟩))); clear hK K; try simp only [Act.put, List.setIfInBounds_toArray, List.set_cons_zero, List.set_cons_succ]))
  all_goals ((refine callH (i := 4) rfl hHeld (fun W hW K hK => ?_); clear hHeld; (try dsimp only at hW); have hwl := hW.2.2.2.2.2.2.2.2.2.2.1; go_simp; refine (HKC.out _ hwl).mono ?_; rintro e w1 ⟨rfl, hb⟩; go_wp2_with fail; refine hK.out _ _ ?_ (fun hHeld => ?_); (focus ((try dsimp only); (obtain ⟨h0, h1, h2, h3, h4, h5, h6, h7, h8, h9, hl', hB'⟩ := hW; exact ⟨bl_cell hb h0, bl_cell hb h1, bl_cell hb h2, bl_cell hb h3, bl_cell hb h4, bl_cell hb h5, bl_cell hb h6, bl_cell hb h7, bl_cell hb h8, bl_cell hb h9, log_bl hl' hb, bl_then hB' hb⟩))); clear hK K; try simp only [Act.put, List.setIfInBounds_toArray, List.set_cons_zero, List.set_cons_succ]))
  all_goals ((refine tk (i := 5) rfl rfl hHeld ?_))
  all_goals (refine wpAnyH_done (by kernel_rfl) ?_ _)
  obtain ⟨-, -, -, -, -, -, -, -, -, -, -, hE⟩ := hHeld
  repeat' (first | go_skip | go_guarded | go_step | go_upon)
  go_ret
  exact ⟨rfl, hE⟩

set_option maxHeartbeats 1000000 in
set_option maxRecDepth 100000 in
theorem luntil_any (p : Pol) (s : St) (a : Option Addr) (n c : Nat) (now : Int) (w : World) (hl : LogAt w a n c s.log) : Calls Try.prog 29 #[p.v, s.v a n c, .int .i64 now] w fun e w' => e = .returned (.int .i64 (untilP p s now)) ∧ Below w.heap.size w w' := by
  have hof := of_any p
  have hkc := fun W hW => kern_until p s a n c now W hW
  have hme := meth_until
  generalize kern p.kind = KV at *
  generalize untilP p s now = R at *
  obtain ⟨k, l, d, b, cc, o⟩ := p
  obtain ⟨at_, level, held, L⟩ := s
  unfold St.v Pol.v at *
  dsimp only at *
  have HOF := Go.Lib.hid hof
  have HKC := Go.Lib.hid hkc
  have HL := Go.Lib.hid hl
  clear hof hkc hl
  go_enter Try.func29, Try.ntmps29
  go_wp2_with fail
  refine wp_abs (S0 := fun w' => w'.cell? ⟨w.heap.size, 0, none⟩ = some (.int .i64 k) ∧ w'.cell? ⟨w.heap.size, 1, none⟩ = some (.int .i64 l) ∧ w'.cell? ⟨w.heap.size, 2, none⟩ = some (.int .i64 d) ∧ w'.cell? ⟨w.heap.size, 3, none⟩ = some (.int .i64 b) ∧ w'.cell? ⟨w.heap.size, 4, none⟩ = some (.int .i64 cc) ∧ w'.cell? ⟨w.heap.size, 5, none⟩ = some (.bool o) ∧ w'.cell? ⟨w.heap.size + 1, 0, none⟩ = some (.int .i64 at_) ∧ w'.cell? ⟨w.heap.size + 1, 1, none⟩ = some (.int .i64 level) ∧ w'.cell? ⟨w.heap.size + 1, 2, none⟩ = some (.int .i64 held) ∧ w'.cell? ⟨w.heap.size + 1, 3, none⟩ = some (.slice a n c) ∧ LogAt w' a n c L ∧ Below w.heap.size w w') ⟨by go_simp, by go_simp, by go_simp, by go_simp, by go_simp, by go_simp, by go_simp, by go_simp, by go_simp, by go_simp, log_bl HL.out (bl_alloc (bl_alloc (bl_refl _) _) _), bl_alloc (bl_alloc (bl_refl _) _) _⟩ ?_
  rintro W ⟨c0, c1, c2, c3, c4, c5, c6, c7, c8, c9, hLg, hB⟩
  refine wp_region_held_drew (S := fun w' => w'.cell? ⟨w.heap.size, 0, none⟩ = some (.int .i64 k) ∧ w'.cell? ⟨w.heap.size, 1, none⟩ = some (.int .i64 l) ∧ w'.cell? ⟨w.heap.size, 2, none⟩ = some (.int .i64 d) ∧ w'.cell? ⟨w.heap.size, 3, none⟩ = some (.int .i64 b) ∧ w'.cell? ⟨w.heap.size, 4, none⟩ = some (.int .i64 cc) ∧ w'.cell? ⟨w.heap.size, 5, none⟩ = some (.bool o) ∧ w'.cell? ⟨w.heap.size + 1, 0, none⟩ = some (.int .i64 at_) ∧ w'.cell? ⟨w.heap.size + 1, 1, none⟩ = some (.int .i64 level) ∧ w'.cell? ⟨w.heap.size + 1, 2, none⟩ = some (.int .i64 held) ∧ w'.cell? ⟨w.heap.size + 1, 3, none⟩ = some (.slice a n c) ∧ LogAt w' a n c L ∧ Below w.heap.size w w') (by kernel_rfl) ?_ (fun hHeld => ?_)
  · exact ⟨c0, c1, c2, c3, c4, c5, c6, c7, c8, c9, hLg, bl_drew hB⟩
  try simp only [Act.put, List.setIfInBounds_toArray, List.set_cons_zero, List.set_cons_succ]
  all_goals ((refine tk (i := 0) rfl rfl hHeld ?_))
  all_goals ((refine tk (i := 2) rfl rfl hHeld ?_))
  all_goals ((refine tk (i := 3) rfl rfl hHeld ?_))
  all_goals ((refine tk (i := 4) rfl rfl hHeld ?_))
  all_goals ((refine callH (i := 1) rfl hHeld (fun W hW K hK => ?_); clear hHeld; (try dsimp only at hW); go_simp; refine (HOF.out _).mono ?_; rintro e w1 ⟨rfl, hb⟩; go_wp2_with fail; refine hK.out _ _ ?_ (fun hHeld => ?_); (focus ((try dsimp only); (obtain ⟨h0, h1, h2, h3, h4, h5, h6, h7, h8, h9, hl', hB'⟩ := hW; exact ⟨bl_cell hb h0, bl_cell hb h1, bl_cell hb h2, bl_cell hb h3, bl_cell hb h4, bl_cell hb h5, bl_cell hb h6, bl_cell hb h7, bl_cell hb h8, bl_cell hb h9, log_bl hl' hb, bl_then hB' hb⟩))); clear hK K; try simp only [Act.put, List.setIfInBounds_toArray, List.set_cons_zero, List.set_cons_succ]))
  all_goals ((refine callH (i := 5) rfl hHeld (fun W hW K hK => ?_); clear hHeld; (try dsimp only at hW); have hwl := hW.2.2.2.2.2.2.2.2.2.2.1; go_simp; refine (HKC.out _ hwl).mono ?_; rintro e w1 ⟨rfl, hb⟩; go_wp2_with fail; refine hK.out _ _ ?_ (fun hHeld => ?_); (focus ((try dsimp only); (obtain ⟨h0, h1, h2, h3, h4, h5, h6, h7, h8, h9, hl', hB'⟩ := hW; exact ⟨bl_cell hb h0, bl_cell hb h1, bl_cell hb h2, bl_cell hb h3, bl_cell hb h4, bl_cell hb h5, bl_cell hb h6, bl_cell hb h7, bl_cell hb h8, bl_cell hb h9, log_bl hl' hb, bl_then hB' hb⟩))); clear hK K; try simp only [Act.put, List.setIfInBounds_toArray, List.set_cons_zero, List.set_cons_succ]))
  all_goals ((refine tk (i := 6) rfl rfl hHeld ?_))
  all_goals (refine wpAnyH_done (by kernel_rfl) ?_ _)
  obtain ⟨-, -, -, -, -, -, -, -, -, -, -, hE⟩ := hHeld
  repeat' (first | go_skip | go_guarded | go_step | go_upon)
  go_ret
  exact ⟨rfl, hE⟩

set_option maxHeartbeats 1000000 in
set_option maxRecDepth 100000 in
theorem lfresh_any (p : Pol) (s : St) (a : Option Addr) (n c : Nat) (now : Int) (w : World) (hl : LogAt w a n c s.log) : Calls Try.prog 30 #[p.v, s.v a n c, .int .i64 now] w fun e w' => e = .returned (.bool (untilP p s now == 0)) ∧ Below w.heap.size w w' := by
  have hof := of_any p
  have hkc := fun W hW => luntil_any p s a n c now W hW
  generalize kern p.kind = KV at *
  generalize untilP p s now = R at *
  obtain ⟨k, l, d, b, cc, o⟩ := p
  obtain ⟨at_, level, held, L⟩ := s
  unfold St.v Pol.v at *
  dsimp only at *
  have HOF := Go.Lib.hid hof
  have HKC := Go.Lib.hid hkc
  have HL := Go.Lib.hid hl
  clear hof hkc hl
  go_enter Try.func30, Try.ntmps30
  go_wp2_with fail
  refine (HKC.out _ (log_bl HL.out (bl_alloc (bl_alloc (bl_refl _) _) _))).mono ?_
  rintro e w1 ⟨rfl, hb⟩
  go_wp2_with fail
  go_ret
  exact ⟨by first | rfl | simp, bl_then (bl_alloc (bl_alloc (bl_refl _) _) _) hb⟩

set_option maxHeartbeats 1000000 in
set_option maxRecDepth 100000 in
theorem ladv_any (p : Pol) (s : St) (a : Option Addr) (n c : Nat) (now : Int) (w : World) (hl : LogAt w a n c s.log) : Calls Try.prog 28 #[p.v, s.v a n c, .int .i64 now] w (PostS a n (advP p s now) w) := by
  have hof := of_any p
  have hkc := fun W hW => kern_advance p s a n c now W hW
  have hme := meth_advance
  generalize kern p.kind = KV at *
  generalize advP p s now = R at *
  obtain ⟨k, l, d, b, cc, o⟩ := p
  obtain ⟨at_, level, held, L⟩ := s
  obtain ⟨rat, rlv, rhd, rL⟩ := R
  unfold St.v Pol.v at *
  dsimp only at *
  have HOF := Go.Lib.hid hof
  have HKC := Go.Lib.hid hkc
  have HL := Go.Lib.hid hl
  clear hof hkc hl
  go_enter Try.func28, Try.ntmps28
  go_wp2_with fail
  refine wp_abs (S0 := fun w' => w'.cell? ⟨w.heap.size, 0, none⟩ = some (.int .i64 k) ∧ w'.cell? ⟨w.heap.size, 1, none⟩ = some (.int .i64 l) ∧ w'.cell? ⟨w.heap.size, 2, none⟩ = some (.int .i64 d) ∧ w'.cell? ⟨w.heap.size, 3, none⟩ = some (.int .i64 b) ∧ w'.cell? ⟨w.heap.size, 4, none⟩ = some (.int .i64 cc) ∧ w'.cell? ⟨w.heap.size, 5, none⟩ = some (.bool o) ∧ w'.cell? ⟨w.heap.size + 1, 0, none⟩ = some (.int .i64 at_) ∧ w'.cell? ⟨w.heap.size + 1, 1, none⟩ = some (.int .i64 level) ∧ w'.cell? ⟨w.heap.size + 1, 2, none⟩ = some (.int .i64 held) ∧ w'.cell? ⟨w.heap.size + 1, 3, none⟩ = some (.slice a n c) ∧ LogAt w' a n c L ∧ ResB w' (w.heap.size + 1 + 1) ∧ Below w.heap.size w w') ⟨by go_simp, by go_simp, by go_simp, by go_simp, by go_simp, by go_simp, by go_simp, by go_simp, by go_simp, by go_simp, log_bl HL.out (bl_alloc (bl_alloc (bl_alloc (bl_refl _) _) _) _), res_new _ _ _ _ _ _ (by simp), bl_alloc (bl_alloc (bl_alloc (bl_refl _) _) _) _⟩ ?_
  rintro W ⟨c0, c1, c2, c3, c4, c5, c6, c7, c8, c9, hLg, hR, hB⟩
  refine wp_region_held_drew (S := fun w' => w'.cell? ⟨w.heap.size, 0, none⟩ = some (.int .i64 k) ∧ w'.cell? ⟨w.heap.size, 1, none⟩ = some (.int .i64 l) ∧ w'.cell? ⟨w.heap.size, 2, none⟩ = some (.int .i64 d) ∧ w'.cell? ⟨w.heap.size, 3, none⟩ = some (.int .i64 b) ∧ w'.cell? ⟨w.heap.size, 4, none⟩ = some (.int .i64 cc) ∧ w'.cell? ⟨w.heap.size, 5, none⟩ = some (.bool o) ∧ w'.cell? ⟨w.heap.size + 1, 0, none⟩ = some (.int .i64 at_) ∧ w'.cell? ⟨w.heap.size + 1, 1, none⟩ = some (.int .i64 level) ∧ w'.cell? ⟨w.heap.size + 1, 2, none⟩ = some (.int .i64 held) ∧ w'.cell? ⟨w.heap.size + 1, 3, none⟩ = some (.slice a n c) ∧ LogAt w' a n c L ∧ ResB w' (w.heap.size + 1 + 1) ∧ Below w.heap.size w w') (by kernel_rfl) ?_ (fun hHeld => ?_)
  · exact ⟨c0, c1, c2, c3, c4, c5, c6, c7, c8, c9, hLg, hR, bl_drew hB⟩
  try simp only [Act.put, List.setIfInBounds_toArray, List.set_cons_zero, List.set_cons_succ]
  (refine tk (i := 0) rfl rfl hHeld ?_)
  (refine tk (i := 2) rfl rfl hHeld ?_)
  (refine tk (i := 3) rfl rfl hHeld ?_)
  (refine tk (i := 4) rfl rfl hHeld ?_)
  (refine callH (i := 1) rfl hHeld (fun W hW K hK => ?_); clear hHeld; (try dsimp only at hW); go_simp; refine (HOF.out _).mono ?_; rintro e w1 ⟨rfl, hb⟩; go_wp2_with fail; refine hK.out _ _ ?_ (fun hHeld => ?_); (focus ((try dsimp only); (obtain ⟨h0, h1, h2, h3, h4, h5, h6, h7, h8, h9, hl', hr', hB'⟩ := hW; exact ⟨bl_cell hb h0, bl_cell hb h1, bl_cell hb h2, bl_cell hb h3, bl_cell hb h4, bl_cell hb h5, bl_cell hb h6, bl_cell hb h7, bl_cell hb h8, bl_cell hb h9, log_bl hl' hb, res_bl hr' hb, bl_then hB' hb⟩))); clear hK K; try simp only [Act.put, List.setIfInBounds_toArray, List.set_cons_zero, List.set_cons_succ])
  (refine callH (i := 5) rfl hHeld (fun W hW K hK => ?_); clear hHeld; (try dsimp only at hW); have hwl := hW.2.2.2.2.2.2.2.2.2.2.1; have hrl := res_lt hW.2.2.2.2.2.2.2.2.2.2.2.1; have hbw := hW.2.2.2.2.2.2.2.2.2.2.2.2; go_simp; refine (HKC.out _ hwl).mono ?_; rintro e w2 ⟨a9, n9, c9, rfl, hl9, hs9, hb⟩; dsimp only; go_wp2_with fail; refine hK.out _ _ ?_ (fun hHeld => ?_); (focus ((try dsimp only); (obtain ⟨h0, h1, h2, h3, h4, h5, h6, h7, h8, h9, hl', hr', hB'⟩ := hW; exact ⟨bl_cell hb h0, bl_cell hb h1, bl_cell hb h2, bl_cell hb h3, bl_cell hb h4, bl_cell hb h5, bl_cell hb h6, bl_cell hb h7, bl_cell hb h8, bl_cell hb h9, log_bl hl' hb, res_bl hr' hb, bl_then hB' hb⟩))); clear hK K; try simp only [Act.put, List.setIfInBounds_toArray, List.set_cons_zero, List.set_cons_succ])
  (refine callC (i := 6) rfl (fun K hK => ?_); obtain ⟨h0, h1, h2, h3, h4, h5, h6, h7, h8, h9, hl', hr', hB'⟩ := hHeld; obtain ⟨f0, f1, f2, f3, u0, u1, u2, u3, i0, i1, i2, i3⟩ := res_all hr'; have hne := src_ne (b := w.heap.size + 1 + 1) HL.out hs9 (by omega) (by omega); have hso := src_out (w := w) hs9 hbw.size; have HNE := Go.Lib.hid hne; have HSO := Go.Lib.hid hso; have HL9 := Go.Lib.hid hl9; clear hne hso hs9 hl9; unfold St.v; go_simp; refine hK.out _ _ ?_ (fun hHeld => ?_); (focus ((try dsimp only); (have e0 : w.heap.size + 1 + 1 ≠ w.heap.size := (by omega); have e1 : w.heap.size + 1 + 1 ≠ w.heap.size + 1 := (by omega); exact ⟨far4 h0 e0, far4 h1 e0, far4 h2 e0, far4 h3 e0, far4 h4 e0, far4 h5 e0, far4 h6 e1, far4 h7 e1, far4 h8 e1, far4 h9 e1, log_set4 hl' (fun ad e hn => by have := log_lt HL.out ad e hn; omega), res4 hr', bl4 hB' (by omega)⟩))); clear hK K; try simp only [Act.put, List.setIfInBounds_toArray, List.set_cons_zero, List.set_cons_succ])
  refine wpAnyH_done (by kernel_rfl) ?_ _
  obtain ⟨-, -, -, -, -, -, -, -, -, -, -, -, hE⟩ := hHeld
  repeat' (first | go_skip | go_guarded | go_step | go_upon)
  (try simp only [Exit.inBlock, Exit.then])
  refine bodyPost_ret (results_state rfl _ _ (by rfl) (set4r hr')) rfl ⟨a9, n9, c9, rfl, log_set4 HL9.out HNE.out, HSO.out, hE⟩
end Go.Proofs.Ythinbjknkjpdjaa

namespace Go.Proofs.Ythinbjknkjpdjaa
open Go.RowKit
set_option linter.unusedVariables false
set_option linter.unusedSimpArgs false

theorem gone_stop {d a over : Int} (h : over ≤ 0) : ∀ (L : List (Int × Int)), goneT d a over L = 0
  | [] => rfl
  | e :: l => by rw [goneT, if_pos h]
theorem gone_drop {d a over : Int} {L : List (Int × Int)} {k : Nat} (hk : k < L.length) (h0 : ¬ over ≤ 0) :
    goneT d a over (L.drop k) = if over - (L.getD k (0, 0)).2 ≤ 0 then (L.getD k (0, 0)).1 + d - a else goneT d a (over - (L.getD k (0, 0)).2) (L.drop (k + 1)) := by
  rw [drop_getD L k hk, goneT, if_neg h0]
set_option maxHeartbeats 1000000 in
set_option maxRecDepth 100000 in
theorem wretry_any (p : Pol) (s : St) (a : Option Addr) (n c : Nat) (now cost : Int) (w : World) (hlog : LogAt w a n c s.log) : Calls Try.prog 60 #[p.v, s.v a n c, .int .i64 now, .int .i64 cost] w fun e w' => e = .returned (.tuple #[.int .i64 (retryL p s now cost).1, .bool (retryL p s now cost).2]) ∧ Below w.heap.size w w' := by
  have hrt := fun W hW => wright_any p s a n c W hW
  have hav := fun W hW => wadv_any p s a n c now W hW
  unfold retryL
  by_cases h : rightL p s ∧ 1 ≤ cost ∧ cost ≤ p.limit - s.held
  · rw [if_pos h]
    obtain ⟨h, hc1, hc2⟩ := h
    rw [decide_eq_true h] at hrt
    have hall := risen_all h.2.2.2.2.2.2.1
    have hsub := live_sub p.period (up s.at_ (clampT now)) s.log
    have hcr := clampT_range now
    have hAe : (advL p s now).log = live p.period (up s.at_ (clampT now)) s.log ∧ 0 ≤ (advL p s now).at_ ∧ (advL p s now).at_ ≤ 9007199254740992 ∧ (advL p s now).held = s.held := by
      have r1 := h.2.1
      have r2 := h.2.2.1
      unfold advL
      rw [if_pos h]
      refine ⟨rfl, ?_, ?_, rfl⟩ <;> (dsimp only; unfold up; split <;> omega)
    rw [← hAe.1] at hsub
    obtain ⟨⟨q0, q1, q2, q3, q4, q5, q6, q7⟩, r1, r2, r3, r4, r5, r6, r7, r8⟩ := h
    obtain ⟨-, hA1, hA2, hA3⟩ := hAe
    generalize advL p s now = A at *
    have hlen := hlog.1
    have hent : ∀ e ∈ A.log, (0 ≤ e.1 ∧ e.1 ≤ 9007199254740992) ∧ 0 ≤ e.2 ∧ e.2 ≤ 1048576 := fun e he => by have := hall e (hsub.1 e he); omega
    have hsb := sumL_bound A.log 1048576 (fun e he => (hent e he).2)
    have hl2 : A.log.length ≤ 100 := by have := hsub.2; omega
    have hsum := fun a2 m2 c2 W (hW : LogAt W a2 m2 c2 A.log) => sum_any a2 m2 c2 A.log W hW (by have := hW.1; omega) (fun e he => (hent e he).2)
    have hd : 1 ≤ p.period ∧ p.period ≤ 1099511627776 := by omega
    have hw0 : IntKind.i64.wrap (p.limit - s.held) = p.limit - s.held := IntWalk.i64_in _ (by omega)
    have hw1 : IntKind.i64.wrap (s.held + sumL A.log) = s.held + sumL A.log := IntWalk.i64_in _ (by omega)
    have hw2 : IntKind.i64.wrap (s.held + sumL A.log + cost) = s.held + sumL A.log + cost := IntWalk.i64_in _ (by omega)
    have hw3 : IntKind.i64.wrap (s.held + sumL A.log + cost - p.limit) = s.held + sumL A.log + cost - p.limit := IntWalk.i64_in _ (by omega)
    have hov : -4000000 ≤ s.held + sumL A.log + cost - p.limit ∧ s.held + sumL A.log + cost - p.limit ≤ 1000000000 := by omega
    have hc3 : ¬ cost < 1 := by omega
    have hc4 : ¬ p.limit - s.held < cost := by omega
    clear hall hsub hcr r1 r2 r3 r4 r6 r7 r8 q0 q1 q2 q3 q4 q5 q6 q7 hsb hlen hc1 hc2
    obtain ⟨k, l, d, b, cc, o⟩ := p
    obtain ⟨at_, level, held, L⟩ := s
    obtain ⟨aat, alv, ahd, L2⟩ := A
    unfold St.v Pol.v at *
    dsimp only at *
    subst r5 hA3
    generalize hS2 : sumL L2 = S2 at *
    have HRT := Go.Lib.hid hrt
    have HAV := Go.Lib.hid hav
    have HSM := Go.Lib.hid hsum
    have HLOG := Go.Lib.hid hlog
    have HE := Go.Lib.hid (And.intro hent (And.intro hd (And.intro hA1 (And.intro hA2 (And.intro hov hl2)))))
    clear hrt hav hlog hent hd hA1 hA2 hsum hov hl2 hS2
    go_enter Try.func60, Try.ntmps60
    go_wp2_with fail
    refine (HRT.out _ (log_bl HLOG.out (bl_alloc (bl_alloc (bl_refl _) _) _))).mono ?_
    rintro e w1 ⟨rfl, hb⟩
    have hB : Below w.heap.size w w1 := bl_then (bl_alloc (bl_alloc (bl_refl _) _) _) hb
    have c0 := bl_cell (v := .int .i64 k) hb (show World.cell? _ ⟨w.heap.size, 0, none⟩ = _ by go_simp)
    have c1 := bl_cell (v := .int .i64 l) hb (show World.cell? _ ⟨w.heap.size, 1, none⟩ = _ by go_simp)
    have c2 := bl_cell (v := .int .i64 d) hb (show World.cell? _ ⟨w.heap.size, 2, none⟩ = _ by go_simp)
    have c3 := bl_cell (v := .int .i64 b) hb (show World.cell? _ ⟨w.heap.size, 3, none⟩ = _ by go_simp)
    have c4 := bl_cell (v := .int .i64 cc) hb (show World.cell? _ ⟨w.heap.size, 4, none⟩ = _ by go_simp)
    have c5 := bl_cell (v := .bool o) hb (show World.cell? _ ⟨w.heap.size, 5, none⟩ = _ by go_simp)
    have c6 := bl_cell (v := .int .i64 at_) hb (show World.cell? _ ⟨w.heap.size + 1, 0, none⟩ = _ by go_simp)
    have c7 := bl_cell (v := .int .i64 0) hb (show World.cell? _ ⟨w.heap.size + 1, 1, none⟩ = _ by go_simp)
    have c8 := bl_cell (v := .int .i64 ahd) hb (show World.cell? _ ⟨w.heap.size + 1, 2, none⟩ = _ by go_simp)
    have c9 := bl_cell (v := .slice a n c) hb (show World.cell? _ ⟨w.heap.size + 1, 3, none⟩ = _ by go_simp)
    have hlg := log_bl HLOG.out hB
    clear hb HRT HLOG
    go_wp2_with fail
    refine (HAV.out _ hlg).mono ?_
    rintro e w2 ⟨⟨v2, m2, rfl, hown⟩, hb⟩
    obtain ⟨a2, cp2, rfl, hl2⟩ := own_log hown
    clear HAV hlg hown
    dsimp only
    have d1 := bl_cell (bl_alloc hb (.cells #[.int .i64 aat, .int .i64 alv, .int .i64 ahd, .slice a2 m2 cp2] 32)) c1
    have d2 := bl_cell (bl_alloc hb (.cells #[.int .i64 aat, .int .i64 alv, .int .i64 ahd, .slice a2 m2 cp2] 32)) c2
    have dB := bl_then hB hb
    have hl3 := log_bl hl2 (bl_alloc (bl_refl w2) (.cells #[.int .i64 aat, .int .i64 alv, .int .i64 ahd, .slice a2 m2 cp2] 32))
    clear hB hb c0 c1 c2 c3 c4 c5 c6 c7 c8 c9
    go_wp2_with fail
    refine wp_region_held_drew (S := fun w' => w'.cell? ⟨w.heap.size, 1, none⟩ = some (.int .i64 l) ∧ w'.cell? ⟨w.heap.size, 2, none⟩ = some (.int .i64 d) ∧ w'.cell? ⟨w2.heap.size, 0, none⟩ = some (.int .i64 aat) ∧ w'.cell? ⟨w2.heap.size, 1, none⟩ = some (.int .i64 alv) ∧ w'.cell? ⟨w2.heap.size, 2, none⟩ = some (.int .i64 ahd) ∧ w'.cell? ⟨w2.heap.size, 3, none⟩ = some (.slice a2 m2 cp2) ∧ LogAt w' a2 m2 cp2 L2 ∧ Below w.heap.size w w') (by kernel_rfl) ?_ (fun hHeld => ?_)
    · exact ⟨d1, d2, by go_simp, by go_simp, by go_simp, by go_simp, hl3, bl_drew (bl_alloc dB _)⟩
    try simp only [Act.put, List.setIfInBounds_toArray, List.set_cons_zero, List.set_cons_succ]
    (refine tk (i := 0) rfl rfl hHeld ?_)
    (refine tk (i := 1) rfl rfl hHeld ?_)
    (refine tk (i := 2) rfl rfl hHeld ?_)
    (refine tk (i := 3) rfl rfl hHeld ?_)
    (refine tk (i := 6) rfl rfl hHeld ?_)
    (refine tk (i := 8) rfl rfl hHeld ?_)
    (refine tk (i := 9) rfl rfl hHeld ?_)
    (refine callH (i := 4) rfl hHeld (fun W hW K hK => ?_); clear hHeld; (try dsimp only at hW); have hwl := hW.2.2.2.2.2.2.1; go_simp; refine (HSM.out _ _ _ _ hwl).mono ?_; rintro e w9 ⟨rfl, hb⟩; go_wp2_with fail; refine hK.out _ _ ?_ (fun hHeld => ?_); (focus ((try dsimp only); (obtain ⟨h0, h1, h2, h3, h4, h5, hl', hB'⟩ := hW; exact ⟨bl_cell hb h0, bl_cell hb h1, bl_cell hb h2, bl_cell hb h3, bl_cell hb h4, bl_cell hb h5, log_bl hl' hb, bl_then hB' hb⟩))); clear hK K; try simp only [Act.put, List.setIfInBounds_toArray, List.set_cons_zero, List.set_cons_succ])
    (refine tk (i := 5) rfl rfl hHeld ?_)
    (refine tk (i := 7) rfl rfl hHeld ?_)
    (refine tk (i := 10) rfl rfl hHeld ?_)
    (refine tk (i := 11) rfl rfl hHeld ?_)
    refine wpAnyH_done (by kernel_rfl) ?_ _
    refine then_abs (F := fun w' => w'.cell? ⟨w.heap.size, 1, none⟩ = some (.int .i64 l) ∧ w'.cell? ⟨w.heap.size, 2, none⟩ = some (.int .i64 d) ∧ w'.cell? ⟨w2.heap.size, 0, none⟩ = some (.int .i64 aat) ∧ w'.cell? ⟨w2.heap.size, 1, none⟩ = some (.int .i64 alv) ∧ w'.cell? ⟨w2.heap.size, 2, none⟩ = some (.int .i64 ahd) ∧ w'.cell? ⟨w2.heap.size, 3, none⟩ = some (.slice a2 m2 cp2) ∧ LogAt w' a2 m2 cp2 L2 ∧ Below w.heap.size w w') hHeld ?_
    clear hHeld dB d1 d2 hl2 hl3 HSM
    rintro W ⟨c0, c1, c2, c3, c4, c5, hlW, hB⟩
    generalize hOV : ahd + S2 + cost - l = OV at *
    have hovb := HE.out.2.2.2.2.1
    have HOV := Go.Lib.hid hOV
    clear hw0 hw1 hw2 hw3 hc3 hc4 hOV
    have HL := Go.Lib.hid hlW
    have hnm : (m2 : Int) ≤ 9223372036854775807 := by have := hlW.2.1; have := hlW.2.2.1; omega
    clear hlW
    go_wp2_with fail
    go_loopw [11, 49] (fun s11 s49 wr => ∃ (j : Nat) (ov : Int), s49 = .int .i64 j ∧ s11 = .int .i64 ov ∧ j ≤ m2 ∧ Hid (Below W.heap.size W wr ∧ goneT d aat OV L2 = goneT d aat ov (L2.drop j) ∧ -4000000 ≤ ov ∧ ov ≤ 1000000000))
      (fun s11 s49 _ => m2 - (intOf s49).toNat)
    case atStart => exact ⟨0, OV, rfl, rfl, Nat.zero_le _, ⟨Below.refl _ _, by simp, hovb.1, hovb.2⟩⟩
    case round =>
      obtain ⟨j, ov, rfl, rfl, hj, H⟩ := hrel
      obtain ⟨hb, hgn, ho1, ho2⟩ := H.out
      have d0 := bl_cell hb c0
      have d1 := bl_cell hb c1
      have d2 := bl_cell hb c2
      have d3 := bl_cell hb c3
      have d4 := bl_cell hb c4
      have d5 := bl_cell hb c5
      have dB : Below w.heap.size w wr := hB.trans (hb.mono hB.size)
      by_cases hjn : j < m2
      · obtain ⟨bb, off, rfl, p1, p2⟩ := HL.out.2.2.2 j hjn
        have g1 := bl_cell hb p1
        have g2 := bl_cell hb p2
        have hjl : j < L2.length := by have := HL.out.1; omega
        have hmem : L2.getD j (0, 0) ∈ L2 := by rw [List.getD_eq_getElem?_getD, List.getElem?_eq_getElem hjl]; exact List.getElem_mem hjl
        have hen := HE.out.1 _ hmem
        have hgd := fun h0 => gone_drop (d := d) (a := aat) (over := ov) hjl h0
        generalize (L2.getD j (0, 0)).1 = E at g1 hen hgd
        generalize (L2.getD j (0, 0)).2 = C at g2 hen hgd
        have hx := HE.out.2
        have k0 : (0 : Int) ≤ (j : Int) := by omega
        have k1 : (j : Int) < (m2 : Int) := by omega
        have hj1 : j + 1 ≤ m2 := hjn
        have hms : m2 - (j + 1) < m2 - j := by omega
        have hbd : ∀ o, Below W.heap.size W (wr.alloc o) := fun o => hb.alloc hb.size o
        have ww1 : IntKind.i64.wrap (ov - C) = ov - C := IntWalk.i64_in _ (by omega)
        have ww2 : IntKind.i64.wrap (E + d) = E + d := IntWalk.i64_in _ (by omega)
        have ww3 : IntKind.i64.wrap (E + d - aat) = E + d - aat := IntWalk.i64_in _ (by omega)
        have HO := Go.Lib.hid (And.intro ho1 (And.intro ho2 hen))
        have HGN := Go.Lib.hid hgn
        have HGD := Go.Lib.hid hgd
        clear p1 p2 hjl hmem hen hgn hgd hx H ho1 ho2
        have lb1 := World.block_lt_of_cell? wr _ d1
        have lb2 := World.block_lt_of_cell? wr _ d2
        have lb3 := World.block_lt_of_cell? wr _ g1
        dsimp only at lb1 lb2 lb3
        by_cases h0 : ov ≤ 0
        · go_wp2
          go_ret2
          exact ⟨congrArg (fun x => Ending.returned (.tuple #[.int .i64 x, .bool true])) (show (0 : Int) = goneT d aat (ahd + S2 + cost - l) L2 by rw [HOV.out, HGN.out, gone_stop h0]), bl_alloc dB _⟩
        · by_cases h1 : ov - C ≤ 0
          · go_wp2
            go_ret2
            exact ⟨congrArg (fun x => Ending.returned (.tuple #[.int .i64 x, .bool true])) (show E + d - aat = goneT d aat (ahd + S2 + cost - l) L2 by rw [HOV.out, HGN.out, HGD.out h0, if_pos h1]), bl_alloc dB _⟩
          · go_wp2
            go_roundw
            case rel => exact ⟨j + 1, ov - C, by go_num, rfl, hj1, ⟨hbd _, by rw [HGN.out, HGD.out h0, if_neg h1], by have := HO.out; omega, by have := HO.out; omega⟩⟩
            case measure => (simp [intOf]; first | exact hms | omega)
      · have hje : m2 = j := by omega
        subst hje
        have hlen := HL.out.1
        have hz : goneT d aat OV L2 = 0 := by rw [hgn, List.drop_eq_nil_of_le (by omega)]; rfl
        have HZ := Go.Lib.hid hz
        clear hz hgn H
        go_wp2
        go_ret2
        exact ⟨congrArg (fun x => Ending.returned (.tuple #[.int .i64 x, .bool true])) (show (0 : Int) = goneT d aat (ahd + S2 + cost - l) L2 by rw [HOV.out, HZ.out]), dB⟩
  · rw [if_neg h]
    by_cases h1 : rightL p s
    · rw [decide_eq_true h1] at hrt
      have hw0 : IntKind.i64.wrap (p.limit - s.held) = p.limit - s.held := IntWalk.i64_in _ (by have h2 := h1.1.2.1; have h3 := h1.1.2.2.2.2.1; have h4 := h1.2.2.2.1; have h5 := h1.2.2.2.2.1; omega)
      have hh : cost < 1 ∨ (¬ cost < 1 ∧ p.limit - s.held < cost) := by
        by_cases h2 : cost < 1
        · exact .inl h2
        · refine .inr ⟨h2, ?_⟩
          by_cases h3 : p.limit - s.held < cost
          · exact h3
          · exact absurd ⟨h1, by omega, by omega⟩ h
      clear h h1 hav
      obtain ⟨k, l, d, b, cc, o⟩ := p
      obtain ⟨at_, level, held, L⟩ := s
      unfold St.v Pol.v at *
      dsimp only at *
      have HRT := Go.Lib.hid hrt
      clear hrt
      rcases hh with h2 | ⟨h2, h3⟩
      · go_enter Try.func60, Try.ntmps60
        go_wp2_with fail
        refine (HRT.out _ (log_bl hlog (bl_alloc (bl_alloc (bl_refl _) _) _))).mono ?_
        rintro e w1 ⟨rfl, hb⟩
        have hB : Below w.heap.size w w1 := bl_then (bl_alloc (bl_alloc (bl_refl _) _) _) hb
        have c0 := bl_cell (v := .int .i64 k) hb (show World.cell? _ ⟨w.heap.size, 0, none⟩ = _ by go_simp)
        have c1 := bl_cell (v := .int .i64 l) hb (show World.cell? _ ⟨w.heap.size, 1, none⟩ = _ by go_simp)
        have c2 := bl_cell (v := .int .i64 d) hb (show World.cell? _ ⟨w.heap.size, 2, none⟩ = _ by go_simp)
        have c3 := bl_cell (v := .int .i64 b) hb (show World.cell? _ ⟨w.heap.size, 3, none⟩ = _ by go_simp)
        have c4 := bl_cell (v := .int .i64 cc) hb (show World.cell? _ ⟨w.heap.size, 4, none⟩ = _ by go_simp)
        have c5 := bl_cell (v := .bool o) hb (show World.cell? _ ⟨w.heap.size, 5, none⟩ = _ by go_simp)
        have c6 := bl_cell (v := .int .i64 at_) hb (show World.cell? _ ⟨w.heap.size + 1, 0, none⟩ = _ by go_simp)
        have c7 := bl_cell (v := .int .i64 level) hb (show World.cell? _ ⟨w.heap.size + 1, 1, none⟩ = _ by go_simp)
        have c8 := bl_cell (v := .int .i64 held) hb (show World.cell? _ ⟨w.heap.size + 1, 2, none⟩ = _ by go_simp)
        have c9 := bl_cell (v := .slice a n c) hb (show World.cell? _ ⟨w.heap.size + 1, 3, none⟩ = _ by go_simp)
        clear hb HRT
        go_wp2
        go_ret2
        exact ⟨rfl, hB⟩
      · go_enter Try.func60, Try.ntmps60
        go_wp2_with fail
        refine (HRT.out _ (log_bl hlog (bl_alloc (bl_alloc (bl_refl _) _) _))).mono ?_
        rintro e w1 ⟨rfl, hb⟩
        have hB : Below w.heap.size w w1 := bl_then (bl_alloc (bl_alloc (bl_refl _) _) _) hb
        have c0 := bl_cell (v := .int .i64 k) hb (show World.cell? _ ⟨w.heap.size, 0, none⟩ = _ by go_simp)
        have c1 := bl_cell (v := .int .i64 l) hb (show World.cell? _ ⟨w.heap.size, 1, none⟩ = _ by go_simp)
        have c2 := bl_cell (v := .int .i64 d) hb (show World.cell? _ ⟨w.heap.size, 2, none⟩ = _ by go_simp)
        have c3 := bl_cell (v := .int .i64 b) hb (show World.cell? _ ⟨w.heap.size, 3, none⟩ = _ by go_simp)
        have c4 := bl_cell (v := .int .i64 cc) hb (show World.cell? _ ⟨w.heap.size, 4, none⟩ = _ by go_simp)
        have c5 := bl_cell (v := .bool o) hb (show World.cell? _ ⟨w.heap.size, 5, none⟩ = _ by go_simp)
        have c6 := bl_cell (v := .int .i64 at_) hb (show World.cell? _ ⟨w.heap.size + 1, 0, none⟩ = _ by go_simp)
        have c7 := bl_cell (v := .int .i64 level) hb (show World.cell? _ ⟨w.heap.size + 1, 1, none⟩ = _ by go_simp)
        have c8 := bl_cell (v := .int .i64 held) hb (show World.cell? _ ⟨w.heap.size + 1, 2, none⟩ = _ by go_simp)
        have c9 := bl_cell (v := .slice a n c) hb (show World.cell? _ ⟨w.heap.size + 1, 3, none⟩ = _ by go_simp)
        clear hb HRT
        go_wp2
        go_ret2
        exact ⟨rfl, hB⟩
    · rw [decide_eq_false h1] at hrt
      clear h h1 hav
      unfold St.v Pol.v at *
      have HRT := Go.Lib.hid hrt
      clear hrt
      go_enter Try.func60, Try.ntmps60
      go_wp2_with fail
      refine (HRT.out _ (log_bl hlog (bl_alloc (bl_alloc (bl_refl _) _) _))).mono ?_
      rintro e w1 ⟨rfl, hb⟩
      have hB : Below w.heap.size w w1 := bl_then (bl_alloc (bl_alloc (bl_refl _) _) _) hb
      go_wp2
      go_ret2
      exact ⟨rfl, hB⟩
end Go.Proofs.Ythinbjknkjpdjaa

namespace Go.Proofs.Ythinbjknkjpdjaa
open Go.RowKit
set_option linter.unusedVariables false
set_option linter.unusedSimpArgs false

set_option maxHeartbeats 1000000 in
set_option maxRecDepth 100000 in
theorem gretry_any (p : Pol) (s : St) (a : Option Addr) (n c : Nat) (now cost : Int) (hn : s.log.length = n) (w : World) : Calls Try.prog 56 #[p.v, s.v a n c, .int .i64 now, .int .i64 cost] w fun e w' => e = .returned (.tuple #[.int .i64 (retryG p s now cost).1, .bool (retryG p s now cost).2]) ∧ Below w.heap.size w w' := by
  have hrt := gright_any p s a n c hn
  have hav := gadv_any p s a n c now hn
  unfold retryG
  by_cases h : rightG p s ∧ 1 ≤ cost ∧ cost ≤ p.burst - s.held
  · rw [if_pos h]
    obtain ⟨h, hc1, hc2⟩ := h
    rw [decide_eq_true h] at hrt
    have hok := h.1
    have hlv := advG_level p s now h
    have r7 := h.2.2.2.2.2.2.2
    have r3 := h.2.2.2.1
    have r4 := h.2.2.2.2.1
    rw [r7] at hn
    subst hn
    have hla := fun m w hm => glasts_any p m w hok.2.2.1 hok.2.2.2.1 hm
    have hin := in_any cost 1 (p.burst - s.held)
    rw [inB_iff.2 ⟨hc1, hc2⟩] at hin
    generalize advG p s now = A at *
    obtain ⟨aat, alv, ahd, alg⟩ := A
    clear h r7
    obtain ⟨k, l, d, b, cc, o⟩ := p
    obtain ⟨at_, level, held, lg⟩ := s
    unfold St.v Pol.v at *
    dsimp only [List.length_nil] at *
    obtain ⟨q0, q1, q2, q3, q4, q5, q6, q7⟩ := hok
    dsimp only at *
    have hM : (b - cost) * d ≤ 1152921504606846976 := prod_le (by omega) (by omega) (by omega)
    have hM0 : 0 ≤ (b - cost) * d := Int.mul_nonneg (by omega) (by omega)
    have hw0 : IntKind.i64.wrap (b - held) = b - held := IntWalk.i64_in _ (by omega)
    have hw3 : IntKind.i64.wrap (b - cost) = b - cost := IntWalk.i64_in _ (by omega)
    have hw1 : IntKind.i64.wrap ((b - cost) * d) = (b - cost) * d := IntWalk.i64_in _ (by omega)
    have hw2 : IntKind.i64.wrap (alv - (b - cost) * d) = alv - (b - cost) * d := IntWalk.i64_in _ (by omega)
    have hla' := fun w => hla (alv - (b - cost) * d) w (by omega)
    generalize ceilD (alv - (b - cost) * d) l = R at *
    have HRT := Go.Lib.hid hrt
    have HAV := Go.Lib.hid hav
    have HLA := Go.Lib.hid hla'
    have HIN := Go.Lib.hid hin
    have FL := fld_level
    clear hrt hav hlv hla hla' hM hM0 q0 q1 q2 q3 q4 q5 q6 q7 r3 r4 hin
    go_enter Try.func56, Try.ntmps56
    go_wp2_with fail
    refine (HRT.out _).mono ?_
    rintro e w1 ⟨rfl, hb⟩
    have hB : Below w.heap.size w w1 := bl_then (bl_alloc (bl_alloc (bl_refl _) _) _) hb
    have c0 := bl_cell (v := .int .i64 k) hb (show World.cell? _ ⟨w.heap.size, 0, none⟩ = _ by go_simp)
    have c1 := bl_cell (v := .int .i64 l) hb (show World.cell? _ ⟨w.heap.size, 1, none⟩ = _ by go_simp)
    have c2 := bl_cell (v := .int .i64 d) hb (show World.cell? _ ⟨w.heap.size, 2, none⟩ = _ by go_simp)
    have c3 := bl_cell (v := .int .i64 b) hb (show World.cell? _ ⟨w.heap.size, 3, none⟩ = _ by go_simp)
    have c4 := bl_cell (v := .int .i64 cc) hb (show World.cell? _ ⟨w.heap.size, 4, none⟩ = _ by go_simp)
    have c5 := bl_cell (v := .bool o) hb (show World.cell? _ ⟨w.heap.size, 5, none⟩ = _ by go_simp)
    have c6 := bl_cell (v := .int .i64 at_) hb (show World.cell? _ ⟨w.heap.size + 1, 0, none⟩ = _ by go_simp)
    have c7 := bl_cell (v := .int .i64 level) hb (show World.cell? _ ⟨w.heap.size + 1, 1, none⟩ = _ by go_simp)
    have c8 := bl_cell (v := .int .i64 held) hb (show World.cell? _ ⟨w.heap.size + 1, 2, none⟩ = _ by go_simp)
    have c9 := bl_cell (v := .slice a 0 c) hb (show World.cell? _ ⟨w.heap.size + 1, 3, none⟩ = _ by go_simp)
    clear hb HRT
    go_wp2_with fail
    refine (HIN.out _).mono ?_
    rintro e w2 ⟨rfl, rfl⟩
    go_wp2_with fail
    refine wp_region_held_drew (S := fun w' => w'.cell? ⟨w.heap.size, 0, none⟩ = some (.int .i64 k) ∧ w'.cell? ⟨w.heap.size, 1, none⟩ = some (.int .i64 l) ∧ w'.cell? ⟨w.heap.size, 2, none⟩ = some (.int .i64 d) ∧ w'.cell? ⟨w.heap.size, 3, none⟩ = some (.int .i64 b) ∧ w'.cell? ⟨w.heap.size, 4, none⟩ = some (.int .i64 cc) ∧ w'.cell? ⟨w.heap.size, 5, none⟩ = some (.bool o) ∧ w'.cell? ⟨w.heap.size + 1, 0, none⟩ = some (.int .i64 at_) ∧ w'.cell? ⟨w.heap.size + 1, 1, none⟩ = some (.int .i64 level) ∧ w'.cell? ⟨w.heap.size + 1, 2, none⟩ = some (.int .i64 held) ∧ w'.cell? ⟨w.heap.size + 1, 3, none⟩ = some (.slice a 0 c) ∧ Below w.heap.size w w') (by kernel_rfl) ?_ (fun hHeld => ?_)
    · exact ⟨c0, c1, c2, c3, c4, c5, c6, c7, c8, c9, bl_drew hB⟩
    try simp only [Act.put, List.setIfInBounds_toArray, List.set_cons_zero, List.set_cons_succ]
    all_goals ((refine tk (i := 0) rfl rfl hHeld ?_))
    all_goals ((refine tk (i := 1) rfl rfl hHeld ?_))
    all_goals ((refine tk (i := 2) rfl rfl hHeld ?_))
    all_goals ((refine tk (i := 3) rfl rfl hHeld ?_))
    all_goals ((refine tk (i := 6) rfl rfl hHeld ?_))
    all_goals ((refine tk (i := 7) rfl rfl hHeld ?_))
    all_goals ((refine tk (i := 8) rfl rfl hHeld ?_))
    all_goals ((refine tk (i := 9) rfl rfl hHeld ?_))
    all_goals ((refine tk (i := 10) rfl rfl hHeld ?_))
    all_goals ((refine tk (i := 11) rfl rfl hHeld ?_))
    all_goals ((refine tk (i := 12) rfl rfl hHeld ?_))
    all_goals ((refine callH (i := 4) rfl hHeld (fun W hW K hK => ?_); clear hHeld; (try dsimp only at hW); go_simp; refine (HAV.out _).mono ?_; rintro e w1 ⟨rfl, hb⟩; go_wp2_with fail; refine hK.out _ _ ?_ (fun hHeld => ?_); (focus ((try dsimp only); (obtain ⟨h0, h1, h2, h3, h4, h5, h6, h7, h8, h9, hB'⟩ := hW; exact ⟨bl_cell hb h0, bl_cell hb h1, bl_cell hb h2, bl_cell hb h3, bl_cell hb h4, bl_cell hb h5, bl_cell hb h6, bl_cell hb h7, bl_cell hb h8, bl_cell hb h9, bl_then hB' hb⟩))); clear hK K; try simp only [Act.put, List.setIfInBounds_toArray, List.set_cons_zero, List.set_cons_succ]))
    all_goals ((refine tk (i := 5) rfl rfl hHeld ?_))
    all_goals ((refine tk (i := 13) rfl rfl hHeld ?_))
    all_goals ((refine callH (i := 14) rfl hHeld (fun W hW K hK => ?_); clear hHeld; (try dsimp only at hW); go_simp; refine (HLA.out _).mono ?_; rintro e w1 ⟨rfl, hb⟩; go_wp2_with fail; refine hK.out _ _ ?_ (fun hHeld => ?_); (focus ((try dsimp only); (obtain ⟨h0, h1, h2, h3, h4, h5, h6, h7, h8, h9, hB'⟩ := hW; exact ⟨bl_cell hb h0, bl_cell hb h1, bl_cell hb h2, bl_cell hb h3, bl_cell hb h4, bl_cell hb h5, bl_cell hb h6, bl_cell hb h7, bl_cell hb h8, bl_cell hb h9, bl_then hB' hb⟩))); clear hK K; try simp only [Act.put, List.setIfInBounds_toArray, List.set_cons_zero, List.set_cons_succ]))
    all_goals ((refine tk (i := 15) rfl rfl hHeld ?_))
    all_goals ((refine tk (i := 16) rfl rfl hHeld ?_))
    all_goals (refine wpAnyH_done (by kernel_rfl) ?_ _)
    obtain ⟨-, -, -, -, -, -, -, -, -, -, hE⟩ := hHeld
    go_wp2_with fail
    go_ret2
    exact ⟨rfl, hE⟩
  · rw [if_neg h]
    by_cases h1 : rightG p s
    · rw [decide_eq_true h1] at hrt
      have hin := in_any cost 1 (p.burst - s.held)
      rw [inB_no (fun h2 => h ⟨h1, h2⟩)] at hin
      have hw0 : IntKind.i64.wrap (p.burst - s.held) = p.burst - s.held := IntWalk.i64_in _ (by have h2 := h1.1.2.2.2.2.2.1; have h3 := h1.1.2.2.2.2.1; have h4 := h1.2.2.2.1; have h5 := h1.2.2.2.2.1; omega)
      clear h h1 hav
      obtain ⟨k, l, d, b, cc, o⟩ := p
      obtain ⟨at_, level, held, lg⟩ := s
      unfold St.v Pol.v at *
      dsimp only at *
      have HIN := Go.Lib.hid hin
      clear hin
      have HRT := Go.Lib.hid hrt
      clear hrt
      go_enter Try.func56, Try.ntmps56
      go_wp2_with fail
      refine (HRT.out _).mono ?_
      rintro e w1 ⟨rfl, hb⟩
      have hB : Below w.heap.size w w1 := bl_then (bl_alloc (bl_alloc (bl_refl _) _) _) hb
      have c0 := bl_cell (v := .int .i64 k) hb (show World.cell? _ ⟨w.heap.size, 0, none⟩ = _ by go_simp)
      have c1 := bl_cell (v := .int .i64 l) hb (show World.cell? _ ⟨w.heap.size, 1, none⟩ = _ by go_simp)
      have c2 := bl_cell (v := .int .i64 d) hb (show World.cell? _ ⟨w.heap.size, 2, none⟩ = _ by go_simp)
      have c3 := bl_cell (v := .int .i64 b) hb (show World.cell? _ ⟨w.heap.size, 3, none⟩ = _ by go_simp)
      have c4 := bl_cell (v := .int .i64 cc) hb (show World.cell? _ ⟨w.heap.size, 4, none⟩ = _ by go_simp)
      have c5 := bl_cell (v := .bool o) hb (show World.cell? _ ⟨w.heap.size, 5, none⟩ = _ by go_simp)
      have c6 := bl_cell (v := .int .i64 at_) hb (show World.cell? _ ⟨w.heap.size + 1, 0, none⟩ = _ by go_simp)
      have c7 := bl_cell (v := .int .i64 level) hb (show World.cell? _ ⟨w.heap.size + 1, 1, none⟩ = _ by go_simp)
      have c8 := bl_cell (v := .int .i64 held) hb (show World.cell? _ ⟨w.heap.size + 1, 2, none⟩ = _ by go_simp)
      have c9 := bl_cell (v := .slice a n c) hb (show World.cell? _ ⟨w.heap.size + 1, 3, none⟩ = _ by go_simp)
      clear hb HRT
      go_wp2_with fail
      refine (HIN.out _).mono ?_
      rintro e w2 ⟨rfl, rfl⟩
      go_wp2_with fail
      go_ret2
      exact ⟨rfl, hB⟩
    · rw [decide_eq_false h1] at hrt
      clear h h1 hav
      unfold St.v Pol.v at *
      have HRT := Go.Lib.hid hrt
      clear hrt
      go_enter Try.func56, Try.ntmps56
      go_wp2_with fail
      refine (HRT.out _).mono ?_
      rintro e w1 ⟨rfl, hb⟩
      have hB : Below w.heap.size w w1 := bl_then (bl_alloc (bl_alloc (bl_refl _) _) _) hb
      clear hb HRT
      go_wp2
      go_ret2
      exact ⟨rfl, hB⟩
end Go.Proofs.Ythinbjknkjpdjaa

namespace Go.Proofs.Ythinbjknkjpdjaa
open Go.RowKit
set_option linter.unusedVariables false
set_option linter.unusedSimpArgs false

set_option maxHeartbeats 1000000 in
set_option maxRecDepth 100000 in
theorem bretry_any (p : Pol) (s : St) (a : Option Addr) (n c : Nat) (now cost : Int) (hn : s.log.length = n) (w : World) : Calls Try.prog 68 #[p.v, s.v a n c, .int .i64 now, .int .i64 cost] w fun e w' => e = .returned (.tuple #[.int .i64 (retryB p s now cost).1, .bool (retryB p s now cost).2]) ∧ Below w.heap.size w w' := by
  have hrt := bright_any p s a n c hn
  have hav := badv_any p s a n c now hn
  unfold retryB
  by_cases h : rightB p s ∧ 1 ≤ cost ∧ cost ≤ p.burst - s.held
  · rw [if_pos h]
    obtain ⟨h, hc1, hc2⟩ := h
    rw [decide_eq_true h] at hrt
    have hok := h.1
    have hlv := advB_level p s now h
    have r7 := h.2.2.2.2.2.2.2
    have r3 := h.2.2.2.1
    have r4 := h.2.2.2.2.1
    rw [r7] at hn
    subst hn
    have hla := fun m w hm => blasts_any p m w hok.2.1 hok.2.2.2.2.1 hm
    generalize advB p s now = A at *
    obtain ⟨aat, alv, ahd, alg⟩ := A
    clear h r7
    obtain ⟨k, l, d, b, cc, o⟩ := p
    obtain ⟨at_, level, held, lg⟩ := s
    unfold St.v Pol.v at *
    dsimp only [List.length_nil] at *
    obtain ⟨q0, q1, q2, q3, q4, q5, q6, q7⟩ := hok
    dsimp only at *
    have hM : cost * d ≤ 1152921504606846976 := prod_le (by omega) (by omega) (by omega)
    have hM0 : 0 ≤ cost * d := Int.mul_nonneg (by omega) (by omega)
    have hw0 : IntKind.i64.wrap (b - held) = b - held := IntWalk.i64_in _ (by omega)
    have hw1 : IntKind.i64.wrap (cost * d) = cost * d := IntWalk.i64_in _ (by omega)
    have hw2 : IntKind.i64.wrap (cost * d - alv) = cost * d - alv := IntWalk.i64_in _ (by omega)
    have hla' := fun w => hla (cost * d - alv) w (by omega)
    generalize ceilD (cost * d - alv) l = R at *
    have HRT := Go.Lib.hid hrt
    have HAV := Go.Lib.hid hav
    have HLA := Go.Lib.hid hla'
    have FL := fld_level
    clear hrt hav hlv hla hla' hM hM0 q0 q1 q2 q3 q4 q5 q6 q7 r3 r4
    go_enter Try.func68, Try.ntmps68
    go_wp2_with fail
    refine (HRT.out _).mono ?_
    rintro e w1 ⟨rfl, hb⟩
    have hB : Below w.heap.size w w1 := bl_then (bl_alloc (bl_alloc (bl_refl _) _) _) hb
    have c0 := bl_cell (v := .int .i64 k) hb (show World.cell? _ ⟨w.heap.size, 0, none⟩ = _ by go_simp)
    have c1 := bl_cell (v := .int .i64 l) hb (show World.cell? _ ⟨w.heap.size, 1, none⟩ = _ by go_simp)
    have c2 := bl_cell (v := .int .i64 d) hb (show World.cell? _ ⟨w.heap.size, 2, none⟩ = _ by go_simp)
    have c3 := bl_cell (v := .int .i64 b) hb (show World.cell? _ ⟨w.heap.size, 3, none⟩ = _ by go_simp)
    have c4 := bl_cell (v := .int .i64 cc) hb (show World.cell? _ ⟨w.heap.size, 4, none⟩ = _ by go_simp)
    have c5 := bl_cell (v := .bool o) hb (show World.cell? _ ⟨w.heap.size, 5, none⟩ = _ by go_simp)
    have c6 := bl_cell (v := .int .i64 at_) hb (show World.cell? _ ⟨w.heap.size + 1, 0, none⟩ = _ by go_simp)
    have c7 := bl_cell (v := .int .i64 level) hb (show World.cell? _ ⟨w.heap.size + 1, 1, none⟩ = _ by go_simp)
    have c8 := bl_cell (v := .int .i64 held) hb (show World.cell? _ ⟨w.heap.size + 1, 2, none⟩ = _ by go_simp)
    have c9 := bl_cell (v := .slice a 0 c) hb (show World.cell? _ ⟨w.heap.size + 1, 3, none⟩ = _ by go_simp)
    clear hb HRT
    go_wp2_with fail
    refine wp_region_held_drew (S := fun w' => w'.cell? ⟨w.heap.size, 0, none⟩ = some (.int .i64 k) ∧ w'.cell? ⟨w.heap.size, 1, none⟩ = some (.int .i64 l) ∧ w'.cell? ⟨w.heap.size, 2, none⟩ = some (.int .i64 d) ∧ w'.cell? ⟨w.heap.size, 3, none⟩ = some (.int .i64 b) ∧ w'.cell? ⟨w.heap.size, 4, none⟩ = some (.int .i64 cc) ∧ w'.cell? ⟨w.heap.size, 5, none⟩ = some (.bool o) ∧ w'.cell? ⟨w.heap.size + 1, 0, none⟩ = some (.int .i64 at_) ∧ w'.cell? ⟨w.heap.size + 1, 1, none⟩ = some (.int .i64 level) ∧ w'.cell? ⟨w.heap.size + 1, 2, none⟩ = some (.int .i64 held) ∧ w'.cell? ⟨w.heap.size + 1, 3, none⟩ = some (.slice a 0 c) ∧ Below w.heap.size w w') (by kernel_rfl) ?_ (fun hHeld => ?_)
    · exact ⟨c0, c1, c2, c3, c4, c5, c6, c7, c8, c9, bl_drew hB⟩
    try simp only [Act.put, List.setIfInBounds_toArray, List.set_cons_zero, List.set_cons_succ]
    all_goals ((refine tk (i := 0) rfl rfl hHeld ?_))
    all_goals ((refine tk (i := 1) rfl rfl hHeld ?_))
    all_goals ((refine tk (i := 2) rfl rfl hHeld ?_))
    all_goals ((refine tk (i := 3) rfl rfl hHeld ?_))
    all_goals ((refine tk (i := 4) rfl rfl hHeld ?_))
    all_goals ((refine tk (i := 5) rfl rfl hHeld ?_))
    all_goals ((refine tk (i := 6) rfl rfl hHeld ?_))
    all_goals ((refine tk (i := 7) rfl rfl hHeld ?_))
    all_goals ((refine callH (i := 8) rfl hHeld (fun W hW K hK => ?_); clear hHeld; (try dsimp only at hW); go_simp; refine (HAV.out _).mono ?_; rintro e w1 ⟨rfl, hb⟩; go_wp2_with fail; refine hK.out _ _ ?_ (fun hHeld => ?_); (focus ((try dsimp only); (obtain ⟨h0, h1, h2, h3, h4, h5, h6, h7, h8, h9, hB'⟩ := hW; exact ⟨bl_cell hb h0, bl_cell hb h1, bl_cell hb h2, bl_cell hb h3, bl_cell hb h4, bl_cell hb h5, bl_cell hb h6, bl_cell hb h7, bl_cell hb h8, bl_cell hb h9, bl_then hB' hb⟩))); clear hK K; try simp only [Act.put, List.setIfInBounds_toArray, List.set_cons_zero, List.set_cons_succ]))
    all_goals ((refine tk (i := 9) rfl rfl hHeld ?_))
    all_goals ((refine tk (i := 10) rfl rfl hHeld ?_))
    all_goals ((refine callH (i := 11) rfl hHeld (fun W hW K hK => ?_); clear hHeld; (try dsimp only at hW); go_simp; refine (HLA.out _).mono ?_; rintro e w1 ⟨rfl, hb⟩; go_wp2_with fail; refine hK.out _ _ ?_ (fun hHeld => ?_); (focus ((try dsimp only); (obtain ⟨h0, h1, h2, h3, h4, h5, h6, h7, h8, h9, hB'⟩ := hW; exact ⟨bl_cell hb h0, bl_cell hb h1, bl_cell hb h2, bl_cell hb h3, bl_cell hb h4, bl_cell hb h5, bl_cell hb h6, bl_cell hb h7, bl_cell hb h8, bl_cell hb h9, bl_then hB' hb⟩))); clear hK K; try simp only [Act.put, List.setIfInBounds_toArray, List.set_cons_zero, List.set_cons_succ]))
    all_goals ((refine tk (i := 12) rfl rfl hHeld ?_))
    all_goals ((refine tk (i := 13) rfl rfl hHeld ?_))
    all_goals (refine wpAnyH_done (by kernel_rfl) ?_ _)
    obtain ⟨-, -, -, -, -, -, -, -, -, -, hE⟩ := hHeld
    go_wp2
    go_ret2
    exact ⟨rfl, hE⟩
  · rw [if_neg h]
    by_cases h1 : rightB p s
    · rw [decide_eq_true h1] at hrt
      have hok := h1.1
      have r3 := h1.2.2.2.1
      have r4 := h1.2.2.2.2.1
      have hc : cost < 1 ∨ 1 ≤ cost ∧ p.burst - s.held < cost := by
        by_cases h2 : cost < 1
        · exact .inl h2
        · by_cases h3 : p.burst - s.held < cost
          · exact .inr ⟨by omega, h3⟩
          · exact absurd ⟨h1, by omega, by omega⟩ h
      have hw0 : IntKind.i64.wrap (p.burst - s.held) = p.burst - s.held := IntWalk.i64_in _ (by have := hok.2.2.1; have := hok.2.2.2.2.2.1; omega)
      clear h h1 hav hok r3 r4
      obtain ⟨k, l, d, b, cc, o⟩ := p
      obtain ⟨at_, level, held, lg⟩ := s
      unfold St.v Pol.v at *
      dsimp only at *
      rcases hc with hc | ⟨hc1, hc⟩
      · have HRT := Go.Lib.hid hrt
        clear hrt
        go_enter Try.func68, Try.ntmps68
        go_wp2_with fail
        refine (HRT.out _).mono ?_
        rintro e w1 ⟨rfl, hb⟩
        have hB : Below w.heap.size w w1 := bl_then (bl_alloc (bl_alloc (bl_refl _) _) _) hb
        have c0 := bl_cell (v := .int .i64 k) hb (show World.cell? _ ⟨w.heap.size, 0, none⟩ = _ by go_simp)
        have c1 := bl_cell (v := .int .i64 l) hb (show World.cell? _ ⟨w.heap.size, 1, none⟩ = _ by go_simp)
        have c2 := bl_cell (v := .int .i64 d) hb (show World.cell? _ ⟨w.heap.size, 2, none⟩ = _ by go_simp)
        have c3 := bl_cell (v := .int .i64 b) hb (show World.cell? _ ⟨w.heap.size, 3, none⟩ = _ by go_simp)
        have c4 := bl_cell (v := .int .i64 cc) hb (show World.cell? _ ⟨w.heap.size, 4, none⟩ = _ by go_simp)
        have c5 := bl_cell (v := .bool o) hb (show World.cell? _ ⟨w.heap.size, 5, none⟩ = _ by go_simp)
        have c6 := bl_cell (v := .int .i64 at_) hb (show World.cell? _ ⟨w.heap.size + 1, 0, none⟩ = _ by go_simp)
        have c7 := bl_cell (v := .int .i64 level) hb (show World.cell? _ ⟨w.heap.size + 1, 1, none⟩ = _ by go_simp)
        have c8 := bl_cell (v := .int .i64 held) hb (show World.cell? _ ⟨w.heap.size + 1, 2, none⟩ = _ by go_simp)
        have c9 := bl_cell (v := .slice a n c) hb (show World.cell? _ ⟨w.heap.size + 1, 3, none⟩ = _ by go_simp)
        clear hb HRT
        go_wp2
        go_ret2
        exact ⟨rfl, hB⟩
      · have HRT := Go.Lib.hid hrt
        clear hrt
        go_enter Try.func68, Try.ntmps68
        go_wp2_with fail
        refine (HRT.out _).mono ?_
        rintro e w1 ⟨rfl, hb⟩
        have hB : Below w.heap.size w w1 := bl_then (bl_alloc (bl_alloc (bl_refl _) _) _) hb
        have c0 := bl_cell (v := .int .i64 k) hb (show World.cell? _ ⟨w.heap.size, 0, none⟩ = _ by go_simp)
        have c1 := bl_cell (v := .int .i64 l) hb (show World.cell? _ ⟨w.heap.size, 1, none⟩ = _ by go_simp)
        have c2 := bl_cell (v := .int .i64 d) hb (show World.cell? _ ⟨w.heap.size, 2, none⟩ = _ by go_simp)
        have c3 := bl_cell (v := .int .i64 b) hb (show World.cell? _ ⟨w.heap.size, 3, none⟩ = _ by go_simp)
        have c4 := bl_cell (v := .int .i64 cc) hb (show World.cell? _ ⟨w.heap.size, 4, none⟩ = _ by go_simp)
        have c5 := bl_cell (v := .bool o) hb (show World.cell? _ ⟨w.heap.size, 5, none⟩ = _ by go_simp)
        have c6 := bl_cell (v := .int .i64 at_) hb (show World.cell? _ ⟨w.heap.size + 1, 0, none⟩ = _ by go_simp)
        have c7 := bl_cell (v := .int .i64 level) hb (show World.cell? _ ⟨w.heap.size + 1, 1, none⟩ = _ by go_simp)
        have c8 := bl_cell (v := .int .i64 held) hb (show World.cell? _ ⟨w.heap.size + 1, 2, none⟩ = _ by go_simp)
        have c9 := bl_cell (v := .slice a n c) hb (show World.cell? _ ⟨w.heap.size + 1, 3, none⟩ = _ by go_simp)
        clear hb HRT
        go_wp2
        go_ret2
        exact ⟨rfl, hB⟩
    · rw [decide_eq_false h1] at hrt
      clear h h1 hav
      unfold St.v Pol.v at *
      have HRT := Go.Lib.hid hrt
      clear hrt
      go_enter Try.func68, Try.ntmps68
      go_wp2_with fail
      refine (HRT.out _).mono ?_
      rintro e w1 ⟨rfl, hb⟩
      have hB : Below w.heap.size w w1 := bl_then (bl_alloc (bl_alloc (bl_refl _) _) _) hb
      clear hb HRT
      go_wp2
      go_ret2
      exact ⟨rfl, hB⟩
end Go.Proofs.Ythinbjknkjpdjaa

namespace Go.Proofs.Ythinbjknkjpdjaa
open Go.RowKit
set_option linter.unusedVariables false
set_option linter.unusedSimpArgs false

theorem meth_retry (x : Array Value) (w : World) : (method 60 76 (.agg x) "tapster/limiter.retry").run Try.prog w = .ok (114, .agg x) w := by kernel_rfl
def retryP (p : Pol) (s : St) (now cost : Int) : Int × Bool := if p.kind = 2 then retryG p s now cost else if p.kind = 3 then retryL p s now cost else if p.kind = 4 then retryC p s now cost else retryB p s now cost
theorem kern_retry (p : Pol) (s : St) (a : Option Addr) (n c : Nat) (now cost : Int) (w : World) (hl : LogAt w a n c s.log) : Calls Try.prog 114 #[.agg (kern p.kind), p.v, s.v a n c, .int .i64 now, .int .i64 cost] w fun e w' => e = .returned (.tuple #[.int .i64 (retryP p s now cost).1, .bool (retryP p s now cost).2]) ∧ Below w.heap.size w w' := by
  unfold kern retryP
  by_cases h2 : p.kind = 2
  · rw [if_pos h2, if_pos h2]; exact made_retry _ (fun _ _ => by kernel_rfl) _ _ _ _ _ _ _ p s a n c now cost _ (fun w hw => gretry_any p s a n c now cost hw.1 w) w hl
  rw [if_neg h2, if_neg h2]
  by_cases h3 : p.kind = 3
  · rw [if_pos h3, if_pos h3]; exact made_retry _ (fun _ _ => by kernel_rfl) _ _ _ _ _ _ _ p s a n c now cost _ (fun w hw => wretry_any p s a n c now cost w hw) w hl
  rw [if_neg h3, if_neg h3]
  by_cases h4 : p.kind = 4
  · rw [if_pos h4, if_pos h4]; exact made_retry _ (fun _ _ => by kernel_rfl) _ _ _ _ _ _ _ p s a n c now cost _ (fun w hw => cretry_any p s a n c now cost hw.1 w) w hl
  rw [if_neg h4, if_neg h4]
  exact made_retry _ (fun _ _ => by kernel_rfl) _ _ _ _ _ _ _ p s a n c now cost _ (fun w hw => bretry_any p s a n c now cost hw.1 w) w hl

set_option maxHeartbeats 1000000 in
set_option maxRecDepth 100000 in
theorem lretry_any (p : Pol) (s : St) (a : Option Addr) (n c : Nat) (now cost : Int) (w : World) (hl : LogAt w a n c s.log) : Calls Try.prog 31 #[p.v, s.v a n c, .int .i64 now, .int .i64 cost] w fun e w' => e = .returned (.tuple #[.int .i64 (retryP p s now cost).1, .bool (retryP p s now cost).2]) ∧ Below w.heap.size w w' := by
  have hof := of_any p
  have hkc := fun W hW => kern_retry p s a n c now cost W hW
  have hme := meth_retry
  generalize kern p.kind = KV at *
  generalize retryP p s now cost = R at *
  obtain ⟨R1, R2⟩ := R
  obtain ⟨k, l, d, b, cc, o⟩ := p
  obtain ⟨at_, level, held, L⟩ := s
  unfold St.v Pol.v at *
  dsimp only at *
  have HOF := Go.Lib.hid hof
  have HKC := Go.Lib.hid hkc
  have HL := Go.Lib.hid hl
  clear hof hkc hl
  go_enter Try.func31, Try.ntmps31
  go_wp2_with fail
  refine wp_abs (S0 := fun w' => w'.cell? ⟨w.heap.size, 0, none⟩ = some (.int .i64 k) ∧ w'.cell? ⟨w.heap.size, 1, none⟩ = some (.int .i64 l) ∧ w'.cell? ⟨w.heap.size, 2, none⟩ = some (.int .i64 d) ∧ w'.cell? ⟨w.heap.size, 3, none⟩ = some (.int .i64 b) ∧ w'.cell? ⟨w.heap.size, 4, none⟩ = some (.int .i64 cc) ∧ w'.cell? ⟨w.heap.size, 5, none⟩ = some (.bool o) ∧ w'.cell? ⟨w.heap.size + 1, 0, none⟩ = some (.int .i64 at_) ∧ w'.cell? ⟨w.heap.size + 1, 1, none⟩ = some (.int .i64 level) ∧ w'.cell? ⟨w.heap.size + 1, 2, none⟩ = some (.int .i64 held) ∧ w'.cell? ⟨w.heap.size + 1, 3, none⟩ = some (.slice a n c) ∧ LogAt w' a n c L ∧ Below w.heap.size w w') ⟨by go_simp, by go_simp, by go_simp, by go_simp, by go_simp, by go_simp, by go_simp, by go_simp, by go_simp, by go_simp, log_bl HL.out (bl_alloc (bl_alloc (bl_refl _) _) _), bl_alloc (bl_alloc (bl_refl _) _) _⟩ ?_
  rintro W ⟨c0, c1, c2, c3, c4, c5, c6, c7, c8, c9, hLg, hB⟩
  refine wp_region_held_drew (S := fun w' => w'.cell? ⟨w.heap.size, 0, none⟩ = some (.int .i64 k) ∧ w'.cell? ⟨w.heap.size, 1, none⟩ = some (.int .i64 l) ∧ w'.cell? ⟨w.heap.size, 2, none⟩ = some (.int .i64 d) ∧ w'.cell? ⟨w.heap.size, 3, none⟩ = some (.int .i64 b) ∧ w'.cell? ⟨w.heap.size, 4, none⟩ = some (.int .i64 cc) ∧ w'.cell? ⟨w.heap.size, 5, none⟩ = some (.bool o) ∧ w'.cell? ⟨w.heap.size + 1, 0, none⟩ = some (.int .i64 at_) ∧ w'.cell? ⟨w.heap.size + 1, 1, none⟩ = some (.int .i64 level) ∧ w'.cell? ⟨w.heap.size + 1, 2, none⟩ = some (.int .i64 held) ∧ w'.cell? ⟨w.heap.size + 1, 3, none⟩ = some (.slice a n c) ∧ LogAt w' a n c L ∧ Below w.heap.size w w') (by kernel_rfl) ?_ (fun hHeld => ?_)
  · exact ⟨c0, c1, c2, c3, c4, c5, c6, c7, c8, c9, hLg, bl_drew hB⟩
  try simp only [Act.put, List.setIfInBounds_toArray, List.set_cons_zero, List.set_cons_succ]
  all_goals ((refine tk (i := 0) rfl rfl hHeld ?_))
  all_goals ((refine tk (i := 2) rfl rfl hHeld ?_))
  all_goals ((refine tk (i := 3) rfl rfl hHeld ?_))
  all_goals ((refine tk (i := 4) rfl rfl hHeld ?_))
  all_goals ((refine tk (i := 5) rfl rfl hHeld ?_))
  all_goals ((refine callH (i := 1) rfl hHeld (fun W hW K hK => ?_); clear hHeld; (try dsimp only at hW); go_simp; refine (HOF.out _).mono ?_; rintro e w1 ⟨rfl, hb⟩; go_wp2_with fail; refine hK.out _ _ ?_ (fun hHeld => ?_); (focus ((try dsimp only); (obtain ⟨h0, h1, h2, h3, h4, h5, h6, h7, h8, h9, hl', hB'⟩ := hW; exact ⟨bl_cell hb h0, bl_cell hb h1, bl_cell hb h2, bl_cell hb h3, bl_cell hb h4, bl_cell hb h5, bl_cell hb h6, bl_cell hb h7, bl_cell hb h8, bl_cell hb h9, log_bl hl' hb, bl_then hB' hb⟩))); clear hK K; try simp only [Act.put, List.setIfInBounds_toArray, List.set_cons_zero, List.set_cons_succ]))
  all_goals ((refine callH (i := 6) rfl hHeld (fun W hW K hK => ?_); clear hHeld; (try dsimp only at hW); have hwl := hW.2.2.2.2.2.2.2.2.2.2.1; go_simp; refine (HKC.out _ hwl).mono ?_; rintro e w1 ⟨rfl, hb⟩; go_wp2_with fail; refine hK.out _ _ ?_ (fun hHeld => ?_); (focus ((try dsimp only); (obtain ⟨h0, h1, h2, h3, h4, h5, h6, h7, h8, h9, hl', hB'⟩ := hW; exact ⟨bl_cell hb h0, bl_cell hb h1, bl_cell hb h2, bl_cell hb h3, bl_cell hb h4, bl_cell hb h5, bl_cell hb h6, bl_cell hb h7, bl_cell hb h8, bl_cell hb h9, log_bl hl' hb, bl_then hB' hb⟩))); clear hK K; try simp only [Act.put, List.setIfInBounds_toArray, List.set_cons_zero, List.set_cons_succ]))
  all_goals ((refine tk (i := 7) rfl rfl hHeld ?_))
  all_goals ((refine tk (i := 8) rfl rfl hHeld ?_))
  all_goals ((refine tk (i := 9) rfl rfl hHeld ?_))
  all_goals ((refine tk (i := 10) rfl rfl hHeld ?_))
  all_goals (refine wpAnyH_done (by kernel_rfl) ?_ _)
  obtain ⟨-, -, -, -, -, -, -, -, -, -, -, hE⟩ := hHeld
  repeat' (first | go_skip | go_guarded | go_step | go_upon)
  go_ret2
  exact ⟨rfl, hE⟩
end Go.Proofs.Ythinbjknkjpdjaa

namespace Go.Proofs.Ythinbjknkjpdjaa
open Go.RowKit
set_option linter.unusedVariables false
set_option linter.unusedSimpArgs false

set_option maxHeartbeats 400000 in
theorem small_any (a : Option Addr) (n c : Nat) (w : World) : Calls Try.prog 9 #[.slice a n c] w fun e w' => e = .returned (.bool (decide ((n : Int) ≤ 60))) ∧ w = w' := by
  by_cases h : (n : Int) ≤ 60
  · rw [decide_eq_true h]
    go_enter Try.func9, Try.ntmps9
    go_wp2
    go_ret
    exact ⟨by first | rfl | simp [h], rfl⟩
  · rw [decide_eq_false h]
    go_enter Try.func9, Try.ntmps9
    go_wp2
    go_ret
    exact ⟨by first | rfl | simp [h], rfl⟩

set_option maxHeartbeats 1000000 in
set_option maxRecDepth 20000 in
theorem of4_any (l d b : Int) (w : World) (hl : 0 ≤ l ∧ l ≤ 65535) (hd : 0 ≤ d ∧ d ≤ 65535) (hb : 0 ≤ b ∧ b ≤ 65535) : Calls Try.prog 33 #[.int .u16 l, .int .u16 d, .int .u16 b] w fun e w' => e = .returned (Pol.v ⟨1, 1 + l, 1 + d, 1 + b, 0, false⟩) ∧ Below w.heap.size w w' := by
  have w1 : IntKind.i64.wrap l = l := IntWalk.i64_in _ (by omega)
  have w2 : IntKind.i64.wrap d = d := IntWalk.i64_in _ (by omega)
  have w3 : IntKind.i64.wrap b = b := IntWalk.i64_in _ (by omega)
  have w4 : IntKind.i64.wrap (1 + l) = 1 + l := IntWalk.i64_in _ (by omega)
  have w5 : IntKind.i64.wrap (1 + d) = 1 + d := IntWalk.i64_in _ (by omega)
  have w6 : IntKind.i64.wrap (1 + b) = 1 + b := IntWalk.i64_in _ (by omega)
  unfold Pol.v
  dsimp only
  go_enter Try.func33, Try.ntmps33
  go_wp2_with fail
  (try simp only [Exit.inBlock, Exit.then])
  refine bodyPost_ret (v := .agg #[.int .i64 1, .int .i64 (1 + l), .int .i64 (1 + d), .int .i64 (1 + b), .int .i64 0, .bool false]) (by simp [results, Try.results33, go_sem]) rfl ⟨rfl, bl_alloc (bl_refl _) _⟩
end Go.Proofs.Ythinbjknkjpdjaa

namespace Go.Proofs.Ythinbjknkjpdjaa
open Go.RowKit
set_option linter.unusedVariables false
set_option linter.unusedSimpArgs false

/-- A policy that may be, of whatever numbers. -/
def ofP (k l d b : Int) : Pol :=
  if k % 4 = 0 then ⟨1, 1 + l, 1 + d, 1 + b, 0, false⟩ else if k % 4 = 1 then ⟨2, 1 + l, 1 + d, 1 + b, 0, false⟩
  else if k % 4 = 2 then ⟨3, 1 + l, 1 + d, 0, 1 + b % 256 % 100, false⟩ else ⟨4, 1 + l, 1 + d, 0, 0, false⟩

theorem box6 {w w1 : World} {v0 v1 v2 v3 v4 v5 : Value} {t : TypeId} (hb : Below (w.alloc (.cells #[v0, v1, v2, v3, v4, v5] t)).heap.size (w.alloc (.cells #[v0, v1, v2, v3, v4, v5] t)) w1) :
    w1.heap[w.heap.size]? = some (.cells #[v0, v1, v2, v3, v4, v5] t (0, 0)) := (hb.block _ (by simp)).trans (by have := heap_alloc_new w (.cells #[v0, v1, v2, v3, v4, v5] t); simpa using this)

def Cells6 (w : World) (b : Nat) (v0 v1 v2 v3 v4 v5 : Value) : Prop := w.cell? ⟨b, 0, none⟩ = some v0 ∧ w.cell? ⟨b, 1, none⟩ = some v1 ∧ w.cell? ⟨b, 2, none⟩ = some v2 ∧ w.cell? ⟨b, 3, none⟩ = some v3 ∧ w.cell? ⟨b, 4, none⟩ = some v4 ∧ w.cell? ⟨b, 5, none⟩ = some v5
theorem results_pol {fn : Func} {x : Tmp} (h : fn.results = #[.cell x 28]) (tmps : Array Value) (w : World) {b : Nat} {v0 v1 v2 v3 v4 v5 : Value} (hx : tmps.getD x undef = .pointer (some ⟨b, 0, none⟩))
    (hc : Cells6 w b v0 v1 v2 v3 v4 v5) :
    (results fn tmps).run Try.prog w = .ok (.agg #[v0, v1, v2, v3, v4, v5]) w := by
  obtain ⟨i0, i1, i2, i3, i4, i5⟩ := hc
  have hx' : tmps[x]?.getD undef = .pointer (some ⟨b, 0, none⟩) := by simpa using hx
  unfold results
  simp [h, hx', go_sem, i0, i1, i2, i3, i4, i5]
theorem set6 {w : World} {b : Nat} {u0 u1 u2 u3 u4 u5 : Value} {v0 v1 v2 v3 v4 v5 : Value} (h : Cells6 w b u0 u1 u2 u3 u4 u5) :
    Cells6 ((((((w.setCell ⟨b, 0, none⟩ v0).setCell ⟨b, 1, none⟩ v1).setCell ⟨b, 2, none⟩ v2).setCell ⟨b, 3, none⟩ v3).setCell ⟨b, 4, none⟩ v4).setCell ⟨b, 5, none⟩ v5) b v0 v1 v2 v3 v4 v5 := by
  obtain ⟨i0, i1, i2, i3, i4, i5⟩ := h
  refine ⟨?_, ?_, ?_, ?_, ?_, ?_⟩ <;> simp [World.cell?_setCell_other, World.cell?_setCell_same', i0, i1, i2, i3, i4, i5]
theorem bl6 {w W : World} (h : Below w.heap.size w W) {b : Nat} (hb : w.heap.size ≤ b) {v0 v1 v2 v3 v4 v5 : Value} :
    Below w.heap.size w ((((((W.setCell ⟨b, 0, none⟩ v0).setCell ⟨b, 1, none⟩ v1).setCell ⟨b, 2, none⟩ v2).setCell ⟨b, 3, none⟩ v3).setCell ⟨b, 4, none⟩ v4).setCell ⟨b, 5, none⟩ v5) :=
  bl_set (bl_set (bl_set (bl_set (bl_set (bl_set h hb _) hb _) hb _) hb _) hb _) hb _
theorem cells6_alloc {w : World} {b : Nat} {v0 v1 v2 v3 v4 v5 : Value} (h : Cells6 w b v0 v1 v2 v3 v4 v5) {o : Obj} : Cells6 (w.alloc o) b v0 v1 v2 v3 v4 v5 := by
  have hb := bl_alloc (bl_refl w) o
  obtain ⟨i0, i1, i2, i3, i4, i5⟩ := h
  exact ⟨bl_cell hb i0, bl_cell hb i1, bl_cell hb i2, bl_cell hb i3, bl_cell hb i4, bl_cell hb i5⟩

set_option maxHeartbeats 1000000 in
set_option maxRecDepth 20000 in
theorem of5_any (l d b : Int) (w : World) (hl : 0 ≤ l ∧ l ≤ 65535) (hd : 0 ≤ d ∧ d ≤ 65535) (hb : 0 ≤ b ∧ b ≤ 65535) : Calls Try.prog 34 #[.int .u16 l, .int .u16 d, .int .u16 b] w fun e w' => e = .returned (Pol.v ⟨2, 1 + l, 1 + d, 1 + b, 0, false⟩) ∧ Below w.heap.size w w' := by
  have hc := fun w => of4_any l d b w hl hd hb
  clear hl hd hb
  unfold Pol.v at *
  dsimp only at *
  have HC := Go.Lib.hid hc
  clear hc
  go_enter Try.func34, Try.ntmps34
  go_wp2_with fail
  refine (HC.out _).mono ?_
  rintro e w1 ⟨rfl, hb1⟩
  have r0 := box6 hb1
  have hB : Below w.heap.size w w1 := bl_then (bl_alloc (bl_refl _) _) hb1
  have hlt : w.heap.size < w1.heap.size := by have := hb1.size; simp at this; omega
  have f : ∀ i, w1.frozen? ⟨w.heap.size, i, none⟩ = false := fun i => by simp [World.frozen?, r0]
  have c0 : w1.cell? ⟨w.heap.size, 0, none⟩ = some (.int .i64 0) := by simp [World.cell?, r0]
  have c1 : w1.cell? ⟨w.heap.size, 1, none⟩ = some (.int .i64 0) := by simp [World.cell?, r0]
  have c2 : w1.cell? ⟨w.heap.size, 2, none⟩ = some (.int .i64 0) := by simp [World.cell?, r0]
  have c3 : w1.cell? ⟨w.heap.size, 3, none⟩ = some (.int .i64 0) := by simp [World.cell?, r0]
  have c4 : w1.cell? ⟨w.heap.size, 4, none⟩ = some (.int .i64 0) := by simp [World.cell?, r0]
  have c5 : w1.cell? ⟨w.heap.size, 5, none⟩ = some (.bool false) := by simp [World.cell?, r0]
  have g0 := f 0
  have g1 := f 1
  have g2 := f 2
  have g3 := f 3
  have g4 := f 4
  have g5 := f 5
  clear f r0 HC hb1
  go_simp
  repeat' (first | go_skip | go_guarded | go_step | go_upon)
  (try simp only [Exit.inBlock, Exit.then])
  refine bodyPost_ret (results_pol rfl _ _ (by rfl) (cells6_alloc (set6 ⟨c0, c1, c2, c3, c4, c5⟩))) rfl ⟨rfl, bl_alloc (bl6 hB (Nat.le_refl _)) _⟩

set_option maxHeartbeats 1000000 in
set_option maxRecDepth 20000 in
theorem of6_any (l d b : Int) (w : World) (hl : 0 ≤ l ∧ l ≤ 65535) (hd : 0 ≤ d ∧ d ≤ 65535) (hb : 0 ≤ b ∧ b ≤ 255) : Calls Try.prog 35 #[.int .u16 l, .int .u16 d, .int .u8 b] w fun e w' => e = .returned (Pol.v ⟨3, 1 + l, 1 + d, 0, 1 + b % 100, false⟩) ∧ Below w.heap.size w w' := by
  have w1 : IntKind.i64.wrap l = l := IntWalk.i64_in _ (by omega)
  have w2 : IntKind.i64.wrap d = d := IntWalk.i64_in _ (by omega)
  have w3 : IntKind.i64.wrap b = b := IntWalk.i64_in _ (by omega)
  have w4 : IntKind.i64.wrap (1 + l) = 1 + l := IntWalk.i64_in _ (by omega)
  have w5 : IntKind.i64.wrap (1 + d) = 1 + d := IntWalk.i64_in _ (by omega)
  have w7 : Int.tmod b 100 = b % 100 := Int.tmod_eq_emod_of_nonneg hb.1
  have w8 : IntKind.i64.wrap (b % 100) = b % 100 := IntWalk.i64_in _ (by omega)
  have w6 : IntKind.i64.wrap (1 + b % 100) = 1 + b % 100 := IntWalk.i64_in _ (by omega)
  unfold Pol.v
  dsimp only
  go_enter Try.func35, Try.ntmps35
  go_wp2_with fail
  (try simp only [Exit.inBlock, Exit.then])
  refine bodyPost_ret (v := .agg #[.int .i64 3, .int .i64 (1 + l), .int .i64 (1 + d), .int .i64 0, .int .i64 (1 + b % 100), .bool false]) (by simp [results, Try.results35, go_sem]) rfl ⟨rfl, bl_alloc (bl_refl _) _⟩

set_option maxHeartbeats 1000000 in
set_option maxRecDepth 20000 in
theorem of7_any (l d : Int) (w : World) (hl : 0 ≤ l ∧ l ≤ 65535) (hd : 0 ≤ d ∧ d ≤ 65535) : Calls Try.prog 36 #[.int .u16 l, .int .u16 d] w fun e w' => e = .returned (Pol.v ⟨4, 1 + l, 1 + d, 0, 0, false⟩) ∧ Below w.heap.size w w' := by
  have w1 : IntKind.i64.wrap l = l := IntWalk.i64_in _ (by omega)
  have w2 : IntKind.i64.wrap d = d := IntWalk.i64_in _ (by omega)
  have w4 : IntKind.i64.wrap (1 + l) = 1 + l := IntWalk.i64_in _ (by omega)
  have w5 : IntKind.i64.wrap (1 + d) = 1 + d := IntWalk.i64_in _ (by omega)
  unfold Pol.v
  dsimp only
  go_enter Try.func36, Try.ntmps36
  go_wp2_with fail
  (try simp only [Exit.inBlock, Exit.then])
  refine bodyPost_ret (v := .agg #[.int .i64 4, .int .i64 (1 + l), .int .i64 (1 + d), .int .i64 0, .int .i64 0, .bool false]) (by simp [results, Try.results36, go_sem]) rfl ⟨rfl, bl_alloc (bl_refl _) _⟩

theorem box6_all {w w1 : World} {n : Nat} (r0 : w1.heap[n]? = some (.cells #[.int .i64 0, .int .i64 0, .int .i64 0, .int .i64 0, .int .i64 0, .bool false] 28 (0, 0))) :
    (∀ i, w1.frozen? ⟨n, i, none⟩ = false) ∧ w1.cell? ⟨n, 0, none⟩ = some (.int .i64 0) ∧ w1.cell? ⟨n, 1, none⟩ = some (.int .i64 0) ∧ w1.cell? ⟨n, 2, none⟩ = some (.int .i64 0) ∧
    w1.cell? ⟨n, 3, none⟩ = some (.int .i64 0) ∧ w1.cell? ⟨n, 4, none⟩ = some (.int .i64 0) ∧ w1.cell? ⟨n, 5, none⟩ = some (.bool false) :=
  ⟨fun i => by simp [World.frozen?, r0], by simp [World.cell?, r0], by simp [World.cell?, r0], by simp [World.cell?, r0], by simp [World.cell?, r0], by simp [World.cell?, r0], by simp [World.cell?, r0]⟩

set_option maxHeartbeats 2000000 in
set_option maxRecDepth 20000 in
theorem ofP_any (k l d b : Int) (w : World) (hk : 0 ≤ k ∧ k ≤ 255) (hl : 0 ≤ l ∧ l ≤ 65535) (hd : 0 ≤ d ∧ d ≤ 65535) (hb : 0 ≤ b ∧ b ≤ 65535) : Calls Try.prog 11 #[.int .u8 k, .int .u16 l, .int .u16 d, .int .u16 b] w fun e w' => e = .returned (ofP k l d b).v ∧ Below w.heap.size w w' := by
  have h4 := fun w => of4_any l d b w hl hd hb
  have h5 := fun w => of5_any l d b w hl hd hb
  have h6 := fun w => of6_any l d (b % 256) w hl hd (by omega)
  have h7 := fun w => of7_any l d w hl hd
  have w1 : Int.tmod k 4 = k % 4 := Int.tmod_eq_emod_of_nonneg hk.1
  have w2 : IntKind.u8.wrap (k % 4) = k % 4 := by unfold IntKind.wrap; simp [IntKind.signed, IntKind.bits]; omega
  have w3 : Int.tmod b 256 = b % 256 := Int.tmod_eq_emod_of_nonneg hb.1
  have w4 : IntKind.u16.wrap (b % 256) = b % 256 := by unfold IntKind.wrap; simp [IntKind.signed, IntKind.bits]; omega
  have w5 : IntKind.u8.wrap (b % 256) = b % 256 := by unfold IntKind.wrap; simp [IntKind.signed, IntKind.bits]
  unfold ofP
  generalize b % 256 = B at *
  have hk4 : k % 4 = 0 ∨ k % 4 = 1 ∨ k % 4 = 2 ∨ k % 4 = 3 := by omega
  generalize k % 4 = K at *
  have H4 := Go.Lib.hid h4
  have H5 := Go.Lib.hid h5
  have H6 := Go.Lib.hid h6
  have H7 := Go.Lib.hid h7
  clear h4 h5 h6 h7 hk hl hd hb
  rcases hk4 with rfl | rfl | rfl | rfl
  all_goals
    simp only [if_true, if_false, show (1 : Int) ≠ 0 by omega, show (2 : Int) ≠ 0 by omega, show (2 : Int) ≠ 1 by omega, show (3 : Int) ≠ 0 by omega, show (3 : Int) ≠ 1 by omega, show (3 : Int) ≠ 2 by omega]
    unfold Pol.v at *
    dsimp only at *
    go_enter Try.func11, Try.ntmps11
    go_wp2_with go_step3
    first
      | refine (H4.out _).mono ?_
      | refine (H5.out _).mono ?_
      | refine (H6.out _).mono ?_
      | refine (H7.out _).mono ?_
    rintro e w1 ⟨rfl, hb1⟩
    have hB : Below w.heap.size w w1 := bl_then (bl_alloc (bl_refl _) _) hb1
    obtain ⟨f, c0, c1, c2, c3, c4, c5⟩ := box6_all (w := w) (box6 hb1)
    have g0 := f 0
    have g1 := f 1
    have g2 := f 2
    have g3 := f 3
    have g4 := f 4
    have g5 := f 5
    clear f hb1
    go_simp
    repeat' (first | go_step3 | go_skip | go_guarded | go_step | go_upon)
    (try simp only [Exit.inBlock, Exit.then, Exit.noGoto_ret])
    refine bodyPost_ret (results_pol rfl _ _ (by rfl) (set6 ⟨c0, c1, c2, c3, c4, c5⟩)) rfl ⟨rfl, bl6 hB (Nat.le_refl _)⟩
end Go.Proofs.Ythinbjknkjpdjaa

namespace Go.Proofs.Ythinbjknkjpdjaa
open Go.RowKit
set_option linter.unusedVariables false
set_option linter.unusedSimpArgs false

set_option maxHeartbeats 1000000 in
theorem r4chk (p : Pol) (w : World) : Calls Try.prog 78 #[p.v] w fun e w' => e = .returned (.int .i64 (chkB p)) ∧ Below w.heap.size w w' := by
  obtain ⟨k, l, d, b, c, o⟩ := p
  generalize hX : chkB ⟨k, l, d, b, c, o⟩ = C at *
  have HX := Go.Lib.hid hX
  clear hX
  unfold Pol.v
  go_enter Try.func78, Try.ntmps78
  go_wp2
  all_goals
    go_ret
    have hX := HX.out
    refine ⟨congrArg (fun x => Ending.returned (.int .i64 x)) ?_, bl_alloc (bl_refl _) _⟩
    rw [← hX]
    try simp only [bne_iff_ne, ne_eq, bne_eq_false_iff_eq, beq_iff_eq, beq_eq_false_iff_ne, Bool.and_eq_true, Bool.and_eq_false_iff, decide_eq_true_eq, decide_eq_false_iff_not] at *
    first
      | (refine chk_ok ?_; unfold okB; dsimp only; omega)
      | (refine chk_no ?_; unfold okB; dsimp only; intro hh; obtain ⟨q0, q1, q2, q3, q4, q5, q6, q7⟩ := hh; omega)
set_option maxHeartbeats 1000000 in
theorem r6chk (p : Pol) (w : World) : Calls Try.prog 80 #[p.v] w fun e w' => e = .returned (.int .i64 (chkL p)) ∧ Below w.heap.size w w' := by
  obtain ⟨k, l, d, b, c, o⟩ := p
  generalize hX : chkL ⟨k, l, d, b, c, o⟩ = C at *
  have HX := Go.Lib.hid hX
  clear hX
  unfold Pol.v
  go_enter Try.func80, Try.ntmps80
  go_wp2
  all_goals
    go_ret
    have hX := HX.out
    refine ⟨congrArg (fun x => Ending.returned (.int .i64 x)) ?_, bl_alloc (bl_refl _) _⟩
    rw [← hX]
    try simp only [bne_iff_ne, ne_eq, bne_eq_false_iff_eq, beq_iff_eq, beq_eq_false_iff_ne, Bool.and_eq_true, Bool.and_eq_false_iff, decide_eq_true_eq, decide_eq_false_iff_not] at *
    first
      | (refine chkL_ok ?_; unfold okL; dsimp only; omega)
      | (refine chkL_no ?_; unfold okL; dsimp only; intro hh; obtain ⟨q0, q1, q2, q3, q4, q5, q6, q7⟩ := hh; omega)
set_option maxHeartbeats 1000000 in
theorem r7chk (p : Pol) (w : World) : Calls Try.prog 81 #[p.v] w fun e w' => e = .returned (.int .i64 (chkC p)) ∧ Below w.heap.size w w' := by
  obtain ⟨k, l, d, b, c, o⟩ := p
  generalize hX : chkC ⟨k, l, d, b, c, o⟩ = C at *
  have HX := Go.Lib.hid hX
  clear hX
  unfold Pol.v
  go_enter Try.func81, Try.ntmps81
  go_wp2
  all_goals
    go_ret
    have hX := HX.out
    refine ⟨congrArg (fun x => Ending.returned (.int .i64 x)) ?_, bl_alloc (bl_refl _) _⟩
    rw [← hX]
    try simp only [bne_iff_ne, ne_eq, bne_eq_false_iff_eq, beq_iff_eq, beq_eq_false_iff_ne, Bool.and_eq_true, Bool.and_eq_false_iff, decide_eq_true_eq, decide_eq_false_iff_not] at *
    first
      | (refine chkC_ok ?_; unfold okC; dsimp only; omega)
      | (refine chkC_no ?_; unfold okC; dsimp only; intro hh; obtain ⟨q0, q1, q2, q3, q4, q5, q6⟩ := hh; omega)

/-- As a bucket's policy. -/
def asP (p : Pol) : Pol := ⟨if p.kind = 2 then 1 else 0, p.limit, p.period, p.burst, p.cap, p.opn⟩
theorem asP_ok (p : Pol) : okB (asP p) ↔ okG p := by
  unfold okB okG asP
  dsimp only
  by_cases h : p.kind = 2
  · rw [if_pos h]; omega
  · rw [if_neg h]; omega
theorem asP_chk (p : Pol) : chkB (asP p) = chkG p := by
  unfold chkB chkG
  by_cases z : okG p
  · rw [if_pos z, if_pos ((asP_ok p).2 z)]
  · rw [if_neg z, if_neg (fun h => z ((asP_ok p).1 h))]
set_option maxHeartbeats 1000000 in
theorem as5 (p : Pol) (w : World) : Calls Try.prog 86 #[p.v] w fun e w' => e = .returned (asP p).v ∧ Below w.heap.size w w' := by
  obtain ⟨k, l, d, b, c, o⟩ := p
  unfold Pol.v asP
  dsimp only
  by_cases h : k = 2
  · rw [if_pos h]
    subst h
    go_enter Try.func86, Try.ntmps86
    repeat' (first | go_skip | go_guarded | go_step | go_upon)
    (try simp only [Exit.inBlock, Exit.then])
    refine bodyPost_ret (results_pol (b := w.heap.size + 1) rfl _ _ (by rfl) ⟨by go_simp, by go_simp, by go_simp, by go_simp, by go_simp, by go_simp⟩) rfl ⟨rfl, bl_alloc (bl_alloc (bl_refl _) _) _⟩
  · rw [if_neg h]
    go_enter Try.func86, Try.ntmps86
    repeat' (first | go_skip | go_guarded | go_step | go_upon)
    (try simp only [Exit.inBlock, Exit.then])
    refine bodyPost_ret (results_pol (b := w.heap.size + 1) rfl _ _ (by rfl) ⟨by go_simp, by go_simp, by go_simp, by go_simp, by go_simp, by go_simp⟩) rfl ⟨rfl, bl_alloc (bl_alloc (bl_refl _) _) _⟩
set_option maxHeartbeats 1000000 in
theorem r5chk (p : Pol) (w : World) : Calls Try.prog 79 #[p.v] w fun e w' => e = .returned (.int .i64 (chkG p)) ∧ Below w.heap.size w w' := by
  have h1 := as5 p
  have h2 := r4chk (asP p)
  rw [asP_chk] at h2
  generalize asP p = q at *
  generalize chkG p = C at *
  obtain ⟨k, l, d, b, c, o⟩ := p
  obtain ⟨k', l', d', b', c', o'⟩ := q
  unfold Pol.v at *
  dsimp only at *
  have H1 := Go.Lib.hid h1
  have H2 := Go.Lib.hid h2
  clear h1 h2
  go_enter Try.func79, Try.ntmps79
  go_wp2_with fail
  refine (H1.out _).mono ?_
  rintro e w1 ⟨rfl, hb⟩
  go_wp2_with fail
  refine (H2.out _).mono ?_
  rintro e w2 ⟨rfl, hb2⟩
  go_wp2_with fail
  go_ret
  exact ⟨rfl, bl_then (bl_then (bl_alloc (bl_refl _) _) hb) hb2⟩
set_option maxHeartbeats 2000000 in
theorem r8chk (p : Pol) (w : World) : Calls Try.prog 52 #[p.v] w fun e w' => e = .returned (.int .i64 (chkP p)) ∧ Below w.heap.size w w' := by
  have h4 := r4chk p
  have h5 := r5chk p
  have h6 := r6chk p
  have h7 := r7chk p
  have hB : p.kind ≠ 1 → chkB p = 2 := fun h => (chk_no (fun z => h z.1)).symm
  have HB := Go.Lib.hid hB
  unfold chkP
  generalize chkB p = CB at *
  generalize chkG p = CG at *
  generalize chkL p = CL at *
  generalize chkC p = CC at *
  obtain ⟨k, l, d, b, c, o⟩ := p
  unfold Pol.v at *
  dsimp only at *
  have H4 := Go.Lib.hid h4
  have H5 := Go.Lib.hid h5
  have H6 := Go.Lib.hid h6
  have H7 := Go.Lib.hid h7
  clear h4 h5 h6 h7 hB
  by_cases k2 : k = 2
  · subst k2
    rw [if_pos rfl]
    go_enter Try.func52, Try.ntmps52
    go_wp2_with go_step3
    refine (H5.out _).mono ?_
    rintro e w1 ⟨rfl, hb⟩
    go_wp2_with go_step3
    go_ret
    exact ⟨rfl, bl_then (bl_alloc (bl_refl _) _) hb⟩
  by_cases k3 : k = 3
  · subst k3
    rw [if_neg (by omega), if_pos rfl]
    go_enter Try.func52, Try.ntmps52
    go_wp2_with go_step3
    refine (H6.out _).mono ?_
    rintro e w1 ⟨rfl, hb⟩
    go_wp2_with go_step3
    go_ret
    exact ⟨rfl, bl_then (bl_alloc (bl_refl _) _) hb⟩
  by_cases k4 : k = 4
  · subst k4
    rw [if_neg (by omega), if_neg (by omega), if_pos rfl]
    go_enter Try.func52, Try.ntmps52
    go_wp2_with go_step3
    refine (H7.out _).mono ?_
    rintro e w1 ⟨rfl, hb⟩
    go_wp2_with go_step3
    go_ret
    exact ⟨rfl, bl_then (bl_alloc (bl_refl _) _) hb⟩
  by_cases k1 : k = 1
  · subst k1
    rw [if_neg (by omega), if_neg (by omega), if_neg (by omega)]
    go_enter Try.func52, Try.ntmps52
    go_wp2_with go_step3
    refine (H4.out _).mono ?_
    rintro e w1 ⟨rfl, hb⟩
    go_wp2_with go_step3
    go_ret
    exact ⟨rfl, bl_then (bl_alloc (bl_refl _) _) hb⟩
  rw [if_neg k2, if_neg k3, if_neg k4, HB.out k1]
  go_enter Try.func52, Try.ntmps52
  go_wp2_with go_step3
  go_ret
  exact ⟨rfl, bl_alloc (bl_refl _) _⟩
/-- The greatest cost of a policy that may be. -/
def capP (p : Pol) : Int := if p.kind ≤ 2 then p.burst else p.limit
set_option maxHeartbeats 2000000 in
theorem r8most (p : Pol) (w : World) : Calls Try.prog 32 #[p.v] w fun e w' => e = .returned (.int .i64 (if chkP p = 0 then capP p else 0)) ∧ Below w.heap.size w w' := by
  have h8 := r8chk p
  unfold capP
  generalize chkP p = C at *
  obtain ⟨k, l, d, b, c, o⟩ := p
  unfold Pol.v at *
  dsimp only at *
  have H8 := Go.Lib.hid h8
  clear h8
  by_cases hC : C = 0
  · rw [if_pos hC]
    subst hC
    by_cases hk : k ≤ 2
    · rw [if_pos hk]
      go_enter Try.func32, Try.ntmps32
      go_wp2_with fail
      refine (H8.out _).mono ?_
      rintro e w1 ⟨rfl, hb⟩
      have c0 := bl_cell (v := .int .i64 k) hb (show World.cell? _ ⟨w.heap.size, 0, none⟩ = _ by go_simp)
      have c3 := bl_cell (v := .int .i64 b) hb (show World.cell? _ ⟨w.heap.size, 3, none⟩ = _ by go_simp)
      go_wp2_with fail
      go_ret
      exact ⟨rfl, bl_then (bl_alloc (bl_refl _) _) hb⟩
    · rw [if_neg hk]
      go_enter Try.func32, Try.ntmps32
      go_wp2_with fail
      refine (H8.out _).mono ?_
      rintro e w1 ⟨rfl, hb⟩
      have c0 := bl_cell (v := .int .i64 k) hb (show World.cell? _ ⟨w.heap.size, 0, none⟩ = _ by go_simp)
      have c1 := bl_cell (v := .int .i64 l) hb (show World.cell? _ ⟨w.heap.size, 1, none⟩ = _ by go_simp)
      go_wp2_with fail
      go_ret
      exact ⟨rfl, bl_then (bl_alloc (bl_refl _) _) hb⟩
  · rw [if_neg hC]
    go_enter Try.func32, Try.ntmps32
    go_wp2_with fail
    refine (H8.out _).mono ?_
    rintro e w1 ⟨rfl, hb⟩
    go_wp2_with fail
    go_ret
    exact ⟨rfl, bl_then (bl_alloc (bl_refl _) _) hb⟩
end Go.Proofs.Ythinbjknkjpdjaa

namespace Go.Proofs.Ythinbjknkjpdjaa
open Pu
set_option linter.unusedVariables false
set_option linter.unusedSimpArgs false

/-- What any of the four does. -/
structure Kern (right : St → Prop) (adv : St → Int → St) (new : Int → St) (room : St → Int → Int) (do_ : St → Ac → St × Bool) (til : St → Int → Int) (retry : St → Int → Int → Int × Bool) (cap per : Int) : Prop where
  right_new : ∀ t, right (new t)
  right_do : ∀ s a, right s → right (do_ s a).1
  do_no : ∀ s a, right s → (do_ s a).2 = false → (do_ s a).1 = s
  hold_take : ∀ s n c, right s → 1 ≤ c → (do_ s ⟨2, n, c⟩).2 = decide (c ≤ room s n) ∧ (do_ s ⟨1, n, c⟩).2 = decide (c ≤ room s n)
  back : ∀ s n c, right s → 1 ≤ c → c ≤ room s n → do_ (do_ s ⟨2, n, c⟩).1 ⟨3, n, c⟩ = (adv s n, true) ∧ do_ (do_ s ⟨2, n, c⟩).1 ⟨4, n, c⟩ = ((do_ s ⟨1, n, c⟩).1, true)
  held : ∀ s n, right s → 0 ≤ s.held ∧ s.held + room s n ≤ cap
  unheld : ∀ s n c, right s → s.held < c → (do_ s ⟨3, n, c⟩).2 = false ∧ (do_ s ⟨4, n, c⟩).2 = false
  free : ∀ s n, right s → 0 < s.held → (do_ s ⟨3, n, s.held⟩).2 = true ∧ (do_ s ⟨4, n, s.held⟩).2 = true ∧ (do_ s ⟨3, n, s.held⟩).1.held = 0 ∧ (do_ s ⟨4, n, s.held⟩).1.held = 0
  free_room : ∀ s n, right s → 0 < s.held → room (do_ s ⟨4, n, s.held⟩).1 n ≤ room (do_ s ⟨3, n, s.held⟩).1 n
  until_neg : ∀ s n, right s → (til s n < 0 ↔ 0 < s.held)
  fresh : ∀ s t, right s → til s t = 0 → 0 ≤ t → t ≤ 9007199254740992 → s.at_ ≤ t → adv s t = new t ∧ room s t = cap
  until_then : ∀ s, right s → ¬ til s 0 < 0 → s.at_ + til s 0 ≤ 9007199254740992 → til s (s.at_ + til s 0) = 0 ∧ (til s 0 ≠ 0 → 0 < til s (s.at_ + til s 0 - 1))
  retry_ok : ∀ s n c, right s → 1 ≤ c → (retry s n c).2 = decide (c ≤ cap - s.held)
  retry_le : ∀ s c, right s → 1 ≤ c → 0 ≤ (retry s 0 c).1 ∧ (retry s 0 c).1 ≤ c * per
  retry_then : ∀ s c, right s → 1 ≤ c → c ≤ cap - s.held → s.at_ + (retry s 0 c).1 ≤ 9007199254740992 → (do_ s ⟨1, s.at_ + (retry s 0 c).1, c⟩).2 = true ∧ (0 < (retry s 0 c).1 → (do_ s ⟨1, s.at_ + (retry s 0 c).1 - 1, c⟩).2 = false)
  new_all : ∀ t, room (new t) t = cap ∧ (new t).held = 0 ∧ til (new t) t = 0 ∧ 1 ≤ cap
  at_range : ∀ s, right s → 0 ≤ s.at_ ∧ s.at_ ≤ 9007199254740992
  room_nn : ∀ s n, right s → 0 ≤ room s n
  until_le : ∀ s, right s → til s 0 ≤ cap * per

theorem ceilD_le {n d : Int} (hd : 0 < d) (hn : 0 ≤ n) : ceilD n d ≤ n := by
  have h := ceilD_spec (n := n) hd
  by_cases z : 0 < n
  · obtain ⟨h1, h2⟩ := h.2.2.1 z
    have h5 : (ceilD n d - 1) * 1 ≤ (ceilD n d - 1) * d := Int.mul_le_mul_of_nonneg_left (by omega) (by omega)
    omega
  · rw [h.2.2.2 (by omega)]; omega
theorem per_le {c d : Int} (hc : 1 ≤ c) (hd : 0 ≤ d) : d ≤ c * d := by have := mulr (d := d) hc hd; omega
theorem kern_B {p : Pol} (h : okB p) : Kern (rightB p) (advB p) (newB p) (roomB p) (doB p) (untilB p) (retryB p) p.burst p.period where
  right_new t := right_newB t h
  right_do s a := right_doB a
  do_no s a := do_noB a
  hold_take s n c := hold_takeB n c
  back s n c := backB n c
  held s n := heldB n
  unheld s n c := unheldB n c
  free s n hr hh := by obtain ⟨e1, e2⟩ := freeB n hr hh; rw [e1, e2]; exact ⟨rfl, rfl, rfl, rfl⟩
  free_room s n := freeRoomB n
  until_neg s n := until_negB n
  fresh s t := freshB t
  until_then s := until_thenB
  retry_ok s n c hr hc := retry_okB c hr hc n
  retry_le s c := retry_leB c
  retry_then s c := retry_thenB c
  new_all t := new_allB t h
  at_range s hr := ⟨hr.2.1, hr.2.2.1⟩
  room_nn s n hr := (roomB_iff n 0 hr).2 (by have := (advB_level p s n hr).1; omega)
  until_le s hr := by
    unfold untilB
    have hv := advB_level p s 0 hr
    have ho := hr.1
    have hz := mul0 (a := p.burst) (d := p.period) (by have := ho.2.2.1; omega) (by have := ho.2.2.2.1; omega)
    split
    · rename_i z
      have hh : s.held = 0 := by have := hr.2.2.2.1; omega
      rw [hh, Int.sub_zero] at hv
      have := ceilD_le (n := p.burst * p.period - (advB p s 0).level) (d := p.limit) (by have := ho.2.1; omega) (by omega)
      omega
    · omega
theorem kern_G {p : Pol} (h : okG p) : Kern (rightG p) (advG p) (newG p) (roomG p) (doG p) (untilG p) (retryG p) p.burst p.period where
  right_new t := right_newG t h
  right_do s a := right_doG a
  do_no s a := do_noG a
  hold_take s n c := hold_takeG n c
  back s n c := backG n c
  held s n := heldG n
  unheld s n c := unheldG n c
  free s n hr hh := by obtain ⟨e1, e2⟩ := freeG n hr hh; rw [e1, e2]; exact ⟨rfl, rfl, rfl, rfl⟩
  free_room s n := freeRoomG n
  until_neg s n := until_negG n
  fresh s t := freshG t
  until_then s := until_thenG
  retry_ok s n c hr hc := retry_okG c hr hc n
  retry_le s c := retry_leG c
  retry_then s c := retry_thenG c
  new_all t := new_allG t h
  at_range s hr := ⟨hr.2.1, hr.2.2.1⟩
  room_nn s n hr := (roomG_iff n 0 hr).2 (by have := (lvlG n hr).2.2.2; omega)
  until_le s hr := by
    unfold untilG
    have hv := lvlG 0 hr
    have ho := hr.1
    split
    · have := ceilD_le (n := (advG p s 0).level) (d := p.limit) (by have := ho.2.2.1; omega) (by omega)
      omega
    · omega
theorem kern_L {p : Pol} (h : okL p) : Kern (rightL p) (advL p) (newL p) (roomL p) (doL p) (untilL p) (retryL p) p.limit p.period where
  right_new t := right_newL t h
  right_do s a := right_doL a
  do_no s a := do_noL a
  hold_take s n c := hold_takeL n c
  back s n c := backL n c
  held s n := heldL n
  unheld s n c := unheldL n c
  free s n hr hh := by obtain ⟨e1, e2⟩ := freeL n hr hh; rw [e1, e2]; exact ⟨rfl, rfl, rfl, rfl⟩
  free_room s n := freeRoomL n
  until_neg s n := until_negL n
  fresh s t := freshL t
  until_then s := until_thenL
  retry_ok s n c hr hc := retry_okL c hr hc n
  retry_le s c := retry_leL c
  retry_then s c := retry_thenL c
  new_all t := new_allL t h
  at_range s hr := ⟨hr.2.1, hr.2.2.1⟩
  room_nn s n hr := by rw [roomL_eq n hr]; have := (right_advL n hr).2.2.2.2.2.2.2.2; have := adv_heldL n hr; omega
  until_le s hr := by
    unfold untilL
    have ho := hr.1
    have hp := per_le (c := p.limit) (d := p.period) ho.2.1 (by have := ho.2.2.1; omega)
    have hd := ho.2.2.1
    split
    · split
      · omega
      · rename_i z
        have h1 := right_advL 0 hr
        obtain ⟨-, e, h2, h3⟩ := last_spec h1.2.2.2.2.2.2.1 z
        have := (risenA h1.2.2.2.2.2.2.1 e h2).2.2.2
        omega
    · omega
theorem kern_C {p : Pol} (h : okC p) : Kern (rightC p) (advC p) (newC p) (roomC p) (doC p) (untilC p) (retryC p) p.limit p.period where
  right_new t := right_newC t h
  right_do s a := right_doC a
  do_no s a := do_noC a
  hold_take s n c := hold_takeC n c
  back s n c := backC n c
  held s n := heldC n
  unheld s n c := unheldC n c
  free s n hr hh := by obtain ⟨e1, e2⟩ := freeC n hr hh; rw [e1, e2]; exact ⟨rfl, rfl, rfl, rfl⟩
  free_room s n := freeRoomC n
  until_neg s n := until_negC n
  fresh s t := freshC t
  until_then s := until_thenC
  retry_ok s n c hr hc := retry_okC c hr hc n
  retry_le s c := retry_leC c
  retry_then s c := retry_thenC c
  new_all t := new_allC t h
  at_range s hr := ⟨hr.2.1, hr.2.2.1⟩
  room_nn s n hr := by rw [roomC_eq n hr]; have := (right_advC n hr).2.2.2.2.2.2.2.1; have := adv_heldC n hr; omega
  until_le s hr := by
    unfold untilC
    have ho := hr.1
    have hp := per_le (c := p.limit) (d := p.period) ho.2.1 (by have := ho.2.2.1; omega)
    have hd := ho.2.2.1
    have := next_pos ho (advC p s 0).at_
    split
    · split <;> omega
    · omega
/-- The four at once. -/
theorem kern_P {p : Pol} (h : chkP p = 0) : Kern (fun s => rightP p s = true) (advP p) (newP p) (roomP p) (doP p) (untilP p) (retryP p) (capP p) p.period := by
  unfold chkP at h
  by_cases k2 : p.kind = 2
  · rw [if_pos k2] at h
    have ho : okG p := by
      by_cases z : okG p
      · exact z
      · unfold chkG at h; rw [if_neg z] at h; omega
    have e1 : (fun s => rightP p s = true) = rightG p := by funext s; unfold rightP; rw [if_pos k2]; simp
    have e2 : advP p = advG p := by funext s n; unfold advP; rw [if_pos k2]
    have e3 : newP p = newG p := by funext n; unfold newP; rw [if_pos k2]
    have e4 : roomP p = roomG p := by funext s n; unfold roomP; rw [if_pos k2]
    have e5 : doP p = doG p := by funext s n; unfold doP; rw [if_pos k2]
    have e6 : untilP p = untilG p := by funext s n; unfold untilP; rw [if_pos k2]
    have e7 : retryP p = retryG p := by funext s n c; unfold retryP; rw [if_pos k2]
    have e8 : capP p = p.burst := by unfold capP; rw [if_pos (by omega)]
    rw [e1, e2, e3, e4, e5, e6, e7, e8]
    exact kern_G ho
  rw [if_neg k2] at h
  by_cases k3 : p.kind = 3
  · rw [if_pos k3] at h
    have ho : okL p := by
      by_cases z : okL p
      · exact z
      · unfold chkL at h; rw [if_neg z] at h; omega
    have e1 : (fun s => rightP p s = true) = rightL p := by funext s; unfold rightP; rw [if_neg k2, if_pos k3]; simp
    have e2 : advP p = advL p := by funext s n; unfold advP; rw [if_neg k2, if_pos k3]
    have e3 : newP p = newL p := by funext n; unfold newP; rw [if_neg k2, if_pos k3]
    have e4 : roomP p = roomL p := by funext s n; unfold roomP; rw [if_neg k2, if_pos k3]
    have e5 : doP p = doL p := by funext s n; unfold doP; rw [if_neg k2, if_pos k3]
    have e6 : untilP p = untilL p := by funext s n; unfold untilP; rw [if_neg k2, if_pos k3]
    have e7 : retryP p = retryL p := by funext s n c; unfold retryP; rw [if_neg k2, if_pos k3]
    have e8 : capP p = p.limit := by unfold capP; rw [if_neg (by omega)]
    rw [e1, e2, e3, e4, e5, e6, e7, e8]
    exact kern_L ho
  rw [if_neg k3] at h
  by_cases k4 : p.kind = 4
  · rw [if_pos k4] at h
    have ho : okC p := by
      by_cases z : okC p
      · exact z
      · unfold chkC at h; rw [if_neg z] at h; omega
    have e1 : (fun s => rightP p s = true) = rightC p := by funext s; unfold rightP; rw [if_neg k2, if_neg k3, if_pos k4]; simp
    have e2 : advP p = advC p := by funext s n; unfold advP; rw [if_neg k2, if_neg k3, if_pos k4]
    have e3 : newP p = newC p := by funext n; unfold newP; rw [if_neg k2, if_neg k3, if_pos k4]
    have e4 : roomP p = roomC p := by funext s n; unfold roomP; rw [if_neg k2, if_neg k3, if_pos k4]
    have e5 : doP p = doC p := by funext s n; unfold doP; rw [if_neg k2, if_neg k3, if_pos k4]
    have e6 : untilP p = untilC p := by funext s n; unfold untilP; rw [if_neg k2, if_neg k3, if_pos k4]
    have e7 : retryP p = retryC p := by funext s n c; unfold retryP; rw [if_neg k2, if_neg k3, if_pos k4]
    have e8 : capP p = p.limit := by unfold capP; rw [if_neg (by omega)]
    rw [e1, e2, e3, e4, e5, e6, e7, e8]
    exact kern_C ho
  rw [if_neg k4] at h
  have ho : okB p := by
    by_cases z : okB p
    · exact z
    · unfold chkB at h; rw [if_neg z] at h; omega
  have e1 : (fun s => rightP p s = true) = rightB p := by funext s; unfold rightP; rw [if_neg k2, if_neg k3, if_neg k4]; simp
  have e2 : advP p = advB p := by funext s n; unfold advP; rw [if_neg k2, if_neg k3, if_neg k4]
  have e3 : newP p = newB p := by funext n; unfold newP; rw [if_neg k2, if_neg k3, if_neg k4]
  have e4 : roomP p = roomB p := by funext s n; unfold roomP; rw [if_neg k2, if_neg k3, if_neg k4]
  have e5 : doP p = doB p := by funext s n; unfold doP; rw [if_neg k2, if_neg k3, if_neg k4]
  have e6 : untilP p = untilB p := by funext s n; unfold untilP; rw [if_neg k2, if_neg k3, if_neg k4]
  have e7 : retryP p = retryB p := by funext s n c; unfold retryP; rw [if_neg k2, if_neg k3, if_neg k4]
  have e8 : capP p = p.burst := by unfold capP; rw [if_pos (by have := ho.1; omega)]
  rw [e1, e2, e3, e4, e5, e6, e7, e8]
  exact kern_B ho
theorem capP_range {p : Pol} (h : chkP p = 0) : 1 ≤ capP p ∧ capP p ≤ 1048576 := by
  unfold chkP at h
  unfold capP
  by_cases k2 : p.kind = 2
  · rw [if_pos k2] at h
    rw [if_pos (by omega)]
    by_cases z : okG p
    · exact ⟨z.2.2.2.2.1, z.2.2.2.2.2.1⟩
    · unfold chkG at h; rw [if_neg z] at h; omega
  rw [if_neg k2] at h
  by_cases k3 : p.kind = 3
  · rw [if_pos k3] at h
    rw [if_neg (by omega)]
    by_cases z : okL p
    · exact ⟨z.2.1, z.2.2.2.2.1⟩
    · unfold chkL at h; rw [if_neg z] at h; omega
  rw [if_neg k3] at h
  by_cases k4 : p.kind = 4
  · rw [if_pos k4] at h
    rw [if_neg (by omega)]
    by_cases z : okC p
    · exact ⟨z.2.1, z.2.2.2.1⟩
    · unfold chkC at h; rw [if_neg z] at h; omega
  rw [if_neg k4] at h
  by_cases z : okB p
  · rw [if_pos (by have := z.1; omega)]
    exact ⟨z.2.2.1, z.2.2.2.2.2.1⟩
  · unfold chkB at h; rw [if_neg z] at h; omega
theorem mostP_cap {p : Pol} (h : chkP p = 0) : mostP p = capP p := by
  unfold mostP
  rw [if_pos h]
  exact ((kern_P h).new_all 0).1
theorem mostP_no {p : Pol} (h : ¬ chkP p = 0) : mostP p = 0 := by unfold mostP; rw [if_neg h]
theorem newP_no {p : Pol} (h : ¬ chkP p = 0) (t : Int) : newP p t = St.none := by
  unfold chkP at h
  unfold newP
  by_cases k2 : p.kind = 2
  · rw [if_pos k2] at h ⊢
    unfold newG; rw [if_neg (fun z => h (by unfold chkG; rw [if_pos z]))]
  rw [if_neg k2] at h ⊢
  by_cases k3 : p.kind = 3
  · rw [if_pos k3] at h ⊢
    unfold newL; rw [if_neg (fun z => h (by unfold chkL; rw [if_pos z]))]
  rw [if_neg k3] at h ⊢
  by_cases k4 : p.kind = 4
  · rw [if_pos k4] at h ⊢
    unfold newC; rw [if_neg (fun z => h (by unfold chkC; rw [if_pos z]))]
  rw [if_neg k4] at h ⊢
  unfold newB; rw [if_neg (fun z => h (by unfold chkB; rw [if_pos z]))]
/-- The policies of whatever numbers may be. -/
theorem ofP_ok (k l d b : Int) (hl : 0 ≤ l ∧ l ≤ 65535) (hd : 0 ≤ d ∧ d ≤ 65535) (hb : 0 ≤ b ∧ b ≤ 65535) : chkP (ofP k l d b) = 0 ∧ (1 ≤ (ofP k l d b).period ∧ (ofP k l d b).period ≤ 65536) ∧ capP (ofP k l d b) ≤ 65536 := by
  unfold ofP
  by_cases k0 : k % 4 = 0
  · rw [if_pos k0]
    refine ⟨?_, by dsimp only; omega, by unfold capP; dsimp only; split <;> omega⟩
    have ho : okB ⟨1, 1 + l, 1 + d, 1 + b, 0, false⟩ := by unfold okB; dsimp only; omega
    unfold chkP
    dsimp only
    rw [if_neg (by decide), if_neg (by decide), if_neg (by decide)]
    unfold chkB
    rw [if_pos ho]
  rw [if_neg k0]
  by_cases k1 : k % 4 = 1
  · rw [if_pos k1]
    refine ⟨?_, by dsimp only; omega, by unfold capP; dsimp only; split <;> omega⟩
    have ho : okG ⟨2, 1 + l, 1 + d, 1 + b, 0, false⟩ := by unfold okG; dsimp only; omega
    unfold chkP
    dsimp only
    rw [if_pos (by decide)]
    unfold chkG
    rw [if_pos ho]
  rw [if_neg k1]
  by_cases k2 : k % 4 = 2
  · rw [if_pos k2]
    refine ⟨?_, by dsimp only; omega, by unfold capP; dsimp only; split <;> omega⟩
    have ho : okL ⟨3, 1 + l, 1 + d, 0, 1 + b % 256 % 100, false⟩ := by unfold okL; dsimp only; omega
    unfold chkP
    dsimp only
    rw [if_neg (by decide), if_pos (by decide)]
    unfold chkL
    rw [if_pos ho]
  · rw [if_neg k2]
    refine ⟨?_, by dsimp only; omega, by unfold capP; dsimp only; split <;> omega⟩
    have ho : okC ⟨4, 1 + l, 1 + d, 0, 0, false⟩ := by unfold okC; dsimp only; omega
    unfold chkP
    dsimp only
    rw [if_neg (by decide), if_neg (by decide), if_pos (by decide)]
    unfold chkC
    rw [if_pos ho]
end Go.Proofs.Ythinbjknkjpdjaa

namespace Go.Proofs.Ythinbjknkjpdjaa
open Go.RowKit Go.ChangeShapes Go.WideShapes Go.Deep
set_option linter.unusedVariables false
set_option linter.unusedSimpArgs false

theorem entry_fields : ∃ f0 f1 : Field, Try.prog.underlying 69 = some (.struct #[f0, f1]) ∧ (f0.offset = 0 ∧ f0.type = 3) ∧ (f1.offset = 1 ∧ f1.type = 3) :=
  ⟨_, _, Try.underlying69, ⟨rfl, rfl⟩, ⟨rfl, rfl⟩⟩
theorem act_fields : ∃ f0 f1 f2 : Field, Try.prog.underlying 40 = some (.struct #[f0, f1, f2]) ∧ (f0.offset = 0 ∧ f0.type = 3) ∧ (f1.offset = 1 ∧ f1.type = 3) ∧ (f2.offset = 2 ∧ f2.type = 3) :=
  ⟨_, _, _, Try.underlying40, ⟨rfl, rfl⟩, ⟨rfl, rfl⟩, ⟨rfl, rfl⟩⟩
theorem state_fields : ∃ f0 f1 f2 f3 : Field, Try.prog.underlying 32 = some (.struct #[f0, f1, f2, f3]) ∧ (f0.offset = 0 ∧ f0.type = 3) ∧ (f1.offset = 1 ∧ f1.type = 3) ∧ (f2.offset = 2 ∧ f2.type = 3) ∧ (f3.offset = 3 ∧ f3.type = 30) :=
  ⟨_, _, _, _, Try.underlying32, ⟨rfl, rfl⟩, ⟨rfl, rfl⟩, ⟨rfl, rfl⟩, ⟨rfl, rfl⟩⟩
theorem pol_fields : ∃ f0 f1 f2 f3 f4 f5 : Field, Try.prog.underlying 28 = some (.struct #[f0, f1, f2, f3, f4, f5]) ∧ (f0.offset = 0 ∧ f0.type = 3) ∧ (f1.offset = 1 ∧ f1.type = 3) ∧ (f2.offset = 2 ∧ f2.type = 3) ∧ (f3.offset = 3 ∧ f3.type = 3) ∧ (f4.offset = 4 ∧ f4.type = 3) ∧ (f5.offset = 5 ∧ f5.type = 4) :=
  ⟨_, _, _, _, _, _, Try.underlying28, ⟨rfl, rfl⟩, ⟨rfl, rfl⟩, ⟨rfl, rfl⟩, ⟨rfl, rfl⟩, ⟨rfl, rfl⟩, ⟨rfl, rfl⟩⟩
theorem lcells_int : Try.prog.cellsOf 3 = 1 := by kernel_rfl
theorem lcells_bool : Try.prog.cellsOf 4 = 1 := by kernel_rfl
theorem lcells_entries : Try.prog.cellsOf 30 = 1 := by kernel_rfl
theorem lcells_entry : Try.prog.cellsOf 69 = 2 := by kernel_rfl
theorem lcells_act : Try.prog.cellsOf 40 = 3 := by kernel_rfl
theorem lcells_state : Try.prog.cellsOf 32 = 4 := by kernel_rfl
theorem lcells_pol : Try.prog.cellsOf 28 = 6 := by kernel_rfl

theorem le_max {c : Nat} (h : c ≤ maxLen) : c ≤ 9223372036854775807 := by
  have e : maxLen = 9223372036854775807 := by kernel_rfl
  rw [e] at h; exact h

section
variable {H : Type} {enc : TypeId × Value → H} {w : World} {base : Nat} {spare : Nat → Bool} {held : Bool}

theorem bool_cell {n : Nat} {c : List Value} {y : DataW H × List MemPlace} (h : DataW.trod enc Try.prog w base spare held n 4 c = some y) (hc : c.length = 1) : ∃ b, c = [.bool b] := by
  match c, hc with
  | [v], _ =>
    cases n with
    | zero => simp [DataW.trod] at h
    | succ n =>
      unfold DataW.trod at h
      rw [Try.underlying4] at h
      cases v <;> simp at h
      exact ⟨_, rfl⟩
theorem entry_cells {n : Nat} {cs : List Value} {y : DataW H × List MemPlace} (h : DataW.trod enc Try.prog w base spare held n 69 cs = some y) :
    ∃ e : Int × Int, cs = [.int .i64 e.1, .int .i64 e.2] := by
  obtain ⟨f0, f1, hu, ⟨o0, t0⟩, ⟨o1, t1⟩⟩ := entry_fields
  obtain ⟨xs, m, _, _, hl, hx, hg⟩ := DataW.trod_struct hu h
  rw [lcells_entry] at hl
  match cs, hl with
  | [c0, c1], _ =>
    match xs, hx with
    | [y0, y1], _ =>
      have g0 := hg 0 f0 rfl
      have g1 := hg 1 f1 rfl
      rw [o0, t0, lcells_int] at g0
      rw [o1, t1, lcells_int] at g1
      obtain ⟨n0, e0, _, _⟩ := DataW.trod_int Try.underlying3 (g0.trans rfl)
      obtain ⟨n1, e1, _, _⟩ := DataW.trod_int Try.underlying3 (g1.trans rfl)
      simp at e0 e1
      subst e0 e1
      exact ⟨(n0, n1), rfl⟩
theorem act_cells {n : Nat} {cs : List Value} {y : DataW H × List MemPlace} (h : DataW.trod enc Try.prog w base spare held n 40 cs = some y) :
    ∃ x : Ac, cs = [.int .i64 x.kind, .int .i64 x.now, .int .i64 x.cost] := by
  obtain ⟨f0, f1, f2, hu, ⟨o0, t0⟩, ⟨o1, t1⟩, ⟨o2, t2⟩⟩ := act_fields
  obtain ⟨xs, m, _, _, hl, hx, hg⟩ := DataW.trod_struct hu h
  rw [lcells_act] at hl
  match cs, hl with
  | [c0, c1, c2], _ =>
    match xs, hx with
    | [y0, y1, y2], _ =>
      have g0 := hg 0 f0 rfl
      have g1 := hg 1 f1 rfl
      have g2 := hg 2 f2 rfl
      rw [o0, t0, lcells_int] at g0
      rw [o1, t1, lcells_int] at g1
      rw [o2, t2, lcells_int] at g2
      obtain ⟨n0, e0, _, _⟩ := DataW.trod_int Try.underlying3 (g0.trans rfl)
      obtain ⟨n1, e1, _, _⟩ := DataW.trod_int Try.underlying3 (g1.trans rfl)
      obtain ⟨n2, e2, _, _⟩ := DataW.trod_int Try.underlying3 (g2.trans rfl)
      simp at e0 e1 e2
      subst e0 e1 e2
      exact ⟨⟨n0, n1, n2⟩, rfl⟩
set_option maxRecDepth 100000 in
/-- The entries of a slice. -/
theorem open_log {fuel : Nat} {cs : List Value} {x : DataW H × List MemPlace} (h : DataW.trod enc Try.prog w base spare held fuel 30 cs = some x) : ∃ a n c L, cs = [.slice a n c] ∧ LogAt w a n c L := by
  rcases open_slice Try.underlying30 h with ⟨rfl, _⟩ | ⟨ad, len, cap, m, n, D, Pl, rfl, _, hl, hm, hmm, _, hi⟩
  · exact ⟨none, 0, 0, [], rfl, log_nil _ _ _ (by omega)⟩
  · have hle : len ≤ m := by rw [hmm]; split <;> omega
    have key : ∀ i, ∃ e : Int × Int, i < len → ∃ b off, ad = ⟨b, off, none⟩ ∧ w.cell? ⟨b, off + i * 2, none⟩ = some (.int .i64 e.1) ∧ w.cell? ⟨b, off + i * 2 + 1, none⟩ = some (.int .i64 e.2) := fun i => by
      by_cases hlt : i < len
      · obtain ⟨cs', hc, ht⟩ := hi i (by omega)
        rw [lcells_entry] at hc
        obtain ⟨e, rfl⟩ := entry_cells ht
        obtain ⟨_, _, hat⟩ := World.cells?_some hc
        obtain ⟨cs0, hc0, _⟩ := hi 0 (by omega)
        rw [lcells_entry] at hc0
        obtain ⟨_, hl0, hat0⟩ := World.cells?_some hc0
        obtain ⟨b, off, spot⟩ := ad
        have hsp : spot = none := by
          have h1 := hat0 0 (by omega)
          rw [List.getElem?_eq_getElem (by omega)] at h1
          simpa [Addr.add] using World.cell?_spot h1
        subst hsp
        have plain : ∀ j, ((⟨b, off, none⟩ : Addr).add (i * 2)).add j = ⟨b, off + i * 2 + j, none⟩ := fun j => by
          unfold Addr.add
          split <;> split <;> simp_all <;> omega
        refine ⟨e, fun _ => ⟨b, off, rfl, ?_, ?_⟩⟩
        · have := hat 0 (by omega); rw [plain] at this; simpa using this
        · have := hat 1 (by omega); rw [plain] at this; simpa using this
      · exact ⟨(0, 0), fun h => absurd h hlt⟩
    refine ⟨some ad, len, cap, (List.range len).map (fun i => Classical.choose (key i)), rfl, by simp, hl, le_max hm, fun i hlt => ?_⟩
    obtain ⟨b, off, h2, h3⟩ := Classical.choose_spec (key i) hlt
    have e1 : ((List.range len).map (fun i => Classical.choose (key i))).getD i (0, 0) = Classical.choose (key i) := by
      rw [List.getD_eq_getElem?_getD, List.getElem?_map, List.getElem?_range hlt]; rfl
    rw [e1]
    exact ⟨b, off, by rw [h2], h3⟩
set_option maxRecDepth 100000 in
/-- The acts of a slice. -/
theorem open_acts {fuel : Nat} {a : Option Addr} {len cap : Nat} {x : DataW H × List MemPlace} (h : DataW.trod enc Try.prog w base spare held fuel 23 [.slice a len cap] = some x) : ∃ L, ActsIn w a len cap L := by
  rcases open_slice Try.underlying23 h with ⟨e, _⟩ | ⟨ad, len', cap', m, n, D, Pl, e, _, hl, hm, hmm, _, hi⟩
  · injection e with e _
    injection e with _ e2 e3
    subst e2 e3
    exact ⟨[], rfl, Nat.le_refl _, by omega, fun i hi => by omega⟩
  · injection e with e _
    injection e with e1 e2 e3
    subst e1 e2 e3
    have hle : len ≤ m := by rw [hmm]; split <;> omega
    have key : ∀ i, ∃ e : Ac, i < len → ∃ b off, ad = ⟨b, off, none⟩ ∧ w.cell? ⟨b, off + i * 3, none⟩ = some (.int .i64 e.kind) ∧ w.cell? ⟨b, off + i * 3 + 1, none⟩ = some (.int .i64 e.now) ∧ w.cell? ⟨b, off + i * 3 + 2, none⟩ = some (.int .i64 e.cost) := fun i => by
      by_cases hlt : i < len
      · obtain ⟨cs', hc, ht⟩ := hi i (by omega)
        rw [lcells_act] at hc
        obtain ⟨e, rfl⟩ := act_cells ht
        obtain ⟨_, _, hat⟩ := World.cells?_some hc
        obtain ⟨cs0, hc0, _⟩ := hi 0 (by omega)
        rw [lcells_act] at hc0
        obtain ⟨_, hl0, hat0⟩ := World.cells?_some hc0
        obtain ⟨b, off, spot⟩ := ad
        have hsp : spot = none := by
          have h1 := hat0 0 (by omega)
          rw [List.getElem?_eq_getElem (by omega)] at h1
          simpa [Addr.add] using World.cell?_spot h1
        subst hsp
        have plain : ∀ j, ((⟨b, off, none⟩ : Addr).add (i * 3)).add j = ⟨b, off + i * 3 + j, none⟩ := fun j => by
          unfold Addr.add
          split <;> split <;> simp_all <;> omega
        refine ⟨e, fun _ => ⟨b, off, rfl, ?_, ?_, ?_⟩⟩
        · have := hat 0 (by omega); rw [plain] at this; simpa using this
        · have := hat 1 (by omega); rw [plain] at this; simpa using this
        · have := hat 2 (by omega); rw [plain] at this; simpa using this
      · exact ⟨⟨0, 0, 0⟩, fun h => absurd h hlt⟩
    refine ⟨(List.range len).map (fun i => Classical.choose (key i)), by simp, hl, le_max hm, fun i hlt => ?_⟩
    obtain ⟨b, off, h2, h3⟩ := Classical.choose_spec (key i) hlt
    have e1 : ((List.range len).map (fun i => Classical.choose (key i))).getD i ⟨0, 0, 0⟩ = Classical.choose (key i) := by
      rw [List.getD_eq_getElem?_getD, List.getElem?_map, List.getElem?_range hlt]; rfl
    rw [e1]
    exact ⟨b, off, by rw [h2], h3⟩
theorem open_act {v : Value} {r : Reach} {b0 : Nat} {d : DataW H} {p : List MemPlace} (hv : Value.okWide Try.prog w r b0 40 v) (h : ∃ fuel, DataW.trod enc Try.prog w base spare held fuel 40 v.cells.toList = some (d, p)) : ∃ x : Ac, v = x.v := by
  obtain ⟨f0, f1, f2, hu, -⟩ := act_fields
  obtain ⟨cs, rfl, -⟩ := okWide_struct hu hv
  obtain ⟨fuel, h⟩ := h
  obtain ⟨x, hx⟩ := act_cells h
  refine ⟨x, congrArg Value.agg ?_⟩
  apply Array.toList_inj.1
  simpa [Value.cells] using hx
theorem open_pol {v : Value} {r : Reach} {b0 : Nat} {d : DataW H} {p : List MemPlace} (hv : Value.okWide Try.prog w r b0 28 v) (h : ∃ fuel, DataW.trod enc Try.prog w base spare held fuel 28 v.cells.toList = some (d, p)) : ∃ x : Pol, v = x.v := by
  obtain ⟨f0, f1, f2, f3, f4, f5, hu, ⟨o0, t0⟩, ⟨o1, t1⟩, ⟨o2, t2⟩, ⟨o3, t3⟩, ⟨o4, t4⟩, ⟨o5, t5⟩⟩ := pol_fields
  obtain ⟨cs, rfl, -⟩ := okWide_struct hu hv
  obtain ⟨fuel, h⟩ := h
  obtain ⟨xs, m, _, _, hl, hx, hg⟩ := DataW.trod_struct hu h
  rw [lcells_pol] at hl
  obtain ⟨cl⟩ := cs
  simp only [Value.cells] at hl hg
  match cl, hl with
  | [c0, c1, c2, c3, c4, c5], _ =>
    match xs, hx with
    | [y0, y1, y2, y3, y4, y5], _ =>
      have g0 := hg 0 f0 rfl
      have g1 := hg 1 f1 rfl
      have g2 := hg 2 f2 rfl
      have g3 := hg 3 f3 rfl
      have g4 := hg 4 f4 rfl
      have g5 := hg 5 f5 rfl
      rw [o0, t0, lcells_int] at g0
      rw [o1, t1, lcells_int] at g1
      rw [o2, t2, lcells_int] at g2
      rw [o3, t3, lcells_int] at g3
      rw [o4, t4, lcells_int] at g4
      rw [o5, t5, lcells_bool] at g5
      obtain ⟨n0, e0, _, _⟩ := DataW.trod_int Try.underlying3 (g0.trans rfl)
      obtain ⟨n1, e1, _, _⟩ := DataW.trod_int Try.underlying3 (g1.trans rfl)
      obtain ⟨n2, e2, _, _⟩ := DataW.trod_int Try.underlying3 (g2.trans rfl)
      obtain ⟨n3, e3, _, _⟩ := DataW.trod_int Try.underlying3 (g3.trans rfl)
      obtain ⟨n4, e4, _, _⟩ := DataW.trod_int Try.underlying3 (g4.trans rfl)
      obtain ⟨n5, e5⟩ := bool_cell (g5.trans rfl) (by simp)
      simp at e0 e1 e2 e3 e4 e5
      subst e0 e1 e2 e3 e4 e5
      exact ⟨⟨n0, n1, n2, n3, n4, n5⟩, rfl⟩
theorem open_st {v : Value} {r : Reach} {b0 : Nat} {d : DataW H} {p : List MemPlace} (hv : Value.okWide Try.prog w r b0 32 v) (h : ∃ fuel, DataW.trod enc Try.prog w base spare held fuel 32 v.cells.toList = some (d, p)) : ∃ (s : St) (a : Option Addr) (n c : Nat), v = s.v a n c ∧ LogAt w a n c s.log := by
  obtain ⟨f0, f1, f2, f3, hu, ⟨o0, t0⟩, ⟨o1, t1⟩, ⟨o2, t2⟩, ⟨o3, t3⟩⟩ := state_fields
  obtain ⟨cs, rfl, -⟩ := okWide_struct hu hv
  obtain ⟨fuel, h⟩ := h
  obtain ⟨xs, m, _, _, hl, hx, hg⟩ := DataW.trod_struct hu h
  rw [lcells_state] at hl
  obtain ⟨cl⟩ := cs
  simp only [Value.cells] at hl hg
  match cl, hl with
  | [c0, c1, c2, c3], _ =>
    match xs, hx with
    | [y0, y1, y2, y3], _ =>
      have g0 := hg 0 f0 rfl
      have g1 := hg 1 f1 rfl
      have g2 := hg 2 f2 rfl
      have g3 := hg 3 f3 rfl
      rw [o0, t0, lcells_int] at g0
      rw [o1, t1, lcells_int] at g1
      rw [o2, t2, lcells_int] at g2
      rw [o3, t3, lcells_entries] at g3
      obtain ⟨n0, e0, _, _⟩ := DataW.trod_int Try.underlying3 (g0.trans rfl)
      obtain ⟨n1, e1, _, _⟩ := DataW.trod_int Try.underlying3 (g1.trans rfl)
      obtain ⟨n2, e2, _, _⟩ := DataW.trod_int Try.underlying3 (g2.trans rfl)
      obtain ⟨a, n, c, L, e3, hL⟩ := open_log (g3.trans rfl)
      simp at e0 e1 e2 e3
      subst e0 e1 e2 e3
      exact ⟨⟨n0, n1, n2, L⟩, a, n, c, rfl, hL⟩
end
end Go.Proofs.Ythinbjknkjpdjaa

namespace Go.Proofs.Ythinbjknkjpdjaa
open Go.RowKit
set_option linter.unusedVariables false
set_option linter.unusedSimpArgs false

/-- Answers in memory. -/
def BoolsAt (w : World) (a : Option Addr) (n : Nat) (bs : List Bool) : Prop :=
  bs.length = n ∧ ∀ i, i < n → ∃ b, a = some ⟨b, 0, none⟩ ∧ w.cell? ⟨b, i, none⟩ = some (.bool (bs.getD i false))
theorem bools_bl {w w' : World} {a : Option Addr} {n : Nat} {bs : List Bool} (h : BoolsAt w a n bs) (hb : Below w.heap.size w w') : BoolsAt w' a n bs :=
  ⟨h.1, fun i hi => by
    obtain ⟨b, e, h1⟩ := h.2 i hi
    exact ⟨b, e, bl_cell hb h1⟩⟩
theorem own_bools {w : World} {base m : Nat} {v : Value} {bs : List Bool} (h : OwnB w base v m bs) : ∃ a c, v = .slice a m c ∧ BoolsAt w a m bs := by
  have hm : bs.length = m := by have := h.1; simpa using this
  rcases h.2 with ⟨e, hx⟩ | ⟨g, cap, cur, rfl, h2, h3, h4⟩
  · have h0 : m = 0 := by simpa using hx
    subst h0
    have hz : bs = [] := List.length_eq_zero_iff.1 hm
    subst hz
    exact ⟨none, 0, e, rfl, fun i hi => absurd hi (Nat.not_lt_zero _)⟩
  · refine ⟨_, cap, rfl, hm, fun i hi => ⟨g, rfl, ?_⟩⟩
    have hj : i < m * 1 := by omega
    have h5 := World.ownsRow.cellAt h i hj
    rw [h5]
    simp [List.getD_eq_getElem?_getD, List.getElem?_eq_getElem (show i < bs.length by omega)]
/-- Acts keep a state that may be. -/
theorem right_run {p : Pol} (h : chkP p = 0) : ∀ (l : List Ac) (s : St), rightP p s = true → rightP p (runP p s l).1 = true
  | [], s, hs => hs
  | x :: l, s, hs => right_run h l _ ((kern_P h).right_do s x hs)
theorem run_step {p : Pol} (s : St) (l : List Ac) {m : Nat} (hm : l.length = m) : ∀ k, k < m → (runP p s (l.take (k + 1))).1 = (doP p (runP p s (l.take k)).1 (l.getD k ⟨0, 0, 0⟩)).1 := fun k hk => by
  rw [runP_take p s l k (by omega)]
theorem run_all {p : Pol} (s : St) (l : List Ac) {m : Nat} (hm : l.length = m) : (runP p s (l.take m)).1 = (runP p s l).1 := by rw [← hm, List.take_length]
/-- A log does not lie in a block. -/
def Off (a : Option Addr) (n r : Nat) : Prop := ∀ ad, a = some ad → n ≠ 0 → ad.block ≠ r
theorem off_src {w1 : World} {a0 a : Option Addr} {n0 n r : Nat} (h : Off a0 n0 r) (hs : Src a0 n0 w1 a n) (hr : r < w1.heap.size) : Off a n r := fun ad e hn => by
  rcases hs with hs | ⟨rfl, rfl⟩ | hs
  · exact absurd hs hn
  · exact h ad e hn
  · have := hs ad e; omega
/-- What is known at the head of a round that does an act: the policy's box, the state's. -/
def DoRel (bp bs : Nat) (w : World) (pv : Int × Int × Int × Int × Int × Bool) (s : St) (a : Option Addr) (n c : Nat) (wr : World) : Prop :=
  wr.cell? ⟨bp, 0, none⟩ = some (.int .i64 pv.1) ∧ wr.cell? ⟨bp, 1, none⟩ = some (.int .i64 pv.2.1) ∧ wr.cell? ⟨bp, 2, none⟩ = some (.int .i64 pv.2.2.1) ∧ wr.cell? ⟨bp, 3, none⟩ = some (.int .i64 pv.2.2.2.1) ∧ wr.cell? ⟨bp, 4, none⟩ = some (.int .i64 pv.2.2.2.2.1) ∧ wr.cell? ⟨bp, 5, none⟩ = some (.bool pv.2.2.2.2.2) ∧
  wr.cell? ⟨bs, 0, none⟩ = some (.int .i64 s.at_) ∧ wr.cell? ⟨bs, 1, none⟩ = some (.int .i64 s.level) ∧ wr.cell? ⟨bs, 2, none⟩ = some (.int .i64 s.held) ∧ wr.cell? ⟨bs, 3, none⟩ = some (.slice a n c) ∧
  ResB wr bs ∧ LogAt wr a n c s.log ∧ Below w.heap.size w wr ∧ Off a n bs
end Go.Proofs.Ythinbjknkjpdjaa
