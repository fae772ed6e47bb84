/-
  What bucket.Right answers.
  What bucket.Right answers: at every policy and every state.
  What bucket.Advance answers.
  What bucket.Do answers where the act is one of the four, and its cost may be.
  What bucket.Do answers where nothing is done.
  What gcra.Do answers where the cost may be.
  What counter.changes answers.
  No condition.
-/
import Derived.Test.YthinbjknkjpdjaaM1
import Derived.LoopN
namespace Go.Proofs.Ythinbjknkjpdjaa
open Go.RowKit
set_option linter.unusedVariables false
set_option linter.unusedSimpArgs false

set_option maxHeartbeats 2000000 in
set_option maxRecDepth 100000 in
theorem bright_walk (k l d b cc : Int) (o : Bool) (at_ level held : Int) (a : Option Addr) (n c : Nat) (w : World) (r : Bool)
    (hr : r = true ↔ (okB ⟨k, l, d, b, cc, o⟩ ∧ 0 ≤ at_ ∧ at_ ≤ 9007199254740992 ∧ 0 ≤ held ∧ held ≤ b ∧ 0 ≤ level ∧ level ≤ (b - held) * d ∧ n = 0)) :
    Calls Try.prog 39 #[.agg #[.int .i64 k, .int .i64 l, .int .i64 d, .int .i64 b, .int .i64 cc, .bool o], .agg #[.int .i64 at_, .int .i64 level, .int .i64 held, .slice a n c]] w fun e w' => e = .returned (.bool r) ∧ Below w.heap.size w w' := by
  have HR := Go.Lib.hid hr
  clear hr
  have hck := bcheck_any ⟨k, l, d, b, cc, o⟩
  unfold Pol.v at hck
  dsimp only at hck
  have hC : (chkB ⟨k, l, d, b, cc, o⟩ = 0 ∧ okB ⟨k, l, d, b, cc, o⟩) ∨ (chkB ⟨k, l, d, b, cc, o⟩ = 2 ∧ ¬ okB ⟨k, l, d, b, cc, o⟩) := by
    by_cases h : okB ⟨k, l, d, b, cc, o⟩
    · exact .inl ⟨(chk_ok h).symm, h⟩
    · exact .inr ⟨(chk_no h).symm, h⟩
  generalize chkB ⟨k, l, d, b, cc, o⟩ = C at *
  have HC := Go.Lib.hid hC
  have HCK := Go.Lib.hid hck
  have HW := Go.Lib.hid (show okB ⟨k, l, d, b, cc, o⟩ → 0 ≤ held → held ≤ b → IntKind.i64.wrap (b - held) = b - held ∧ IntKind.i64.wrap ((b - held) * d) = (b - held) * d from fun hok h0 h1 => by
    obtain ⟨q0, q1, q2, q3, q4, q5, q6, q7⟩ := hok
    dsimp only at *
    have h2 : (b - held) * d ≤ 1152921504606846976 := prod_le (by omega) (by omega) (by omega)
    have h3 : 0 ≤ (b - held) * d := Int.mul_nonneg (by omega) (by omega)
    exact ⟨IntWalk.i64_in _ (by omega), IntWalk.i64_in _ (by omega)⟩)
  have hcl := clamp_any at_
  have hT : (clampT at_ == at_) = true ↔ 0 ≤ at_ ∧ at_ ≤ 9007199254740992 := by
    have := clampT_range at_
    rw [beq_iff_eq]
    constructor
    · intro h; omega
    · intro h; exact clampT_id h.1 h.2
  generalize clampT at_ = T at *
  obtain ⟨g1, hg1⟩ : ∃ g, (T == at_) = g := ⟨_, rfl⟩
  have hg1' : decide (T = at_) = g1 := hg1
  obtain ⟨g2, hg2⟩ : ∃ g, decide (0 ≤ held) = g := ⟨_, rfl⟩
  obtain ⟨g3, hg3⟩ : ∃ g, decide (held ≤ b) = g := ⟨_, rfl⟩
  obtain ⟨g4, hg4⟩ : ∃ g, decide (0 ≤ level) = g := ⟨_, rfl⟩
  obtain ⟨g5, hg5⟩ : ∃ g, decide (level ≤ (b - held) * d) = g := ⟨_, rfl⟩
  obtain ⟨g6, hg6⟩ : ∃ g, ((n : Int) == 0) = g := ⟨_, rfl⟩
  rw [hg1] at hT
  have HT := Go.Lib.hid hT
  have HCL := Go.Lib.hid hcl
  clear hck hC hcl hT
  go_enter Try.func39, Try.ntmps39
  go_wp2_with fail
  refine wp_abs (S0 := fun w' => w'.cell? ⟨w.heap.size, 0, none⟩ = some (.int .i64 k) ∧ w'.cell? ⟨w.heap.size, 1, none⟩ = some (.int .i64 l) ∧ w'.cell? ⟨w.heap.size, 2, none⟩ = some (.int .i64 d) ∧ w'.cell? ⟨w.heap.size, 3, none⟩ = some (.int .i64 b) ∧ w'.cell? ⟨w.heap.size, 4, none⟩ = some (.int .i64 cc) ∧ w'.cell? ⟨w.heap.size, 5, none⟩ = some (.bool o) ∧ w'.cell? ⟨w.heap.size + 1, 0, none⟩ = some (.int .i64 at_) ∧ w'.cell? ⟨w.heap.size + 1, 1, none⟩ = some (.int .i64 level) ∧ w'.cell? ⟨w.heap.size + 1, 2, none⟩ = some (.int .i64 held) ∧ w'.cell? ⟨w.heap.size + 1, 3, none⟩ = some (.slice a n c) ∧ Below w.heap.size w w') ⟨by go_simp, by go_simp, by go_simp, by go_simp, by go_simp, by go_simp, by go_simp, by go_simp, by go_simp, by go_simp, bl_alloc (bl_alloc (bl_refl _) _) _⟩ ?_
  rintro W ⟨c0, c1, c2, c3, c4, c5, c6, c7, c8, c9, hB⟩
  refine wp_region_held_drew (S := fun w' => w'.cell? ⟨w.heap.size, 0, none⟩ = some (.int .i64 k) ∧ w'.cell? ⟨w.heap.size, 1, none⟩ = some (.int .i64 l) ∧ w'.cell? ⟨w.heap.size, 2, none⟩ = some (.int .i64 d) ∧ w'.cell? ⟨w.heap.size, 3, none⟩ = some (.int .i64 b) ∧ w'.cell? ⟨w.heap.size, 4, none⟩ = some (.int .i64 cc) ∧ w'.cell? ⟨w.heap.size, 5, none⟩ = some (.bool o) ∧ w'.cell? ⟨w.heap.size + 1, 0, none⟩ = some (.int .i64 at_) ∧ w'.cell? ⟨w.heap.size + 1, 1, none⟩ = some (.int .i64 level) ∧ w'.cell? ⟨w.heap.size + 1, 2, none⟩ = some (.int .i64 held) ∧ w'.cell? ⟨w.heap.size + 1, 3, none⟩ = some (.slice a n c) ∧ Below w.heap.size w w') (by kernel_rfl) ?_ (fun hHeld => ?_)
  · exact ⟨c0, c1, c2, c3, c4, c5, c6, c7, c8, c9, bl_drew hB⟩
  try simp only [Act.put, List.setIfInBounds_toArray, List.set_cons_zero, List.set_cons_succ]
  all_goals ((refine tkv (i := 0) (v := ?_) rfl rfl ?_ (by assumption) ?_; rotate_left; (focus (intro w hSw; (try dsimp only at hSw); go_simp <;> with_reducible rfl)); try simp only [Act.put, List.setIfInBounds_toArray, List.set_cons_zero, List.set_cons_succ]))
  all_goals ((refine callH (i := 1) rfl (by assumption) (fun W hW K hK => ?_); clear hHeld; (try dsimp only at hW); go_simp; refine (HCK.out _).mono ?_; rintro e w1 ⟨rfl, hb⟩; go_wp2_with fail; refine hK.out _ _ ?_ (fun hHeld => ?_); (focus ((try dsimp only); (obtain ⟨h0, h1, h2, h3, h4, h5, h6, h7, h8, h9, hB'⟩ := hW; exact ⟨bl_cell hb h0, bl_cell hb h1, bl_cell hb h2, bl_cell hb h3, bl_cell hb h4, bl_cell hb h5, bl_cell hb h6, bl_cell hb h7, bl_cell hb h8, bl_cell hb h9, bl_then hB' hb⟩))); clear hK K; try simp only [Act.put, List.setIfInBounds_toArray, List.set_cons_zero, List.set_cons_succ]))
  rcases HC.out with ⟨rfl, hok⟩ | ⟨rfl, hok⟩
  all_goals ((refine tkv (i := 2) (v := ?_) rfl rfl ?_ (by assumption) ?_; rotate_left; (focus (intro w hSw; (try dsimp only at hSw); go_simp <;> with_reducible rfl)); try simp only [Act.put, List.setIfInBounds_toArray, List.set_cons_zero, List.set_cons_succ]))
  all_goals ((refine tkv (i := 3) (v := ?_) rfl rfl ?_ (by assumption) ?_; rotate_left; (focus (intro w hSw; (try dsimp only at hSw); go_simp <;> with_reducible rfl)); try simp only [Act.put, List.setIfInBounds_toArray, List.set_cons_zero, List.set_cons_succ]))
  all_goals (first | (refine tks (i := 4) rfl rfl (by assumption) ?_; try simp only [Act.put, List.setIfInBounds_toArray, List.set_cons_zero, List.set_cons_succ]) | (refine tkv (i := 4) (v := ?_) rfl rfl ?_ (by assumption) ?_; rotate_left; (focus (intro w hSw; (try dsimp only at hSw); go_simp <;> with_reducible rfl)); try simp only [Act.put, List.setIfInBounds_toArray, List.set_cons_zero, List.set_cons_succ]))
  all_goals (first | (refine tks (i := 5) rfl rfl (by assumption) ?_; try simp only [Act.put, List.setIfInBounds_toArray, List.set_cons_zero, List.set_cons_succ]) | (refine tkv (i := 5) (v := ?_) rfl rfl ?_ (by assumption) ?_; rotate_left; (focus (intro w hSw; (try dsimp only at hSw); go_simp <;> with_reducible rfl)); try simp only [Act.put, List.setIfInBounds_toArray, List.set_cons_zero, List.set_cons_succ]))
  all_goals (first | (refine tks (i := 7) rfl rfl (by assumption) ?_; try simp only [Act.put, List.setIfInBounds_toArray, List.set_cons_zero, List.set_cons_succ]) | (refine tkv (i := 7) (v := ?_) rfl rfl ?_ (by assumption) ?_; rotate_left; (focus (intro w hSw; (try dsimp only at hSw); go_simp <;> with_reducible rfl)); try simp only [Act.put, List.setIfInBounds_toArray, List.set_cons_zero, List.set_cons_succ]))
  all_goals (first | (refine tks (i := 8) rfl rfl (by assumption) ?_; try simp only [Act.put, List.setIfInBounds_toArray, List.set_cons_zero, List.set_cons_succ]) | (refine tkv (i := 8) (v := ?_) rfl rfl ?_ (by assumption) ?_; rotate_left; (focus (intro w hSw; (try dsimp only at hSw); go_simp <;> with_reducible rfl)); try simp only [Act.put, List.setIfInBounds_toArray, List.set_cons_zero, List.set_cons_succ]))
  all_goals (first | (refine tks (i := 6) rfl rfl (by assumption) ?_; try simp only [Act.put, List.setIfInBounds_toArray, List.set_cons_zero, List.set_cons_succ]) | (refine callH (i := 6) rfl (by assumption) (fun W hW K hK => ?_); clear hHeld; (try dsimp only at hW); go_simp; refine (HCL.out _).mono ?_; rintro e w1 ⟨rfl, rfl⟩; go_wp2_with fail; refine hK.out _ _ ?_ (fun hHeld => ?_); (focus ((try dsimp only); exact hW)); clear hK K; try simp only [Act.put, List.setIfInBounds_toArray, List.set_cons_zero, List.set_cons_succ]))
  all_goals (first | (refine tks (i := 9) rfl rfl (by assumption) ?_; try simp only [Act.put, List.setIfInBounds_toArray, List.set_cons_zero, List.set_cons_succ]) | (refine tkv (i := 9) (v := ?_) rfl rfl ?_ (by assumption) ?_; rotate_left; (focus (intro w hSw; (try dsimp only at hSw); go_simp <;> with_reducible rfl)); try simp only [Act.put, List.setIfInBounds_toArray, List.set_cons_zero, List.set_cons_succ]))
  all_goals ((refine tkv (i := 10) (v := ?_) rfl rfl ?_ (by assumption) ?_; rotate_left; (focus (intro w hSw; (try dsimp only at hSw); go_simp <;> with_reducible rfl)); try simp only [Act.put, List.setIfInBounds_toArray, List.set_cons_zero, List.set_cons_succ]))
  all_goals (first | ((fail_if_success (clear hg1 hg1' HT g1)); cases g1) | skip)
  all_goals ((refine tkv (i := 11) (v := ?_) rfl rfl ?_ (by assumption) ?_; rotate_left; (focus (intro w hSw; (try dsimp only at hSw); go_simp <;> with_reducible rfl)); try simp only [Act.put, List.setIfInBounds_toArray, List.set_cons_zero, List.set_cons_succ]))
  all_goals (first | (refine tks (i := 12) rfl rfl (by assumption) ?_; try simp only [Act.put, List.setIfInBounds_toArray, List.set_cons_zero, List.set_cons_succ]) | (refine tkv (i := 12) (v := ?_) rfl rfl ?_ (by assumption) ?_; rotate_left; (focus (intro w hSw; (try dsimp only at hSw); go_simp <;> with_reducible rfl)); try simp only [Act.put, List.setIfInBounds_toArray, List.set_cons_zero, List.set_cons_succ]))
  all_goals (first | (refine tks (i := 13) rfl rfl (by assumption) ?_; try simp only [Act.put, List.setIfInBounds_toArray, List.set_cons_zero, List.set_cons_succ]) | (refine tkv (i := 13) (v := ?_) rfl rfl ?_ (by assumption) ?_; rotate_left; (focus (intro w hSw; (try dsimp only at hSw); go_simp <;> with_reducible rfl)); try simp only [Act.put, List.setIfInBounds_toArray, List.set_cons_zero, List.set_cons_succ]))
  all_goals (first | (refine tks (i := 14) rfl rfl (by assumption) ?_; try simp only [Act.put, List.setIfInBounds_toArray, List.set_cons_zero, List.set_cons_succ]) | (refine tkv (i := 14) (v := ?_) rfl rfl ?_ (by assumption) ?_; rotate_left; (focus (intro w hSw; (try dsimp only at hSw); go_simp <;> with_reducible rfl)); try simp only [Act.put, List.setIfInBounds_toArray, List.set_cons_zero, List.set_cons_succ]))
  all_goals ((refine tkv (i := 15) (v := ?_) rfl rfl ?_ (by assumption) ?_; rotate_left; (focus (intro w hSw; (try dsimp only at hSw); go_simp <;> with_reducible rfl)); try simp only [Act.put, List.setIfInBounds_toArray, List.set_cons_zero, List.set_cons_succ]))
  all_goals (first | ((fail_if_success (clear hg2 g2)); cases g2) | skip)
  all_goals ((refine tkv (i := 16) (v := ?_) rfl rfl ?_ (by assumption) ?_; rotate_left; (focus (intro w hSw; (try dsimp only at hSw); go_simp <;> with_reducible rfl)); try simp only [Act.put, List.setIfInBounds_toArray, List.set_cons_zero, List.set_cons_succ]))
  all_goals (first | (refine tks (i := 17) rfl rfl (by assumption) ?_; try simp only [Act.put, List.setIfInBounds_toArray, List.set_cons_zero, List.set_cons_succ]) | (refine tkv (i := 17) (v := ?_) rfl rfl ?_ (by assumption) ?_; rotate_left; (focus (intro w hSw; (try dsimp only at hSw); go_simp <;> with_reducible rfl)); try simp only [Act.put, List.setIfInBounds_toArray, List.set_cons_zero, List.set_cons_succ]))
  all_goals (first | (refine tks (i := 18) rfl rfl (by assumption) ?_; try simp only [Act.put, List.setIfInBounds_toArray, List.set_cons_zero, List.set_cons_succ]) | (refine tkv (i := 18) (v := ?_) rfl rfl ?_ (by assumption) ?_; rotate_left; (focus (intro w hSw; (try dsimp only at hSw); go_simp <;> with_reducible rfl)); try simp only [Act.put, List.setIfInBounds_toArray, List.set_cons_zero, List.set_cons_succ]))
  all_goals (first | (refine tks (i := 19) rfl rfl (by assumption) ?_; try simp only [Act.put, List.setIfInBounds_toArray, List.set_cons_zero, List.set_cons_succ]) | (refine tkv (i := 19) (v := ?_) rfl rfl ?_ (by assumption) ?_; rotate_left; (focus (intro w hSw; (try dsimp only at hSw); go_simp <;> with_reducible rfl)); try simp only [Act.put, List.setIfInBounds_toArray, List.set_cons_zero, List.set_cons_succ]))
  all_goals (first | (refine tks (i := 20) rfl rfl (by assumption) ?_; try simp only [Act.put, List.setIfInBounds_toArray, List.set_cons_zero, List.set_cons_succ]) | (refine tkv (i := 20) (v := ?_) rfl rfl ?_ (by assumption) ?_; rotate_left; (focus (intro w hSw; (try dsimp only at hSw); go_simp <;> with_reducible rfl)); try simp only [Act.put, List.setIfInBounds_toArray, List.set_cons_zero, List.set_cons_succ]))
  all_goals (first | (refine tks (i := 21) rfl rfl (by assumption) ?_; try simp only [Act.put, List.setIfInBounds_toArray, List.set_cons_zero, List.set_cons_succ]) | (refine tkv (i := 21) (v := ?_) rfl rfl ?_ (by assumption) ?_; rotate_left; (focus (intro w hSw; (try dsimp only at hSw); go_simp <;> with_reducible rfl)); try simp only [Act.put, List.setIfInBounds_toArray, List.set_cons_zero, List.set_cons_succ]))
  all_goals ((refine tkv (i := 22) (v := ?_) rfl rfl ?_ (by assumption) ?_; rotate_left; (focus (intro w hSw; (try dsimp only at hSw); go_simp <;> with_reducible rfl)); try simp only [Act.put, List.setIfInBounds_toArray, List.set_cons_zero, List.set_cons_succ]))
  all_goals (first | ((fail_if_success (clear hg3 g3)); cases g3) | skip)
  all_goals ((refine tkv (i := 23) (v := ?_) rfl rfl ?_ (by assumption) ?_; rotate_left; (focus (intro w hSw; (try dsimp only at hSw); go_simp <;> with_reducible rfl)); try simp only [Act.put, List.setIfInBounds_toArray, List.set_cons_zero, List.set_cons_succ]))
  all_goals (first | (refine tks (i := 24) rfl rfl (by assumption) ?_; try simp only [Act.put, List.setIfInBounds_toArray, List.set_cons_zero, List.set_cons_succ]) | (refine tkv (i := 24) (v := ?_) rfl rfl ?_ (by assumption) ?_; rotate_left; (focus (intro w hSw; (try dsimp only at hSw); go_simp <;> with_reducible rfl)); try simp only [Act.put, List.setIfInBounds_toArray, List.set_cons_zero, List.set_cons_succ]))
  all_goals (first | (refine tks (i := 25) rfl rfl (by assumption) ?_; try simp only [Act.put, List.setIfInBounds_toArray, List.set_cons_zero, List.set_cons_succ]) | (refine tkv (i := 25) (v := ?_) rfl rfl ?_ (by assumption) ?_; rotate_left; (focus (intro w hSw; (try dsimp only at hSw); go_simp <;> with_reducible rfl)); try simp only [Act.put, List.setIfInBounds_toArray, List.set_cons_zero, List.set_cons_succ]))
  all_goals (first | (refine tks (i := 26) rfl rfl (by assumption) ?_; try simp only [Act.put, List.setIfInBounds_toArray, List.set_cons_zero, List.set_cons_succ]) | (refine tkv (i := 26) (v := ?_) rfl rfl ?_ (by assumption) ?_; rotate_left; (focus (intro w hSw; (try dsimp only at hSw); go_simp <;> with_reducible rfl)); try simp only [Act.put, List.setIfInBounds_toArray, List.set_cons_zero, List.set_cons_succ]))
  all_goals ((refine tkv (i := 27) (v := ?_) rfl rfl ?_ (by assumption) ?_; rotate_left; (focus (intro w hSw; (try dsimp only at hSw); go_simp <;> with_reducible rfl)); try simp only [Act.put, List.setIfInBounds_toArray, List.set_cons_zero, List.set_cons_succ]))
  all_goals (first | ((fail_if_success (clear hg4 g4)); cases g4) | skip)
  all_goals ((refine tkv (i := 28) (v := ?_) rfl rfl ?_ (by assumption) ?_; rotate_left; (focus (intro w hSw; (try dsimp only at hSw); go_simp <;> with_reducible rfl)); try simp only [Act.put, List.setIfInBounds_toArray, List.set_cons_zero, List.set_cons_succ]))
  all_goals (try (have hw := HW.out hok (by simpa using hg2) (by simpa using hg3); obtain ⟨hw1, hw2⟩ := hw))
  all_goals (first | (refine tks (i := 29) rfl rfl (by assumption) ?_; try simp only [Act.put, List.setIfInBounds_toArray, List.set_cons_zero, List.set_cons_succ]) | (refine tkv (i := 29) (v := ?_) rfl rfl ?_ (by assumption) ?_; rotate_left; (focus (intro w hSw; (try dsimp only at hSw); go_simp <;> with_reducible rfl)); try simp only [Act.put, List.setIfInBounds_toArray, List.set_cons_zero, List.set_cons_succ]))
  all_goals (first | (refine tks (i := 30) rfl rfl (by assumption) ?_; try simp only [Act.put, List.setIfInBounds_toArray, List.set_cons_zero, List.set_cons_succ]) | (refine tkv (i := 30) (v := ?_) rfl rfl ?_ (by assumption) ?_; rotate_left; (focus (intro w hSw; (try dsimp only at hSw); go_simp <;> with_reducible rfl)); try simp only [Act.put, List.setIfInBounds_toArray, List.set_cons_zero, List.set_cons_succ]))
  all_goals (first | (refine tks (i := 31) rfl rfl (by assumption) ?_; try simp only [Act.put, List.setIfInBounds_toArray, List.set_cons_zero, List.set_cons_succ]) | (refine tkv (i := 31) (v := ?_) rfl rfl ?_ (by assumption) ?_; rotate_left; (focus (intro w hSw; (try dsimp only at hSw); go_simp <;> with_reducible rfl)); try simp only [Act.put, List.setIfInBounds_toArray, List.set_cons_zero, List.set_cons_succ]))
  all_goals (first | (refine tks (i := 32) rfl rfl (by assumption) ?_; try simp only [Act.put, List.setIfInBounds_toArray, List.set_cons_zero, List.set_cons_succ]) | (refine tkv (i := 32) (v := ?_) rfl rfl ?_ (by assumption) ?_; rotate_left; (focus (intro w hSw; (try dsimp only at hSw); go_simp <;> with_reducible rfl)); try simp only [Act.put, List.setIfInBounds_toArray, List.set_cons_zero, List.set_cons_succ]))
  all_goals (first | (refine tks (i := 33) rfl rfl (by assumption) ?_; try simp only [Act.put, List.setIfInBounds_toArray, List.set_cons_zero, List.set_cons_succ]) | (refine tkv (i := 33) (v := ?_) rfl rfl ?_ (by assumption) ?_; rotate_left; (focus (intro w hSw; (try dsimp only at hSw); go_simp <;> with_reducible rfl)); try simp only [Act.put, List.setIfInBounds_toArray, List.set_cons_zero, List.set_cons_succ]))
  all_goals (first | (refine tks (i := 34) rfl rfl (by assumption) ?_; try simp only [Act.put, List.setIfInBounds_toArray, List.set_cons_zero, List.set_cons_succ]) | (refine tkv (i := 34) (v := ?_) rfl rfl ?_ (by assumption) ?_; rotate_left; (focus (intro w hSw; (try dsimp only at hSw); go_simp <;> with_reducible rfl)); try simp only [Act.put, List.setIfInBounds_toArray, List.set_cons_zero, List.set_cons_succ]))
  all_goals (first | (refine tks (i := 35) rfl rfl (by assumption) ?_; try simp only [Act.put, List.setIfInBounds_toArray, List.set_cons_zero, List.set_cons_succ]) | (refine tkv (i := 35) (v := ?_) rfl rfl ?_ (by assumption) ?_; rotate_left; (focus (intro w hSw; (try dsimp only at hSw); go_simp <;> with_reducible rfl)); try simp only [Act.put, List.setIfInBounds_toArray, List.set_cons_zero, List.set_cons_succ]))
  all_goals (first | (refine tks (i := 36) rfl rfl (by assumption) ?_; try simp only [Act.put, List.setIfInBounds_toArray, List.set_cons_zero, List.set_cons_succ]) | (refine tkv (i := 36) (v := ?_) rfl rfl ?_ (by assumption) ?_; rotate_left; (focus (intro w hSw; (try dsimp only at hSw); go_simp <;> with_reducible rfl)); try simp only [Act.put, List.setIfInBounds_toArray, List.set_cons_zero, List.set_cons_succ]))
  all_goals (first | (refine tks (i := 37) rfl rfl (by assumption) ?_; try simp only [Act.put, List.setIfInBounds_toArray, List.set_cons_zero, List.set_cons_succ]) | (refine tkv (i := 37) (v := ?_) rfl rfl ?_ (by assumption) ?_; rotate_left; (focus (intro w hSw; (try dsimp only at hSw); go_simp <;> with_reducible rfl)); try simp only [Act.put, List.setIfInBounds_toArray, List.set_cons_zero, List.set_cons_succ]))
  all_goals (first | (refine tks (i := 38) rfl rfl (by assumption) ?_; try simp only [Act.put, List.setIfInBounds_toArray, List.set_cons_zero, List.set_cons_succ]) | (refine tkv (i := 38) (v := ?_) rfl rfl ?_ (by assumption) ?_; rotate_left; (focus (intro w hSw; (try dsimp only at hSw); go_simp <;> with_reducible rfl)); try simp only [Act.put, List.setIfInBounds_toArray, List.set_cons_zero, List.set_cons_succ]))
  all_goals (first | (refine tks (i := 39) rfl rfl (by assumption) ?_; try simp only [Act.put, List.setIfInBounds_toArray, List.set_cons_zero, List.set_cons_succ]) | (refine tkv (i := 39) (v := ?_) rfl rfl ?_ (by assumption) ?_; rotate_left; (focus (intro w hSw; (try dsimp only at hSw); go_simp <;> with_reducible rfl)); try simp only [Act.put, List.setIfInBounds_toArray, List.set_cons_zero, List.set_cons_succ]))
  all_goals ((refine tkv (i := 40) (v := ?_) rfl rfl ?_ (by assumption) ?_; rotate_left; (focus (intro w hSw; (try dsimp only at hSw); go_simp <;> with_reducible rfl)); try simp only [Act.put, List.setIfInBounds_toArray, List.set_cons_zero, List.set_cons_succ]))
  all_goals (first | ((fail_if_success (clear hg5 g5)); cases g5) | skip)
  all_goals ((refine tkv (i := 41) (v := ?_) rfl rfl ?_ (by assumption) ?_; rotate_left; (focus (intro w hSw; (try dsimp only at hSw); go_simp <;> with_reducible rfl)); try simp only [Act.put, List.setIfInBounds_toArray, List.set_cons_zero, List.set_cons_succ]))
  all_goals (first | (refine tks (i := 42) rfl rfl (by assumption) ?_; try simp only [Act.put, List.setIfInBounds_toArray, List.set_cons_zero, List.set_cons_succ]) | (refine tkv (i := 42) (v := ?_) rfl rfl ?_ (by assumption) ?_; rotate_left; (focus (intro w hSw; (try dsimp only at hSw); go_simp <;> with_reducible rfl)); try simp only [Act.put, List.setIfInBounds_toArray, List.set_cons_zero, List.set_cons_succ]))
  all_goals (first | (refine tks (i := 43) rfl rfl (by assumption) ?_; try simp only [Act.put, List.setIfInBounds_toArray, List.set_cons_zero, List.set_cons_succ]) | (refine tkv (i := 43) (v := ?_) rfl rfl ?_ (by assumption) ?_; rotate_left; (focus (intro w hSw; (try dsimp only at hSw); go_simp <;> with_reducible rfl)); try simp only [Act.put, List.setIfInBounds_toArray, List.set_cons_zero, List.set_cons_succ]))
  all_goals (first | (refine tks (i := 44) rfl rfl (by assumption) ?_; try simp only [Act.put, List.setIfInBounds_toArray, List.set_cons_zero, List.set_cons_succ]) | (refine tkv (i := 44) (v := ?_) rfl rfl ?_ (by assumption) ?_; rotate_left; (focus (intro w hSw; (try dsimp only at hSw); go_simp <;> with_reducible rfl)); try simp only [Act.put, List.setIfInBounds_toArray, List.set_cons_zero, List.set_cons_succ]))
  all_goals (first | (refine tks (i := 45) rfl rfl (by assumption) ?_; try simp only [Act.put, List.setIfInBounds_toArray, List.set_cons_zero, List.set_cons_succ]) | (refine tkv (i := 45) (v := ?_) rfl rfl ?_ (by assumption) ?_; rotate_left; (focus (intro w hSw; (try dsimp only at hSw); go_simp <;> with_reducible rfl)); try simp only [Act.put, List.setIfInBounds_toArray, List.set_cons_zero, List.set_cons_succ]))
  all_goals ((refine tkv (i := 46) (v := ?_) rfl rfl ?_ (by assumption) ?_; rotate_left; (focus (intro w hSw; (try dsimp only at hSw); go_simp <;> with_reducible rfl)); try simp only [Act.put, List.setIfInBounds_toArray, List.set_cons_zero, List.set_cons_succ]))
  all_goals ((refine tkv (i := 47) (v := ?_) rfl rfl ?_ (by assumption) ?_; rotate_left; (focus (intro w hSw; (try dsimp only at hSw); go_simp <;> with_reducible rfl)); try simp only [Act.put, List.setIfInBounds_toArray, List.set_cons_zero, List.set_cons_succ]))
  all_goals (refine wpAnyH_done (by kernel_rfl) ?_ _)
  all_goals (obtain ⟨h0, h1, h2, h3, h4, h5, h6, h7, h8, h9, hE⟩ := hHeld; go_wp2; go_ret)
  all_goals
    refine ⟨congrArg (fun x => Ending.returned (.bool x)) ?_, hE⟩
    have h1 := HR.out
    have h2 := HT.out
    generalize (b - held) * d = M at *
    rw [Bool.eq_iff_iff, h1]
    simp only [Bool.false_eq_true, reduceCtorEq, false_iff, iff_true, true_iff, iff_false, decide_eq_true_eq, decide_eq_false_iff_not, beq_iff_eq, beq_eq_false_iff_ne] at *
    first
      | (intro hh; obtain ⟨hh0, hh⟩ := hh; first | exact hok hh0 | omega)
      | (subst hg6; rw [beq_iff_eq]; constructor <;> intro hh <;> (try refine ⟨hok, ?_⟩) <;> omega)
end Go.Proofs.Ythinbjknkjpdjaa

namespace Go.Proofs.Ythinbjknkjpdjaa
open Go.RowKit
set_option linter.unusedVariables false
set_option linter.unusedSimpArgs false

theorem bright_any (p : Pol) (s : St) (a : Option Addr) (n c : Nat) (hn : s.log.length = n) (w : World) :
    Calls Try.prog 39 #[p.v, s.v a n c] w fun e w' => e = .returned (.bool (decide (rightB p s))) ∧ Below w.heap.size w w' := by
  refine bright_walk p.kind p.limit p.period p.burst p.cap p.opn s.at_ s.level s.held a n c w _ ?_
  rw [decide_eq_true_eq]
  unfold rightB
  rw [← hn]
  simp only [List.length_eq_zero_iff]
end Go.Proofs.Ythinbjknkjpdjaa

namespace Go.Proofs.Ythinbjknkjpdjaa
open Go.RowKit
set_option linter.unusedVariables false
set_option linter.unusedSimpArgs false

set_option maxHeartbeats 1000000 in
set_option maxRecDepth 100000 in
theorem badv_any (p : Pol) (s : St) (a : Option Addr) (n c : Nat) (now : Int) (hn : s.log.length = n) (w : World) : Calls Try.prog 40 #[p.v, s.v a n c, .int .i64 now] w fun e w' => e = .returned ((advB p s now).v none 0 0) ∧ Below w.heap.size w w' := by
  have hrt := bright_any p s a n c hn
  unfold advB
  by_cases h : rightB p s
  · rw [if_pos h]
    rw [decide_eq_true h] at hrt
    obtain ⟨hok, r1, r2, r3, r4, r5, r6, r7⟩ := h
    rw [r7] at hn
    subst hn
    have hdr := fun d0 most w h1 h2 h3 => bdrops_any p d0 most w hok.2.1 hok.2.2.2.2.1 h1 h2 h3
    obtain ⟨k, l, d, b, cc, o⟩ := p
    obtain ⟨at_, level, held, lg⟩ := s
    unfold St.v Pol.v at *
    dsimp only [List.length_nil] at *
    have hcl := clamp_any now
    have hcr := clampT_range now
    obtain ⟨q0, q1, q2, q3, q4, q5, q6, q7⟩ := hok
    dsimp only at *
    have hM : (b - held) * d ≤ 1152921504606846976 := prod_le (by omega) (by omega) (by omega)
    have hM0 : 0 ≤ (b - held) * d := Int.mul_nonneg (by omega) (by omega)
    have hw1 : IntKind.i64.wrap (b - held) = b - held := IntWalk.i64_in _ (by omega)
    generalize hMM : (b - held) * d = M at *
    have hw2 : IntKind.i64.wrap M = M := IntWalk.i64_in _ (by omega)
    generalize hCC : clampT now = C at *
    have hT1 : (if at_ < C then C else at_) = up at_ C := rfl
    have hTr : at_ ≤ up at_ C ∧ up at_ C ≤ 9007199254740992 := by unfold up; split <;> omega
    generalize hTT : up at_ C = T at *
    have hw3 : IntKind.i64.wrap (T - at_) = T - at_ := IntWalk.i64_in _ (by omega)
    have hw4 : IntKind.i64.wrap (M - level) = M - level := IntWalk.i64_in _ (by omega)
    have hdr' := fun w => hdr (T - at_) (M - level) w (by omega) (by omega) (by omega)
    have hDD0 : 0 ≤ l * (T - at_) := Int.mul_nonneg (by omega) (by omega)
    have hD1 : 0 ≤ dn (l * (T - at_)) (M - level) ∧ dn (l * (T - at_)) (M - level) ≤ M - level := by unfold dn; split <;> omega
    generalize dn (l * (T - at_)) (M - level) = D at *
    have hw5 : IntKind.i64.wrap (level + D) = level + D := IntWalk.i64_in _ (by omega)
    have HRT := Go.Lib.hid hrt
    have HCL := Go.Lib.hid hcl
    have HDR := Go.Lib.hid hdr'
    have hmx : (if at_ < C then C else at_) = T := hT1
    clear hrt hcl hdr' hdr hT1 hTr hD1 hM hM0 hDD0 q0 q1 q2 q3 q4 q5 q6 q7 r1 r2 r3 r4 r5 r6 hcr hCC hTT
    go_enter Try.func40, Try.ntmps40
    go_wp2_with fail
    refine (HRT.out _).mono ?_
    rintro e w1 ⟨rfl, hb⟩
    have hB : Below w.heap.size w w1 := bl_then (bl_alloc (bl_alloc (bl_alloc (bl_refl _) _) _) _) hb
    have c0 := bl_cell (v := .int .i64 k) hb (show World.cell? _ ⟨w.heap.size, 0, none⟩ = _ by go_simp)
    have c1 := bl_cell (v := .int .i64 l) hb (show World.cell? _ ⟨w.heap.size, 1, none⟩ = _ by go_simp)
    have c2 := bl_cell (v := .int .i64 d) hb (show World.cell? _ ⟨w.heap.size, 2, none⟩ = _ by go_simp)
    have c3 := bl_cell (v := .int .i64 b) hb (show World.cell? _ ⟨w.heap.size, 3, none⟩ = _ by go_simp)
    have c4 := bl_cell (v := .int .i64 cc) hb (show World.cell? _ ⟨w.heap.size, 4, none⟩ = _ by go_simp)
    have c5 := bl_cell (v := .bool o) hb (show World.cell? _ ⟨w.heap.size, 5, none⟩ = _ by go_simp)
    have c6 := bl_cell (v := .int .i64 at_) hb (show World.cell? _ ⟨w.heap.size + 1, 0, none⟩ = _ by go_simp)
    have c7 := bl_cell (v := .int .i64 level) hb (show World.cell? _ ⟨w.heap.size + 1, 1, none⟩ = _ by go_simp)
    have c8 := bl_cell (v := .int .i64 held) hb (show World.cell? _ ⟨w.heap.size + 1, 2, none⟩ = _ by go_simp)
    have c9 := bl_cell (v := .slice a 0 c) hb (show World.cell? _ ⟨w.heap.size + 1, 3, none⟩ = _ by go_simp)
    have hR : ResB w1 (w.heap.size + 1 + 1) := res_bl (res_new _ _ _ _ _ _ (by simp)) hb
    clear hb HRT
    go_wp2_with fail
    refine wp_region_held_drew (S := fun w' => w'.cell? ⟨w.heap.size, 0, none⟩ = some (.int .i64 k) ∧ w'.cell? ⟨w.heap.size, 1, none⟩ = some (.int .i64 l) ∧ w'.cell? ⟨w.heap.size, 2, none⟩ = some (.int .i64 d) ∧ w'.cell? ⟨w.heap.size, 3, none⟩ = some (.int .i64 b) ∧ w'.cell? ⟨w.heap.size, 4, none⟩ = some (.int .i64 cc) ∧ w'.cell? ⟨w.heap.size, 5, none⟩ = some (.bool o) ∧ w'.cell? ⟨w.heap.size + 1, 0, none⟩ = some (.int .i64 at_) ∧ w'.cell? ⟨w.heap.size + 1, 1, none⟩ = some (.int .i64 level) ∧ w'.cell? ⟨w.heap.size + 1, 2, none⟩ = some (.int .i64 held) ∧ w'.cell? ⟨w.heap.size + 1, 3, none⟩ = some (.slice a 0 c) ∧ ResB w' (w.heap.size + 1 + 1) ∧ Below w.heap.size w w') (by kernel_rfl) ?_ (fun hHeld => ?_)
    · exact ⟨c0, c1, c2, c3, c4, c5, c6, c7, c8, c9, hR, bl_drew hB⟩
    try simp only [Act.put, List.setIfInBounds_toArray, List.set_cons_zero, List.set_cons_succ]
    all_goals ((refine tk (i := 0) rfl rfl hHeld ?_))
    all_goals ((refine tk (i := 1) rfl rfl hHeld ?_))
    all_goals ((refine tk (i := 2) rfl rfl hHeld ?_))
    all_goals ((refine callH (i := 3) rfl hHeld (fun W hW K hK => ?_); clear hHeld; (try dsimp only at hW); go_simp; refine (HCL.out _).mono ?_; rintro e w1 ⟨rfl, rfl⟩; go_wp2_with fail; refine hK.out _ _ ?_ (fun hHeld => ?_); (focus ((try dsimp only); exact hW)); clear hK K; try simp only [Act.put, List.setIfInBounds_toArray, List.set_cons_zero, List.set_cons_succ]))
    all_goals ((refine tk (i := 4) rfl rfl hHeld ?_))
    all_goals ((refine tk (i := 5) rfl rfl hHeld ?_))
    all_goals (refine wpAnyH_done (by kernel_rfl) ?_ _)
    clear hB hR c0 c1 c2 c3 c4 c5 c6 c7 c8 c9
    obtain ⟨c0, c1, c2, c3, c4, c5, c6, c7, c8, c9, hR, hB⟩ := hHeld
    try clear hHeld
    go_wp2_with fail
    refine wp_region_held_drew (S := fun w' => w'.cell? ⟨w.heap.size, 0, none⟩ = some (.int .i64 k) ∧ w'.cell? ⟨w.heap.size, 1, none⟩ = some (.int .i64 l) ∧ w'.cell? ⟨w.heap.size, 2, none⟩ = some (.int .i64 d) ∧ w'.cell? ⟨w.heap.size, 3, none⟩ = some (.int .i64 b) ∧ w'.cell? ⟨w.heap.size, 4, none⟩ = some (.int .i64 cc) ∧ w'.cell? ⟨w.heap.size, 5, none⟩ = some (.bool o) ∧ w'.cell? ⟨w.heap.size + 1, 0, none⟩ = some (.int .i64 at_) ∧ w'.cell? ⟨w.heap.size + 1, 1, none⟩ = some (.int .i64 level) ∧ w'.cell? ⟨w.heap.size + 1, 2, none⟩ = some (.int .i64 held) ∧ w'.cell? ⟨w.heap.size + 1, 3, none⟩ = some (.slice a 0 c) ∧ ResB w' (w.heap.size + 1 + 1) ∧ Below w.heap.size w w') (by kernel_rfl) ?_ (fun hHeld => ?_)
    · exact ⟨c0, c1, c2, c3, c4, c5, c6, c7, c8, c9, hR, bl_drew hB⟩
    try simp only [Act.put, List.setIfInBounds_toArray, List.set_cons_zero, List.set_cons_succ]
    all_goals ((refine tk (i := 0) rfl rfl hHeld ?_))
    all_goals ((refine tk (i := 1) rfl rfl hHeld ?_))
    all_goals ((refine tk (i := 2) rfl rfl hHeld ?_))
    all_goals ((refine tk (i := 3) rfl rfl hHeld ?_))
    all_goals ((refine tk (i := 4) rfl rfl hHeld ?_))
    all_goals ((refine tk (i := 5) rfl rfl hHeld ?_))
    all_goals ((refine tk (i := 6) rfl rfl hHeld ?_))
    all_goals ((refine tk (i := 7) rfl rfl hHeld ?_))
    all_goals ((refine tk (i := 8) rfl rfl hHeld ?_))
    all_goals ((refine tk (i := 9) rfl rfl hHeld ?_))
    all_goals ((refine tk (i := 10) rfl rfl hHeld ?_))
    all_goals ((refine tk (i := 11) rfl rfl hHeld ?_))
    all_goals ((refine tk (i := 14) rfl rfl hHeld ?_))
    all_goals ((refine tk (i := 15) rfl rfl hHeld ?_))
    all_goals ((refine callH (i := 12) rfl hHeld (fun W hW K hK => ?_); clear hHeld; (try dsimp only at hW); go_simp; refine (HDR.out _).mono ?_; rintro e w1 ⟨rfl, hb⟩; go_wp2_with fail; refine hK.out _ _ ?_ (fun hHeld => ?_); (focus ((try dsimp only); (obtain ⟨h0, h1, h2, h3, h4, h5, h6, h7, h8, h9, hr', hB'⟩ := hW; exact ⟨bl_cell hb h0, bl_cell hb h1, bl_cell hb h2, bl_cell hb h3, bl_cell hb h4, bl_cell hb h5, bl_cell hb h6, bl_cell hb h7, bl_cell hb h8, bl_cell hb h9, res_bl hr' hb, bl_then hB' hb⟩))); clear hK K; try simp only [Act.put, List.setIfInBounds_toArray, List.set_cons_zero, List.set_cons_succ]))
    all_goals ((refine tk (i := 13) rfl rfl hHeld ?_))
    all_goals ((refine tk (i := 16) rfl rfl hHeld ?_))
    all_goals ((refine callH (i := 17) rfl hHeld (fun W hW K hK => ?_); clear hHeld; (try dsimp only at hW); obtain ⟨h0, h1, h2, h3, h4, h5, h6, h7, h8, h9, hr', hB'⟩ := hW; obtain ⟨f0, f1, f2, f3, u0, u1, u2, u3, i0, i1, i2, i3⟩ := res_all hr'; go_simp; refine hK.out _ _ ?_ (fun hHeld => ?_); (focus ((try dsimp only); (have e0 : w.heap.size + 1 + 1 ≠ w.heap.size := (by omega); have e1 : w.heap.size + 1 + 1 ≠ w.heap.size + 1 := (by omega); exact ⟨far4 h0 e0, far4 h1 e0, far4 h2 e0, far4 h3 e0, far4 h4 e0, far4 h5 e0, far4 h6 e1, far4 h7 e1, far4 h8 e1, far4 h9 e1, res4 hr', bl4 hB' (by omega)⟩))); clear hK K; try simp only [Act.put, List.setIfInBounds_toArray, List.set_cons_zero, List.set_cons_succ]))
    all_goals (refine wpAnyH_done (by kernel_rfl) ?_ _)
    obtain ⟨-, -, -, -, -, -, -, -, -, -, -, hE⟩ := hHeld
    go_wp2
    (try simp only [Exit.inBlock, Exit.then])
    refine bodyPost_ret (results_state rfl _ _ (by rfl) (set4 _ _ _ _ i0 i1 i2 i3)) rfl ⟨by first | rfl | simp, hE⟩
  · rw [if_neg h]
    rw [decide_eq_false h] at hrt
    clear h
    unfold St.none St.v Pol.v at *
    have HRT := Go.Lib.hid hrt
    clear hrt
    go_enter Try.func40, Try.ntmps40
    go_wp2_with fail
    refine (HRT.out _).mono ?_
    rintro e w1 ⟨rfl, hb⟩
    have hB : Below w.heap.size w w1 := bl_then (bl_alloc (bl_alloc (bl_alloc (bl_refl _) _) _) _) hb
    have hR : ResB w1 (w.heap.size + 1 + 1) := res_bl (res_new _ _ _ _ _ _ (by simp)) hb
    obtain ⟨f0, f1, f2, f3, u0, u1, u2, u3, i0, i1, i2, i3⟩ := res_all hR
    clear hb HRT
    go_wp2
    (try simp only [Exit.inBlock, Exit.then])
    refine bodyPost_ret (results_state rfl _ _ (by rfl) (set4 _ _ _ _ i0 i1 i2 i3)) rfl ⟨by first | rfl | simp, bl4 hB (by omega)⟩
end Go.Proofs.Ythinbjknkjpdjaa

namespace Go.Proofs.Ythinbjknkjpdjaa
open Go.RowKit
set_option linter.unusedVariables false
set_option linter.unusedSimpArgs false

set_option maxHeartbeats 2000000 in
set_option maxRecDepth 100000 in
theorem bdo_1 (p : Pol) (s : St) (a : Option Addr) (c : Nat) (anow acost : Int) (w : World) (h : rightB p s) (hc1 : 1 ≤ acost) (hc2 : acost ≤ p.burst) :
    Calls Try.prog 17 #[p.v, s.v a 0 c, .agg #[.int .i64 1, .int .i64 anow, .int .i64 acost]] w fun e w' =>
      e = .returned (.tuple #[if (actB p (advB p s anow) ⟨1, anow, acost⟩).2 then (actB p (advB p s anow) ⟨1, anow, acost⟩).1.v none 0 0 else s.v a 0 c, .bool (actB p (advB p s anow) ⟨1, anow, acost⟩).2]) ∧ Below w.heap.size w w' := by
  have hlg := h.2.2.2.2.2.2.2
  have hrt := bright_any p s a 0 c (by rw [hlg]; rfl)
  have hav := badv_any p s a 0 c anow (by rw [hlg]; rfl)
  rw [decide_eq_true h] at hrt
  have hok := h.1
  have hlv := advB_level p s anow h
  have hhd := advB_held p s anow h
  have hr3 := h.2.2.2.1
  have hr4 := h.2.2.2.2.1
  generalize advB p s anow = A at *
  clear h
  obtain ⟨k, l, d, b, cc, o⟩ := p
  obtain ⟨at_, level, held, lg⟩ := s
  obtain ⟨aat, alv, ahd, alg⟩ := A
  unfold actB
  unfold St.v Pol.v at *
  dsimp only at *
  simp only [show ((1 : Int) = 1) = True from eq_true rfl, show ((2 : Int) = 1) = False from eq_false (by decide), show ((2 : Int) = 2) = True from eq_true rfl, show ((3 : Int) = 1) = False from eq_false (by decide), show ((3 : Int) = 2) = False from eq_false (by decide), show ((3 : Int) = 3) = True from eq_true rfl, show ((4 : Int) = 1) = False from eq_false (by decide), show ((4 : Int) = 2) = False from eq_false (by decide), show ((4 : Int) = 3) = False from eq_false (by decide), show ((4 : Int) = 4) = True from eq_true rfl, if_true, if_false]
  obtain ⟨z0, z1, z2, z3, z4, z5, z6, z7⟩ := hok
  dsimp only at *
  have hM : acost * d ≤ 1152921504606846976 := prod_le (by omega) (by omega) (by omega)
  have hM0 : 0 ≤ acost * d := Int.mul_nonneg (by omega) (by omega)
  have hw1 : IntKind.i64.wrap (acost * d) = acost * d := IntWalk.i64_in _ (by omega)
  have hw2 : IntKind.i64.wrap (alv - acost * d) = alv - acost * d := IntWalk.i64_in _ (by omega)
  have HAC := Go.Lib.hid (fun w => btake_any k l d b cc o aat alv ahd acost none 0 0 w hw1 hw2)
  have HRT := Go.Lib.hid hrt
  have HAV := Go.Lib.hid hav
  have hb1 : ¬ acost < 1 := by omega
  have hb2 : ¬ b < acost := by omega
  clear hrt hav hlv hhd hM hM0 z0 z1 z2 z3 z4 z5 z6 z7 hr3 hr4 hc1 hc2  hw1  hw2
  obtain ⟨g, hg⟩ : ∃ g, decide (0 ≤ alv - acost * d) = g := ⟨_, rfl⟩
  rw [hg] at HAC ⊢
  go_enter Try.func17, Try.ntmps17
  go_wp2_with fail
  refine wp_abs (S0 := fun w' => w'.cell? ⟨w.heap.size, 0, none⟩ = some (.int .i64 k) ∧ w'.cell? ⟨w.heap.size, 1, none⟩ = some (.int .i64 l) ∧ w'.cell? ⟨w.heap.size, 2, none⟩ = some (.int .i64 d) ∧ w'.cell? ⟨w.heap.size, 3, none⟩ = some (.int .i64 b) ∧ w'.cell? ⟨w.heap.size, 4, none⟩ = some (.int .i64 cc) ∧ w'.cell? ⟨w.heap.size, 5, none⟩ = some (.bool o) ∧ w'.cell? ⟨w.heap.size + 1, 0, none⟩ = some (.int .i64 at_) ∧ w'.cell? ⟨w.heap.size + 1, 1, none⟩ = some (.int .i64 level) ∧ w'.cell? ⟨w.heap.size + 1, 2, none⟩ = some (.int .i64 held) ∧ w'.cell? ⟨w.heap.size + 1, 3, none⟩ = some (.slice a 0 c) ∧ w'.cell? ⟨w.heap.size + 1 + 1, 0, none⟩ = some (.int .i64 1) ∧ w'.cell? ⟨w.heap.size + 1 + 1, 1, none⟩ = some (.int .i64 anow) ∧ w'.cell? ⟨w.heap.size + 1 + 1, 2, none⟩ = some (.int .i64 acost) ∧ ResB w' (w.heap.size + 1 + 1 + 1) ∧ Below w.heap.size w w') ⟨by go_simp, by go_simp, by go_simp, by go_simp, by go_simp, by go_simp, by go_simp, by go_simp, by go_simp, by go_simp, by go_simp, by go_simp, by go_simp, res_new _ _ _ _ _ _ (by simp), bl_alloc (bl_alloc (bl_alloc (bl_alloc (bl_refl _) _) _) _) _⟩ ?_
  rintro W ⟨c0, c1, c2, c3, c4, c5, c6, c7, c8, c9, c10, c11, c12, hR, hB⟩
  refine wp_region_held_drew (S := fun w' => w'.cell? ⟨w.heap.size, 0, none⟩ = some (.int .i64 k) ∧ w'.cell? ⟨w.heap.size, 1, none⟩ = some (.int .i64 l) ∧ w'.cell? ⟨w.heap.size, 2, none⟩ = some (.int .i64 d) ∧ w'.cell? ⟨w.heap.size, 3, none⟩ = some (.int .i64 b) ∧ w'.cell? ⟨w.heap.size, 4, none⟩ = some (.int .i64 cc) ∧ w'.cell? ⟨w.heap.size, 5, none⟩ = some (.bool o) ∧ w'.cell? ⟨w.heap.size + 1, 0, none⟩ = some (.int .i64 at_) ∧ w'.cell? ⟨w.heap.size + 1, 1, none⟩ = some (.int .i64 level) ∧ w'.cell? ⟨w.heap.size + 1, 2, none⟩ = some (.int .i64 held) ∧ w'.cell? ⟨w.heap.size + 1, 3, none⟩ = some (.slice a 0 c) ∧ w'.cell? ⟨w.heap.size + 1 + 1, 0, none⟩ = some (.int .i64 1) ∧ w'.cell? ⟨w.heap.size + 1 + 1, 1, none⟩ = some (.int .i64 anow) ∧ w'.cell? ⟨w.heap.size + 1 + 1, 2, none⟩ = some (.int .i64 acost) ∧ ResB w' (w.heap.size + 1 + 1 + 1) ∧ Below w.heap.size w w') (by kernel_rfl) ?_ (fun hHeld => ?_)
  · exact ⟨c0, c1, c2, c3, c4, c5, c6, c7, c8, c9, c10, c11, c12, hR, bl_drew hB⟩
  try simp only [Act.put, List.setIfInBounds_toArray, List.set_cons_zero, List.set_cons_succ]
  (refine tk (i := 1) rfl rfl hHeld ?_)
  (refine tk (i := 2) rfl rfl hHeld ?_)
  (refine callC (i := 0) rfl (fun K hK => ?_); go_simp; refine (acts_any _).mono ?_; rintro e w1 ⟨rfl, hA, hb⟩; generalize W.drew.heap.size + 1 + 1 = qr at *; generalize W.drew.heap.size + 1 = q2 at *; generalize W.drew.heap.size = q1 at hA; go_wp2_with fail; refine hK.out _ _ ?_ (fun hHeld' => ?_); (focus ((try dsimp only); (obtain ⟨h0, h1, h2, h3, h4, h5, h6, h7, h8, h9, h10, h11, h12, hr', hB'⟩ := hHeld; exact ⟨bl_cell hb h0, bl_cell hb h1, bl_cell hb h2, bl_cell hb h3, bl_cell hb h4, bl_cell hb h5, bl_cell hb h6, bl_cell hb h7, bl_cell hb h8, bl_cell hb h9, bl_cell hb h10, bl_cell hb h11, bl_cell hb h12, res_bl hr' hb, bl_then hB' hb⟩))); clear hHeld hK K; rename _ => hHeld; try simp only [Act.put, List.setIfInBounds_toArray, List.set_cons_zero, List.set_cons_succ])
  have hlk := acts_look hA 1
  unfold actF at hlk
  simp at hlk
  (refine callC (i := 3) rfl (fun K hK => ?_); go_simp; refine hK.out _ _ ?_ (fun hHeld' => ?_); (focus ((try dsimp only); exact hHeld)); clear hHeld hK K; rename _ => hHeld; clear hlk; try simp only [Act.put, List.setIfInBounds_toArray, List.set_cons_zero, List.set_cons_succ])
  (refine tk (i := 4) rfl rfl hHeld ?_)
  (refine tk (i := 5) rfl rfl hHeld ?_)
  (refine tk (i := 6) rfl rfl hHeld ?_)
  (refine tk (i := 7) rfl rfl hHeld ?_)
  (refine tk (i := 8) rfl rfl hHeld ?_)
  refine wpAnyH_done (by kernel_rfl) ?_ _
  clear c0 hR hB
  obtain ⟨c0, c1, c2, c3, c4, c5, c6, c7, c8, c9, c10, c11, c12, hR, hB⟩ := hHeld
  try clear hHeld
  go_wp2_with fail
  refine (HRT.out _).mono ?_
  rintro e w2 ⟨rfl, hb2⟩
  have d0 := bl_cell hb2 c0
  have d1 := bl_cell hb2 c1
  have d2 := bl_cell hb2 c2
  have d3 := bl_cell hb2 c3
  have d4 := bl_cell hb2 c4
  have d5 := bl_cell hb2 c5
  have d6 := bl_cell hb2 c6
  have d7 := bl_cell hb2 c7
  have d8 := bl_cell hb2 c8
  have d9 := bl_cell hb2 c9
  have d10 := bl_cell hb2 c10
  have d11 := bl_cell hb2 c11
  have d12 := bl_cell hb2 c12
  have dR := res_bl hR hb2
  have dB := bl_then hB hb2
  have dA := acts_bl hA hb2
  clear hR hB hA hb2 c0 c1 c2 c3 c4 c5 c6 c7 c8 c9 c10 c11 c12
  go_wp2_with fail
  refine wp_region_held_drew (S := fun w' => w'.cell? ⟨w.heap.size, 0, none⟩ = some (.int .i64 k) ∧ w'.cell? ⟨w.heap.size, 1, none⟩ = some (.int .i64 l) ∧ w'.cell? ⟨w.heap.size, 2, none⟩ = some (.int .i64 d) ∧ w'.cell? ⟨w.heap.size, 3, none⟩ = some (.int .i64 b) ∧ w'.cell? ⟨w.heap.size, 4, none⟩ = some (.int .i64 cc) ∧ w'.cell? ⟨w.heap.size, 5, none⟩ = some (.bool o) ∧ w'.cell? ⟨w.heap.size + 1, 0, none⟩ = some (.int .i64 at_) ∧ w'.cell? ⟨w.heap.size + 1, 1, none⟩ = some (.int .i64 level) ∧ w'.cell? ⟨w.heap.size + 1, 2, none⟩ = some (.int .i64 held) ∧ w'.cell? ⟨w.heap.size + 1, 3, none⟩ = some (.slice a 0 c) ∧ w'.cell? ⟨w.heap.size + 1 + 1, 0, none⟩ = some (.int .i64 1) ∧ w'.cell? ⟨w.heap.size + 1 + 1, 1, none⟩ = some (.int .i64 anow) ∧ w'.cell? ⟨w.heap.size + 1 + 1, 2, none⟩ = some (.int .i64 acost) ∧ ResB w' (w.heap.size + 1 + 1 + 1) ∧ Below w.heap.size w w') (by kernel_rfl) ?_ (fun hHeld => ?_)
  · exact ⟨d0, d1, d2, d3, d4, d5, d6, d7, d8, d9, d10, d11, d12, dR, bl_drew dB⟩
  try simp only [Act.put, List.setIfInBounds_toArray, List.set_cons_zero, List.set_cons_succ]
  refine wpAnyH_abs (F := fun W => ActsAt W qr q1 q2) hHeld dA (fun W3 hHeld hA => ?_)
  clear dA dR dB d0 d1 d2 d3 d4 d5 d6 d7 d8 d9 d10 d11 d12
  (refine tk (i := 0) rfl rfl hHeld ?_)
  (refine tk (i := 1) rfl rfl hHeld ?_)
  (refine tk (i := 2) rfl rfl hHeld ?_)
  (refine tk (i := 3) rfl rfl hHeld ?_)
  (refine tk (i := 4) rfl rfl hHeld ?_)
  (refine tk (i := 5) rfl rfl hHeld ?_)
  (refine tk (i := 7) rfl rfl hHeld ?_)
  (refine tk (i := 8) rfl rfl hHeld ?_)
  refine callC2 (i := 6) (j := 13) rfl rfl (fun K hK => ?_) (fun K hK => ?_)
  · go_simp
    refine (HAV.out _).mono ?_
    rintro e w4 ⟨rfl, hb⟩
    go_wp2_with fail
    refine hK.out _ _ ?_ (fun hHeld' => ?_)
    · (try dsimp only)
      (obtain ⟨h0, h1, h2, h3, h4, h5, h6, h7, h8, h9, h10, h11, h12, hr', hB'⟩ := hHeld; exact ⟨bl_cell hb h0, bl_cell hb h1, bl_cell hb h2, bl_cell hb h3, bl_cell hb h4, bl_cell hb h5, bl_cell hb h6, bl_cell hb h7, bl_cell hb h8, bl_cell hb h9, bl_cell hb h10, bl_cell hb h11, bl_cell hb h12, res_bl hr' hb, bl_then hB' hb⟩)
    clear hHeld hK K
    rename _ => hHeld
    replace hA := acts_bl hA hb
    clear hb
    try simp only [Act.put, List.setIfInBounds_toArray, List.set_cons_zero, List.set_cons_succ]
    refine callC2 (i := 9) (j := 13) rfl rfl (fun K hK => ?_) (fun K hK => ?_)
    · go_simp
      refine (HAC.out _).mono ?_
      rintro e w5 ⟨rfl, hb⟩
      go_wp2_with fail
      refine hK.out _ _ ?_ (fun hHeld' => ?_)
      · (try dsimp only)
        (obtain ⟨h0, h1, h2, h3, h4, h5, h6, h7, h8, h9, h10, h11, h12, hr', hB'⟩ := hHeld; exact ⟨bl_cell hb h0, bl_cell hb h1, bl_cell hb h2, bl_cell hb h3, bl_cell hb h4, bl_cell hb h5, bl_cell hb h6, bl_cell hb h7, bl_cell hb h8, bl_cell hb h9, bl_cell hb h10, bl_cell hb h11, bl_cell hb h12, res_bl hr' hb, bl_then hB' hb⟩)
      clear hHeld hK K
      rename _ => hHeld
      replace hA := acts_bl hA hb
      clear hb
      try simp only [Act.put, List.setIfInBounds_toArray, List.set_cons_zero, List.set_cons_succ]
      (refine tk (i := 10) rfl rfl hHeld ?_)
      (refine tk (i := 11) rfl rfl hHeld ?_)
      (refine tk (i := 12) rfl rfl hHeld ?_)
      refine callC (i := 13) rfl (fun K hK => ?_)
      have hlt : w.heap.size + 1 + 1 + 1 < w5.heap.size := by (obtain ⟨h0, h1, h2, h3, h4, h5, h6, h7, h8, h9, h10, h11, h12, hr', hB'⟩ := hHeld; exact res_lt hr')
      go_simp
      refine hK.out _ _ ?_ (fun hHeld' => ?_)
      · (try dsimp only)
        (obtain ⟨h0, h1, h2, h3, h4, h5, h6, h7, h8, h9, h10, h11, h12, hr', hB'⟩ := hHeld; exact ⟨bl_cell (bl_alloc (bl_refl _) _) h0, bl_cell (bl_alloc (bl_refl _) _) h1, bl_cell (bl_alloc (bl_refl _) _) h2, bl_cell (bl_alloc (bl_refl _) _) h3, bl_cell (bl_alloc (bl_refl _) _) h4, bl_cell (bl_alloc (bl_refl _) _) h5, bl_cell (bl_alloc (bl_refl _) _) h6, bl_cell (bl_alloc (bl_refl _) _) h7, bl_cell (bl_alloc (bl_refl _) _) h8, bl_cell (bl_alloc (bl_refl _) _) h9, bl_cell (bl_alloc (bl_refl _) _) h10, bl_cell (bl_alloc (bl_refl _) _) h11, bl_cell (bl_alloc (bl_refl _) _) h12, res_bl hr' (bl_alloc (bl_refl _) _), bl_alloc hB' _⟩)
      clear hHeld hK K
      rename _ => hHeld
      try simp only [Act.put, List.setIfInBounds_toArray, List.set_cons_zero, List.set_cons_succ]
      refine wpAnyH_abs (F := fun X => ActsAt X qr q1 q2 ∧ ResB X w5.heap.size) hHeld ⟨acts_bl hA (bl_alloc (bl_refl _) _), res_new _ _ _ _ _ _ rfl⟩ (fun w6 hHeld hAN => ?_)
      clear hA
      obtain ⟨hA, hN⟩ := hAN
      generalize w5.heap.size = nb at *
      refine callC (i := 14) rfl (fun K hK => ?_)
      obtain ⟨h0, h1, h2, h3, h4, h5, h6, h7, h8, h9, h10, h11, h12, hr', hB'⟩ := hHeld
      obtain ⟨f0, f1, f2, f3, u0, u1, u2, u3, i0, i1, i2, i3⟩ := res_all hN
      clear hHeld
      have hHeld : True := trivial
      go_simp
      refine hK.out _ _ ?_ (fun hHeld' => ?_)
      · (try dsimp only)
        (have e0 : nb ≠ w.heap.size := (by omega); have e1 : nb ≠ w.heap.size + 1 := (by omega); have e2 : nb ≠ w.heap.size + 1 + 1 := (by omega); exact ⟨far4 h0 e0, far4 h1 e0, far4 h2 e0, far4 h3 e0, far4 h4 e0, far4 h5 e0, far4 h6 e1, far4 h7 e1, far4 h8 e1, far4 h9 e1, far4 h10 e2, far4 h11 e2, far4 h12 e2, res4 hr', bl4 hB' (by omega)⟩)
      clear hHeld hK K
      rename _ => hHeld
      try simp only [Act.put, List.setIfInBounds_toArray, List.set_cons_zero, List.set_cons_succ]
      (refine tk (i := 15) rfl rfl hHeld ?_)
      refine wpAnyH_done (by kernel_rfl) ?_ _
      obtain ⟨h0, h1, h2, h3, h4, h5, h6, h7, h8, h9, h10, h11, h12, hr'', hE⟩ := hHeld
      refine then_abs (F := fun X => (X.cell? ⟨nb, 0, none⟩ = some (.int .i64 aat) ∧ X.cell? ⟨nb, 1, none⟩ = some (.int .i64 (alv - acost * d)) ∧ X.cell? ⟨nb, 2, none⟩ = some (.int .i64 (ahd)) ∧ X.cell? ⟨nb, 3, none⟩ = some (.slice none 0 0)) ∧ X.cell? ⟨w.heap.size + 1, 0, none⟩ = some (.int .i64 at_) ∧ X.cell? ⟨w.heap.size + 1, 1, none⟩ = some (.int .i64 level) ∧ X.cell? ⟨w.heap.size + 1, 2, none⟩ = some (.int .i64 held) ∧ X.cell? ⟨w.heap.size + 1, 3, none⟩ = some (.slice a 0 c) ∧ ResB X (w.heap.size + 1 + 1 + 1) ∧ Below w.heap.size w X) ⟨set4 _ _ _ _ i0 i1 i2 i3, h6, h7, h8, h9, hr'', hE⟩ ?_
      rintro X ⟨⟨x0, x1, x2, x3⟩, c6, c7, c8, c9, hR, hE⟩
      obtain ⟨F0, F1, F2, F3, U0, U1, U2, U3, I0, I1, I2, I3⟩ := res_all hR
      clear hA hN hr' hB' hr'' i0 i1 i2 i3 f0 f1 f2 f3 u0 u1 u2 u3 hR h0 h1 h2 h3 h4 h5 h6 h7 h8 h9 h10 h11 h12
      cases g
      · repeat go_step
        (try simp only [Exit.inBlock, Exit.then])
        refine bodyPost_ret (results_state2 rfl _ _ (by rfl) (set4 _ _ _ _ I0 I1 I2 I3)) rfl ⟨by first | rfl | simp, bl4 hE (by omega)⟩
      · repeat go_step
        (try simp only [Exit.inBlock, Exit.then])
        refine bodyPost_ret (results_state2 rfl _ _ (by rfl) (set4 _ _ _ _ I0 I1 I2 I3)) rfl ⟨by first | rfl | simp, bl4 hE (by omega)⟩
    · have hlt : w.heap.size + 1 + 1 + 1 < w4.heap.size := by (obtain ⟨h0, h1, h2, h3, h4, h5, h6, h7, h8, h9, h10, h11, h12, hr', hB'⟩ := hHeld; exact res_lt hr')
      go_simp
      refine hK.out _ _ ?_ (fun hHeld' => ?_)
      · (try dsimp only)
        (obtain ⟨h0, h1, h2, h3, h4, h5, h6, h7, h8, h9, h10, h11, h12, hr', hB'⟩ := hHeld; exact ⟨bl_cell (bl_alloc (bl_refl _) _) h0, bl_cell (bl_alloc (bl_refl _) _) h1, bl_cell (bl_alloc (bl_refl _) _) h2, bl_cell (bl_alloc (bl_refl _) _) h3, bl_cell (bl_alloc (bl_refl _) _) h4, bl_cell (bl_alloc (bl_refl _) _) h5, bl_cell (bl_alloc (bl_refl _) _) h6, bl_cell (bl_alloc (bl_refl _) _) h7, bl_cell (bl_alloc (bl_refl _) _) h8, bl_cell (bl_alloc (bl_refl _) _) h9, bl_cell (bl_alloc (bl_refl _) _) h10, bl_cell (bl_alloc (bl_refl _) _) h11, bl_cell (bl_alloc (bl_refl _) _) h12, res_bl hr' (bl_alloc (bl_refl _) _), bl_alloc hB' _⟩)
      clear hHeld hK K
      rename _ => hHeld
      try simp only [Act.put, List.setIfInBounds_toArray, List.set_cons_zero, List.set_cons_succ]
      refine wpAnyH_abs (F := fun X => ActsAt X qr q1 q2 ∧ ResB X w4.heap.size) hHeld ⟨acts_bl hA (bl_alloc (bl_refl _) _), res_new _ _ _ _ _ _ rfl⟩ (fun w5 hHeld hAN => ?_)
      clear hA
      obtain ⟨hA, hN⟩ := hAN
      generalize w4.heap.size = nb at *
      refine callC (i := 9) rfl (fun K hK => ?_)
      go_simp
      refine (HAC.out _).mono ?_
      rintro e w6 ⟨rfl, hb⟩
      go_wp2_with fail
      refine hK.out _ _ ?_ (fun hHeld' => ?_)
      · (try dsimp only)
        (obtain ⟨h0, h1, h2, h3, h4, h5, h6, h7, h8, h9, h10, h11, h12, hr', hB'⟩ := hHeld; exact ⟨bl_cell hb h0, bl_cell hb h1, bl_cell hb h2, bl_cell hb h3, bl_cell hb h4, bl_cell hb h5, bl_cell hb h6, bl_cell hb h7, bl_cell hb h8, bl_cell hb h9, bl_cell hb h10, bl_cell hb h11, bl_cell hb h12, res_bl hr' hb, bl_then hB' hb⟩)
      clear hHeld hK K
      rename _ => hHeld
      replace hA := acts_bl hA hb
      replace hN := res_bl hN hb
      clear hb
      try simp only [Act.put, List.setIfInBounds_toArray, List.set_cons_zero, List.set_cons_succ]
      (refine tk (i := 10) rfl rfl hHeld ?_)
      (refine tk (i := 11) rfl rfl hHeld ?_)
      (refine tk (i := 12) rfl rfl hHeld ?_)
      refine callC (i := 14) rfl (fun K hK => ?_)
      obtain ⟨h0, h1, h2, h3, h4, h5, h6, h7, h8, h9, h10, h11, h12, hr', hB'⟩ := hHeld
      obtain ⟨f0, f1, f2, f3, u0, u1, u2, u3, i0, i1, i2, i3⟩ := res_all hN
      clear hHeld
      have hHeld : True := trivial
      go_simp
      refine hK.out _ _ ?_ (fun hHeld' => ?_)
      · (try dsimp only)
        (have e0 : nb ≠ w.heap.size := (by omega); have e1 : nb ≠ w.heap.size + 1 := (by omega); have e2 : nb ≠ w.heap.size + 1 + 1 := (by omega); exact ⟨far4 h0 e0, far4 h1 e0, far4 h2 e0, far4 h3 e0, far4 h4 e0, far4 h5 e0, far4 h6 e1, far4 h7 e1, far4 h8 e1, far4 h9 e1, far4 h10 e2, far4 h11 e2, far4 h12 e2, res4 hr', bl4 hB' (by omega)⟩)
      clear hHeld hK K
      rename _ => hHeld
      try simp only [Act.put, List.setIfInBounds_toArray, List.set_cons_zero, List.set_cons_succ]
      (refine tk (i := 15) rfl rfl hHeld ?_)
      refine wpAnyH_done (by kernel_rfl) ?_ _
      obtain ⟨h0, h1, h2, h3, h4, h5, h6, h7, h8, h9, h10, h11, h12, hr'', hE⟩ := hHeld
      refine then_abs (F := fun X => (X.cell? ⟨nb, 0, none⟩ = some (.int .i64 aat) ∧ X.cell? ⟨nb, 1, none⟩ = some (.int .i64 (alv - acost * d)) ∧ X.cell? ⟨nb, 2, none⟩ = some (.int .i64 (ahd)) ∧ X.cell? ⟨nb, 3, none⟩ = some (.slice none 0 0)) ∧ X.cell? ⟨w.heap.size + 1, 0, none⟩ = some (.int .i64 at_) ∧ X.cell? ⟨w.heap.size + 1, 1, none⟩ = some (.int .i64 level) ∧ X.cell? ⟨w.heap.size + 1, 2, none⟩ = some (.int .i64 held) ∧ X.cell? ⟨w.heap.size + 1, 3, none⟩ = some (.slice a 0 c) ∧ ResB X (w.heap.size + 1 + 1 + 1) ∧ Below w.heap.size w X) ⟨set4 _ _ _ _ i0 i1 i2 i3, h6, h7, h8, h9, hr'', hE⟩ ?_
      rintro X ⟨⟨x0, x1, x2, x3⟩, c6, c7, c8, c9, hR, hE⟩
      obtain ⟨F0, F1, F2, F3, U0, U1, U2, U3, I0, I1, I2, I3⟩ := res_all hR
      clear hA hN hr' hB' hr'' i0 i1 i2 i3 f0 f1 f2 f3 u0 u1 u2 u3 hR h0 h1 h2 h3 h4 h5 h6 h7 h8 h9 h10 h11 h12
      cases g
      · repeat go_step
        (try simp only [Exit.inBlock, Exit.then])
        refine bodyPost_ret (results_state2 rfl _ _ (by rfl) (set4 _ _ _ _ I0 I1 I2 I3)) rfl ⟨by first | rfl | simp, bl4 hE (by omega)⟩
      · repeat go_step
        (try simp only [Exit.inBlock, Exit.then])
        refine bodyPost_ret (results_state2 rfl _ _ (by rfl) (set4 _ _ _ _ I0 I1 I2 I3)) rfl ⟨by first | rfl | simp, bl4 hE (by omega)⟩
  · have hlt : w.heap.size + 1 + 1 + 1 < W3.heap.size := by (obtain ⟨h0, h1, h2, h3, h4, h5, h6, h7, h8, h9, h10, h11, h12, hr', hB'⟩ := hHeld; exact res_lt hr')
    go_simp
    refine hK.out _ _ ?_ (fun hHeld' => ?_)
    · (try dsimp only)
      (obtain ⟨h0, h1, h2, h3, h4, h5, h6, h7, h8, h9, h10, h11, h12, hr', hB'⟩ := hHeld; exact ⟨bl_cell (bl_alloc (bl_refl _) _) h0, bl_cell (bl_alloc (bl_refl _) _) h1, bl_cell (bl_alloc (bl_refl _) _) h2, bl_cell (bl_alloc (bl_refl _) _) h3, bl_cell (bl_alloc (bl_refl _) _) h4, bl_cell (bl_alloc (bl_refl _) _) h5, bl_cell (bl_alloc (bl_refl _) _) h6, bl_cell (bl_alloc (bl_refl _) _) h7, bl_cell (bl_alloc (bl_refl _) _) h8, bl_cell (bl_alloc (bl_refl _) _) h9, bl_cell (bl_alloc (bl_refl _) _) h10, bl_cell (bl_alloc (bl_refl _) _) h11, bl_cell (bl_alloc (bl_refl _) _) h12, res_bl hr' (bl_alloc (bl_refl _) _), bl_alloc hB' _⟩)
    clear hHeld hK K
    rename _ => hHeld
    try simp only [Act.put, List.setIfInBounds_toArray, List.set_cons_zero, List.set_cons_succ]
    refine wpAnyH_abs (F := fun X => ActsAt X qr q1 q2 ∧ ResB X W3.heap.size) hHeld ⟨acts_bl hA (bl_alloc (bl_refl _) _), res_new _ _ _ _ _ _ rfl⟩ (fun w4 hHeld hAN => ?_)
    clear hA
    obtain ⟨hA, hN⟩ := hAN
    generalize W3.heap.size = nb at *
    refine callC (i := 6) rfl (fun K hK => ?_)
    go_simp
    refine (HAV.out _).mono ?_
    rintro e w5 ⟨rfl, hb⟩
    go_wp2_with fail
    refine hK.out _ _ ?_ (fun hHeld' => ?_)
    · (try dsimp only)
      (obtain ⟨h0, h1, h2, h3, h4, h5, h6, h7, h8, h9, h10, h11, h12, hr', hB'⟩ := hHeld; exact ⟨bl_cell hb h0, bl_cell hb h1, bl_cell hb h2, bl_cell hb h3, bl_cell hb h4, bl_cell hb h5, bl_cell hb h6, bl_cell hb h7, bl_cell hb h8, bl_cell hb h9, bl_cell hb h10, bl_cell hb h11, bl_cell hb h12, res_bl hr' hb, bl_then hB' hb⟩)
    clear hHeld hK K
    rename _ => hHeld
    replace hA := acts_bl hA hb
    replace hN := res_bl hN hb
    clear hb
    try simp only [Act.put, List.setIfInBounds_toArray, List.set_cons_zero, List.set_cons_succ]
    refine callC (i := 9) rfl (fun K hK => ?_)
    go_simp
    refine (HAC.out _).mono ?_
    rintro e w6 ⟨rfl, hb⟩
    go_wp2_with fail
    refine hK.out _ _ ?_ (fun hHeld' => ?_)
    · (try dsimp only)
      (obtain ⟨h0, h1, h2, h3, h4, h5, h6, h7, h8, h9, h10, h11, h12, hr', hB'⟩ := hHeld; exact ⟨bl_cell hb h0, bl_cell hb h1, bl_cell hb h2, bl_cell hb h3, bl_cell hb h4, bl_cell hb h5, bl_cell hb h6, bl_cell hb h7, bl_cell hb h8, bl_cell hb h9, bl_cell hb h10, bl_cell hb h11, bl_cell hb h12, res_bl hr' hb, bl_then hB' hb⟩)
    clear hHeld hK K
    rename _ => hHeld
    replace hA := acts_bl hA hb
    replace hN := res_bl hN hb
    clear hb
    try simp only [Act.put, List.setIfInBounds_toArray, List.set_cons_zero, List.set_cons_succ]
    (refine tk (i := 10) rfl rfl hHeld ?_)
    (refine tk (i := 11) rfl rfl hHeld ?_)
    (refine tk (i := 12) rfl rfl hHeld ?_)
    refine callC (i := 14) rfl (fun K hK => ?_)
    obtain ⟨h0, h1, h2, h3, h4, h5, h6, h7, h8, h9, h10, h11, h12, hr', hB'⟩ := hHeld
    obtain ⟨f0, f1, f2, f3, u0, u1, u2, u3, i0, i1, i2, i3⟩ := res_all hN
    clear hHeld
    have hHeld : True := trivial
    go_simp
    refine hK.out _ _ ?_ (fun hHeld' => ?_)
    · (try dsimp only)
      (have e0 : nb ≠ w.heap.size := (by omega); have e1 : nb ≠ w.heap.size + 1 := (by omega); have e2 : nb ≠ w.heap.size + 1 + 1 := (by omega); exact ⟨far4 h0 e0, far4 h1 e0, far4 h2 e0, far4 h3 e0, far4 h4 e0, far4 h5 e0, far4 h6 e1, far4 h7 e1, far4 h8 e1, far4 h9 e1, far4 h10 e2, far4 h11 e2, far4 h12 e2, res4 hr', bl4 hB' (by omega)⟩)
    clear hHeld hK K
    rename _ => hHeld
    try simp only [Act.put, List.setIfInBounds_toArray, List.set_cons_zero, List.set_cons_succ]
    (refine tk (i := 15) rfl rfl hHeld ?_)
    refine wpAnyH_done (by kernel_rfl) ?_ _
    obtain ⟨h0, h1, h2, h3, h4, h5, h6, h7, h8, h9, h10, h11, h12, hr'', hE⟩ := hHeld
    refine then_abs (F := fun X => (X.cell? ⟨nb, 0, none⟩ = some (.int .i64 aat) ∧ X.cell? ⟨nb, 1, none⟩ = some (.int .i64 (alv - acost * d)) ∧ X.cell? ⟨nb, 2, none⟩ = some (.int .i64 (ahd)) ∧ X.cell? ⟨nb, 3, none⟩ = some (.slice none 0 0)) ∧ X.cell? ⟨w.heap.size + 1, 0, none⟩ = some (.int .i64 at_) ∧ X.cell? ⟨w.heap.size + 1, 1, none⟩ = some (.int .i64 level) ∧ X.cell? ⟨w.heap.size + 1, 2, none⟩ = some (.int .i64 held) ∧ X.cell? ⟨w.heap.size + 1, 3, none⟩ = some (.slice a 0 c) ∧ ResB X (w.heap.size + 1 + 1 + 1) ∧ Below w.heap.size w X) ⟨set4 _ _ _ _ i0 i1 i2 i3, h6, h7, h8, h9, hr'', hE⟩ ?_
    rintro X ⟨⟨x0, x1, x2, x3⟩, c6, c7, c8, c9, hR, hE⟩
    obtain ⟨F0, F1, F2, F3, U0, U1, U2, U3, I0, I1, I2, I3⟩ := res_all hR
    clear hA hN hr' hB' hr'' i0 i1 i2 i3 f0 f1 f2 f3 u0 u1 u2 u3 hR h0 h1 h2 h3 h4 h5 h6 h7 h8 h9 h10 h11 h12
    cases g
    · repeat go_step
      (try simp only [Exit.inBlock, Exit.then])
      refine bodyPost_ret (results_state2 rfl _ _ (by rfl) (set4 _ _ _ _ I0 I1 I2 I3)) rfl ⟨by first | rfl | simp, bl4 hE (by omega)⟩
    · repeat go_step
      (try simp only [Exit.inBlock, Exit.then])
      refine bodyPost_ret (results_state2 rfl _ _ (by rfl) (set4 _ _ _ _ I0 I1 I2 I3)) rfl ⟨by first | rfl | simp, bl4 hE (by omega)⟩

set_option maxHeartbeats 2000000 in
set_option maxRecDepth 100000 in
theorem bdo_2 (p : Pol) (s : St) (a : Option Addr) (c : Nat) (anow acost : Int) (w : World) (h : rightB p s) (hc1 : 1 ≤ acost) (hc2 : acost ≤ p.burst) :
    Calls Try.prog 17 #[p.v, s.v a 0 c, .agg #[.int .i64 2, .int .i64 anow, .int .i64 acost]] w fun e w' =>
      e = .returned (.tuple #[if (actB p (advB p s anow) ⟨2, anow, acost⟩).2 then (actB p (advB p s anow) ⟨2, anow, acost⟩).1.v none 0 0 else s.v a 0 c, .bool (actB p (advB p s anow) ⟨2, anow, acost⟩).2]) ∧ Below w.heap.size w w' := by
  have hlg := h.2.2.2.2.2.2.2
  have hrt := bright_any p s a 0 c (by rw [hlg]; rfl)
  have hav := badv_any p s a 0 c anow (by rw [hlg]; rfl)
  rw [decide_eq_true h] at hrt
  have hok := h.1
  have hlv := advB_level p s anow h
  have hhd := advB_held p s anow h
  have hr3 := h.2.2.2.1
  have hr4 := h.2.2.2.2.1
  generalize advB p s anow = A at *
  clear h
  obtain ⟨k, l, d, b, cc, o⟩ := p
  obtain ⟨at_, level, held, lg⟩ := s
  obtain ⟨aat, alv, ahd, alg⟩ := A
  unfold actB
  unfold St.v Pol.v at *
  dsimp only at *
  simp only [show ((1 : Int) = 1) = True from eq_true rfl, show ((2 : Int) = 1) = False from eq_false (by decide), show ((2 : Int) = 2) = True from eq_true rfl, show ((3 : Int) = 1) = False from eq_false (by decide), show ((3 : Int) = 2) = False from eq_false (by decide), show ((3 : Int) = 3) = True from eq_true rfl, show ((4 : Int) = 1) = False from eq_false (by decide), show ((4 : Int) = 2) = False from eq_false (by decide), show ((4 : Int) = 3) = False from eq_false (by decide), show ((4 : Int) = 4) = True from eq_true rfl, if_true, if_false]
  obtain ⟨z0, z1, z2, z3, z4, z5, z6, z7⟩ := hok
  dsimp only at *
  have hM : acost * d ≤ 1152921504606846976 := prod_le (by omega) (by omega) (by omega)
  have hM0 : 0 ≤ acost * d := Int.mul_nonneg (by omega) (by omega)
  have hw1 : IntKind.i64.wrap (acost * d) = acost * d := IntWalk.i64_in _ (by omega)
  have hw2 : IntKind.i64.wrap (alv - acost * d) = alv - acost * d := IntWalk.i64_in _ (by omega)
  have hw0 : IntKind.i64.wrap (ahd + acost) = ahd + acost := IntWalk.i64_in _ (by omega)
  have HAC := Go.Lib.hid (fun q w hq => bhold_any k l d b cc o aat alv ahd acost none 0 0 q w hw0 hw1 hw2 hq)
  have HRT := Go.Lib.hid hrt
  have HAV := Go.Lib.hid hav
  have hb1 : ¬ acost < 1 := by omega
  have hb2 : ¬ b < acost := by omega
  clear hrt hav hlv hhd hM hM0 z0 z1 z2 z3 z4 z5 z6 z7 hr3 hr4 hc1 hc2  hw0  hw1  hw2
  obtain ⟨g, hg⟩ : ∃ g, decide (0 ≤ alv - acost * d) = g := ⟨_, rfl⟩
  rw [hg] at HAC ⊢
  go_enter Try.func17, Try.ntmps17
  go_wp2_with fail
  refine wp_abs (S0 := fun w' => w'.cell? ⟨w.heap.size, 0, none⟩ = some (.int .i64 k) ∧ w'.cell? ⟨w.heap.size, 1, none⟩ = some (.int .i64 l) ∧ w'.cell? ⟨w.heap.size, 2, none⟩ = some (.int .i64 d) ∧ w'.cell? ⟨w.heap.size, 3, none⟩ = some (.int .i64 b) ∧ w'.cell? ⟨w.heap.size, 4, none⟩ = some (.int .i64 cc) ∧ w'.cell? ⟨w.heap.size, 5, none⟩ = some (.bool o) ∧ w'.cell? ⟨w.heap.size + 1, 0, none⟩ = some (.int .i64 at_) ∧ w'.cell? ⟨w.heap.size + 1, 1, none⟩ = some (.int .i64 level) ∧ w'.cell? ⟨w.heap.size + 1, 2, none⟩ = some (.int .i64 held) ∧ w'.cell? ⟨w.heap.size + 1, 3, none⟩ = some (.slice a 0 c) ∧ w'.cell? ⟨w.heap.size + 1 + 1, 0, none⟩ = some (.int .i64 2) ∧ w'.cell? ⟨w.heap.size + 1 + 1, 1, none⟩ = some (.int .i64 anow) ∧ w'.cell? ⟨w.heap.size + 1 + 1, 2, none⟩ = some (.int .i64 acost) ∧ ResB w' (w.heap.size + 1 + 1 + 1) ∧ Below w.heap.size w w') ⟨by go_simp, by go_simp, by go_simp, by go_simp, by go_simp, by go_simp, by go_simp, by go_simp, by go_simp, by go_simp, by go_simp, by go_simp, by go_simp, res_new _ _ _ _ _ _ (by simp), bl_alloc (bl_alloc (bl_alloc (bl_alloc (bl_refl _) _) _) _) _⟩ ?_
  rintro W ⟨c0, c1, c2, c3, c4, c5, c6, c7, c8, c9, c10, c11, c12, hR, hB⟩
  refine wp_region_held_drew (S := fun w' => w'.cell? ⟨w.heap.size, 0, none⟩ = some (.int .i64 k) ∧ w'.cell? ⟨w.heap.size, 1, none⟩ = some (.int .i64 l) ∧ w'.cell? ⟨w.heap.size, 2, none⟩ = some (.int .i64 d) ∧ w'.cell? ⟨w.heap.size, 3, none⟩ = some (.int .i64 b) ∧ w'.cell? ⟨w.heap.size, 4, none⟩ = some (.int .i64 cc) ∧ w'.cell? ⟨w.heap.size, 5, none⟩ = some (.bool o) ∧ w'.cell? ⟨w.heap.size + 1, 0, none⟩ = some (.int .i64 at_) ∧ w'.cell? ⟨w.heap.size + 1, 1, none⟩ = some (.int .i64 level) ∧ w'.cell? ⟨w.heap.size + 1, 2, none⟩ = some (.int .i64 held) ∧ w'.cell? ⟨w.heap.size + 1, 3, none⟩ = some (.slice a 0 c) ∧ w'.cell? ⟨w.heap.size + 1 + 1, 0, none⟩ = some (.int .i64 2) ∧ w'.cell? ⟨w.heap.size + 1 + 1, 1, none⟩ = some (.int .i64 anow) ∧ w'.cell? ⟨w.heap.size + 1 + 1, 2, none⟩ = some (.int .i64 acost) ∧ ResB w' (w.heap.size + 1 + 1 + 1) ∧ Below w.heap.size w w') (by kernel_rfl) ?_ (fun hHeld => ?_)
  · exact ⟨c0, c1, c2, c3, c4, c5, c6, c7, c8, c9, c10, c11, c12, hR, bl_drew hB⟩
  try simp only [Act.put, List.setIfInBounds_toArray, List.set_cons_zero, List.set_cons_succ]
  (refine tk (i := 1) rfl rfl hHeld ?_)
  (refine tk (i := 2) rfl rfl hHeld ?_)
  (refine callC (i := 0) rfl (fun K hK => ?_); go_simp; refine (acts_any _).mono ?_; rintro e w1 ⟨rfl, hA, hb⟩; generalize W.drew.heap.size + 1 + 1 = qr at *; generalize W.drew.heap.size + 1 = q2 at *; generalize W.drew.heap.size = q1 at hA; go_wp2_with fail; refine hK.out _ _ ?_ (fun hHeld' => ?_); (focus ((try dsimp only); (obtain ⟨h0, h1, h2, h3, h4, h5, h6, h7, h8, h9, h10, h11, h12, hr', hB'⟩ := hHeld; exact ⟨bl_cell hb h0, bl_cell hb h1, bl_cell hb h2, bl_cell hb h3, bl_cell hb h4, bl_cell hb h5, bl_cell hb h6, bl_cell hb h7, bl_cell hb h8, bl_cell hb h9, bl_cell hb h10, bl_cell hb h11, bl_cell hb h12, res_bl hr' hb, bl_then hB' hb⟩))); clear hHeld hK K; rename _ => hHeld; try simp only [Act.put, List.setIfInBounds_toArray, List.set_cons_zero, List.set_cons_succ])
  have hlk := acts_look hA 2
  unfold actF at hlk
  simp at hlk
  (refine callC (i := 3) rfl (fun K hK => ?_); go_simp; refine hK.out _ _ ?_ (fun hHeld' => ?_); (focus ((try dsimp only); exact hHeld)); clear hHeld hK K; rename _ => hHeld; clear hlk; try simp only [Act.put, List.setIfInBounds_toArray, List.set_cons_zero, List.set_cons_succ])
  (refine tk (i := 4) rfl rfl hHeld ?_)
  (refine tk (i := 5) rfl rfl hHeld ?_)
  (refine tk (i := 6) rfl rfl hHeld ?_)
  (refine tk (i := 7) rfl rfl hHeld ?_)
  (refine tk (i := 8) rfl rfl hHeld ?_)
  refine wpAnyH_done (by kernel_rfl) ?_ _
  clear c0 hR hB
  obtain ⟨c0, c1, c2, c3, c4, c5, c6, c7, c8, c9, c10, c11, c12, hR, hB⟩ := hHeld
  try clear hHeld
  go_wp2_with fail
  refine (HRT.out _).mono ?_
  rintro e w2 ⟨rfl, hb2⟩
  have d0 := bl_cell hb2 c0
  have d1 := bl_cell hb2 c1
  have d2 := bl_cell hb2 c2
  have d3 := bl_cell hb2 c3
  have d4 := bl_cell hb2 c4
  have d5 := bl_cell hb2 c5
  have d6 := bl_cell hb2 c6
  have d7 := bl_cell hb2 c7
  have d8 := bl_cell hb2 c8
  have d9 := bl_cell hb2 c9
  have d10 := bl_cell hb2 c10
  have d11 := bl_cell hb2 c11
  have d12 := bl_cell hb2 c12
  have dR := res_bl hR hb2
  have dB := bl_then hB hb2
  have dA := acts_bl hA hb2
  clear hR hB hA hb2 c0 c1 c2 c3 c4 c5 c6 c7 c8 c9 c10 c11 c12
  go_wp2_with fail
  refine wp_region_held_drew (S := fun w' => w'.cell? ⟨w.heap.size, 0, none⟩ = some (.int .i64 k) ∧ w'.cell? ⟨w.heap.size, 1, none⟩ = some (.int .i64 l) ∧ w'.cell? ⟨w.heap.size, 2, none⟩ = some (.int .i64 d) ∧ w'.cell? ⟨w.heap.size, 3, none⟩ = some (.int .i64 b) ∧ w'.cell? ⟨w.heap.size, 4, none⟩ = some (.int .i64 cc) ∧ w'.cell? ⟨w.heap.size, 5, none⟩ = some (.bool o) ∧ w'.cell? ⟨w.heap.size + 1, 0, none⟩ = some (.int .i64 at_) ∧ w'.cell? ⟨w.heap.size + 1, 1, none⟩ = some (.int .i64 level) ∧ w'.cell? ⟨w.heap.size + 1, 2, none⟩ = some (.int .i64 held) ∧ w'.cell? ⟨w.heap.size + 1, 3, none⟩ = some (.slice a 0 c) ∧ w'.cell? ⟨w.heap.size + 1 + 1, 0, none⟩ = some (.int .i64 2) ∧ w'.cell? ⟨w.heap.size + 1 + 1, 1, none⟩ = some (.int .i64 anow) ∧ w'.cell? ⟨w.heap.size + 1 + 1, 2, none⟩ = some (.int .i64 acost) ∧ ResB w' (w.heap.size + 1 + 1 + 1) ∧ Below w.heap.size w w') (by kernel_rfl) ?_ (fun hHeld => ?_)
  · exact ⟨d0, d1, d2, d3, d4, d5, d6, d7, d8, d9, d10, d11, d12, dR, bl_drew dB⟩
  try simp only [Act.put, List.setIfInBounds_toArray, List.set_cons_zero, List.set_cons_succ]
  refine wpAnyH_abs (F := fun W => ActsAt W qr q1 q2) hHeld dA (fun W3 hHeld hA => ?_)
  clear dA dR dB d0 d1 d2 d3 d4 d5 d6 d7 d8 d9 d10 d11 d12
  (refine tk (i := 0) rfl rfl hHeld ?_)
  (refine tk (i := 1) rfl rfl hHeld ?_)
  (refine tk (i := 2) rfl rfl hHeld ?_)
  (refine tk (i := 3) rfl rfl hHeld ?_)
  (refine tk (i := 4) rfl rfl hHeld ?_)
  (refine tk (i := 5) rfl rfl hHeld ?_)
  (refine tk (i := 7) rfl rfl hHeld ?_)
  (refine tk (i := 8) rfl rfl hHeld ?_)
  refine callC2 (i := 6) (j := 13) rfl rfl (fun K hK => ?_) (fun K hK => ?_)
  · go_simp
    refine (HAV.out _).mono ?_
    rintro e w4 ⟨rfl, hb⟩
    go_wp2_with fail
    refine hK.out _ _ ?_ (fun hHeld' => ?_)
    · (try dsimp only)
      (obtain ⟨h0, h1, h2, h3, h4, h5, h6, h7, h8, h9, h10, h11, h12, hr', hB'⟩ := hHeld; exact ⟨bl_cell hb h0, bl_cell hb h1, bl_cell hb h2, bl_cell hb h3, bl_cell hb h4, bl_cell hb h5, bl_cell hb h6, bl_cell hb h7, bl_cell hb h8, bl_cell hb h9, bl_cell hb h10, bl_cell hb h11, bl_cell hb h12, res_bl hr' hb, bl_then hB' hb⟩)
    clear hHeld hK K
    rename _ => hHeld
    replace hA := acts_bl hA hb
    clear hb
    try simp only [Act.put, List.setIfInBounds_toArray, List.set_cons_zero, List.set_cons_succ]
    refine callC2 (i := 9) (j := 13) rfl rfl (fun K hK => ?_) (fun K hK => ?_)
    · go_simp
      refine (HAC.out _ _ hA.1).mono ?_
      rintro e w5 ⟨rfl, hb⟩
      go_wp2_with fail
      refine hK.out _ _ ?_ (fun hHeld' => ?_)
      · (try dsimp only)
        (obtain ⟨h0, h1, h2, h3, h4, h5, h6, h7, h8, h9, h10, h11, h12, hr', hB'⟩ := hHeld; exact ⟨bl_cell hb h0, bl_cell hb h1, bl_cell hb h2, bl_cell hb h3, bl_cell hb h4, bl_cell hb h5, bl_cell hb h6, bl_cell hb h7, bl_cell hb h8, bl_cell hb h9, bl_cell hb h10, bl_cell hb h11, bl_cell hb h12, res_bl hr' hb, bl_then hB' hb⟩)
      clear hHeld hK K
      rename _ => hHeld
      replace hA := acts_bl hA hb
      clear hb
      try simp only [Act.put, List.setIfInBounds_toArray, List.set_cons_zero, List.set_cons_succ]
      (refine tk (i := 10) rfl rfl hHeld ?_)
      (refine tk (i := 11) rfl rfl hHeld ?_)
      (refine tk (i := 12) rfl rfl hHeld ?_)
      refine callC (i := 13) rfl (fun K hK => ?_)
      have hlt : w.heap.size + 1 + 1 + 1 < w5.heap.size := by (obtain ⟨h0, h1, h2, h3, h4, h5, h6, h7, h8, h9, h10, h11, h12, hr', hB'⟩ := hHeld; exact res_lt hr')
      go_simp
      refine hK.out _ _ ?_ (fun hHeld' => ?_)
      · (try dsimp only)
        (obtain ⟨h0, h1, h2, h3, h4, h5, h6, h7, h8, h9, h10, h11, h12, hr', hB'⟩ := hHeld; exact ⟨bl_cell (bl_alloc (bl_refl _) _) h0, bl_cell (bl_alloc (bl_refl _) _) h1, bl_cell (bl_alloc (bl_refl _) _) h2, bl_cell (bl_alloc (bl_refl _) _) h3, bl_cell (bl_alloc (bl_refl _) _) h4, bl_cell (bl_alloc (bl_refl _) _) h5, bl_cell (bl_alloc (bl_refl _) _) h6, bl_cell (bl_alloc (bl_refl _) _) h7, bl_cell (bl_alloc (bl_refl _) _) h8, bl_cell (bl_alloc (bl_refl _) _) h9, bl_cell (bl_alloc (bl_refl _) _) h10, bl_cell (bl_alloc (bl_refl _) _) h11, bl_cell (bl_alloc (bl_refl _) _) h12, res_bl hr' (bl_alloc (bl_refl _) _), bl_alloc hB' _⟩)
      clear hHeld hK K
      rename _ => hHeld
      try simp only [Act.put, List.setIfInBounds_toArray, List.set_cons_zero, List.set_cons_succ]
      refine wpAnyH_abs (F := fun X => ActsAt X qr q1 q2 ∧ ResB X w5.heap.size) hHeld ⟨acts_bl hA (bl_alloc (bl_refl _) _), res_new _ _ _ _ _ _ rfl⟩ (fun w6 hHeld hAN => ?_)
      clear hA
      obtain ⟨hA, hN⟩ := hAN
      generalize w5.heap.size = nb at *
      refine callC (i := 14) rfl (fun K hK => ?_)
      obtain ⟨h0, h1, h2, h3, h4, h5, h6, h7, h8, h9, h10, h11, h12, hr', hB'⟩ := hHeld
      obtain ⟨f0, f1, f2, f3, u0, u1, u2, u3, i0, i1, i2, i3⟩ := res_all hN
      clear hHeld
      have hHeld : True := trivial
      go_simp
      refine hK.out _ _ ?_ (fun hHeld' => ?_)
      · (try dsimp only)
        (have e0 : nb ≠ w.heap.size := (by omega); have e1 : nb ≠ w.heap.size + 1 := (by omega); have e2 : nb ≠ w.heap.size + 1 + 1 := (by omega); exact ⟨far4 h0 e0, far4 h1 e0, far4 h2 e0, far4 h3 e0, far4 h4 e0, far4 h5 e0, far4 h6 e1, far4 h7 e1, far4 h8 e1, far4 h9 e1, far4 h10 e2, far4 h11 e2, far4 h12 e2, res4 hr', bl4 hB' (by omega)⟩)
      clear hHeld hK K
      rename _ => hHeld
      try simp only [Act.put, List.setIfInBounds_toArray, List.set_cons_zero, List.set_cons_succ]
      (refine tk (i := 15) rfl rfl hHeld ?_)
      refine wpAnyH_done (by kernel_rfl) ?_ _
      obtain ⟨h0, h1, h2, h3, h4, h5, h6, h7, h8, h9, h10, h11, h12, hr'', hE⟩ := hHeld
      refine then_abs (F := fun X => (X.cell? ⟨nb, 0, none⟩ = some (.int .i64 aat) ∧ X.cell? ⟨nb, 1, none⟩ = some (.int .i64 (alv - acost * d)) ∧ X.cell? ⟨nb, 2, none⟩ = some (.int .i64 (ahd + acost)) ∧ X.cell? ⟨nb, 3, none⟩ = some (.slice none 0 0)) ∧ X.cell? ⟨w.heap.size + 1, 0, none⟩ = some (.int .i64 at_) ∧ X.cell? ⟨w.heap.size + 1, 1, none⟩ = some (.int .i64 level) ∧ X.cell? ⟨w.heap.size + 1, 2, none⟩ = some (.int .i64 held) ∧ X.cell? ⟨w.heap.size + 1, 3, none⟩ = some (.slice a 0 c) ∧ ResB X (w.heap.size + 1 + 1 + 1) ∧ Below w.heap.size w X) ⟨set4 _ _ _ _ i0 i1 i2 i3, h6, h7, h8, h9, hr'', hE⟩ ?_
      rintro X ⟨⟨x0, x1, x2, x3⟩, c6, c7, c8, c9, hR, hE⟩
      obtain ⟨F0, F1, F2, F3, U0, U1, U2, U3, I0, I1, I2, I3⟩ := res_all hR
      clear hA hN hr' hB' hr'' i0 i1 i2 i3 f0 f1 f2 f3 u0 u1 u2 u3 hR h0 h1 h2 h3 h4 h5 h6 h7 h8 h9 h10 h11 h12
      cases g
      · repeat go_step
        (try simp only [Exit.inBlock, Exit.then])
        refine bodyPost_ret (results_state2 rfl _ _ (by rfl) (set4 _ _ _ _ I0 I1 I2 I3)) rfl ⟨by first | rfl | simp, bl4 hE (by omega)⟩
      · repeat go_step
        (try simp only [Exit.inBlock, Exit.then])
        refine bodyPost_ret (results_state2 rfl _ _ (by rfl) (set4 _ _ _ _ I0 I1 I2 I3)) rfl ⟨by first | rfl | simp, bl4 hE (by omega)⟩
    · have hlt : w.heap.size + 1 + 1 + 1 < w4.heap.size := by (obtain ⟨h0, h1, h2, h3, h4, h5, h6, h7, h8, h9, h10, h11, h12, hr', hB'⟩ := hHeld; exact res_lt hr')
      go_simp
      refine hK.out _ _ ?_ (fun hHeld' => ?_)
      · (try dsimp only)
        (obtain ⟨h0, h1, h2, h3, h4, h5, h6, h7, h8, h9, h10, h11, h12, hr', hB'⟩ := hHeld; exact ⟨bl_cell (bl_alloc (bl_refl _) _) h0, bl_cell (bl_alloc (bl_refl _) _) h1, bl_cell (bl_alloc (bl_refl _) _) h2, bl_cell (bl_alloc (bl_refl _) _) h3, bl_cell (bl_alloc (bl_refl _) _) h4, bl_cell (bl_alloc (bl_refl _) _) h5, bl_cell (bl_alloc (bl_refl _) _) h6, bl_cell (bl_alloc (bl_refl _) _) h7, bl_cell (bl_alloc (bl_refl _) _) h8, bl_cell (bl_alloc (bl_refl _) _) h9, bl_cell (bl_alloc (bl_refl _) _) h10, bl_cell (bl_alloc (bl_refl _) _) h11, bl_cell (bl_alloc (bl_refl _) _) h12, res_bl hr' (bl_alloc (bl_refl _) _), bl_alloc hB' _⟩)
      clear hHeld hK K
      rename _ => hHeld
      try simp only [Act.put, List.setIfInBounds_toArray, List.set_cons_zero, List.set_cons_succ]
      refine wpAnyH_abs (F := fun X => ActsAt X qr q1 q2 ∧ ResB X w4.heap.size) hHeld ⟨acts_bl hA (bl_alloc (bl_refl _) _), res_new _ _ _ _ _ _ rfl⟩ (fun w5 hHeld hAN => ?_)
      clear hA
      obtain ⟨hA, hN⟩ := hAN
      generalize w4.heap.size = nb at *
      refine callC (i := 9) rfl (fun K hK => ?_)
      go_simp
      refine (HAC.out _ _ hA.1).mono ?_
      rintro e w6 ⟨rfl, hb⟩
      go_wp2_with fail
      refine hK.out _ _ ?_ (fun hHeld' => ?_)
      · (try dsimp only)
        (obtain ⟨h0, h1, h2, h3, h4, h5, h6, h7, h8, h9, h10, h11, h12, hr', hB'⟩ := hHeld; exact ⟨bl_cell hb h0, bl_cell hb h1, bl_cell hb h2, bl_cell hb h3, bl_cell hb h4, bl_cell hb h5, bl_cell hb h6, bl_cell hb h7, bl_cell hb h8, bl_cell hb h9, bl_cell hb h10, bl_cell hb h11, bl_cell hb h12, res_bl hr' hb, bl_then hB' hb⟩)
      clear hHeld hK K
      rename _ => hHeld
      replace hA := acts_bl hA hb
      replace hN := res_bl hN hb
      clear hb
      try simp only [Act.put, List.setIfInBounds_toArray, List.set_cons_zero, List.set_cons_succ]
      (refine tk (i := 10) rfl rfl hHeld ?_)
      (refine tk (i := 11) rfl rfl hHeld ?_)
      (refine tk (i := 12) rfl rfl hHeld ?_)
      refine callC (i := 14) rfl (fun K hK => ?_)
      obtain ⟨h0, h1, h2, h3, h4, h5, h6, h7, h8, h9, h10, h11, h12, hr', hB'⟩ := hHeld
      obtain ⟨f0, f1, f2, f3, u0, u1, u2, u3, i0, i1, i2, i3⟩ := res_all hN
      clear hHeld
      have hHeld : True := trivial
      go_simp
      refine hK.out _ _ ?_ (fun hHeld' => ?_)
      · (try dsimp only)
        (have e0 : nb ≠ w.heap.size := (by omega); have e1 : nb ≠ w.heap.size + 1 := (by omega); have e2 : nb ≠ w.heap.size + 1 + 1 := (by omega); exact ⟨far4 h0 e0, far4 h1 e0, far4 h2 e0, far4 h3 e0, far4 h4 e0, far4 h5 e0, far4 h6 e1, far4 h7 e1, far4 h8 e1, far4 h9 e1, far4 h10 e2, far4 h11 e2, far4 h12 e2, res4 hr', bl4 hB' (by omega)⟩)
      clear hHeld hK K
      rename _ => hHeld
      try simp only [Act.put, List.setIfInBounds_toArray, List.set_cons_zero, List.set_cons_succ]
      (refine tk (i := 15) rfl rfl hHeld ?_)
      refine wpAnyH_done (by kernel_rfl) ?_ _
      obtain ⟨h0, h1, h2, h3, h4, h5, h6, h7, h8, h9, h10, h11, h12, hr'', hE⟩ := hHeld
      refine then_abs (F := fun X => (X.cell? ⟨nb, 0, none⟩ = some (.int .i64 aat) ∧ X.cell? ⟨nb, 1, none⟩ = some (.int .i64 (alv - acost * d)) ∧ X.cell? ⟨nb, 2, none⟩ = some (.int .i64 (ahd + acost)) ∧ X.cell? ⟨nb, 3, none⟩ = some (.slice none 0 0)) ∧ X.cell? ⟨w.heap.size + 1, 0, none⟩ = some (.int .i64 at_) ∧ X.cell? ⟨w.heap.size + 1, 1, none⟩ = some (.int .i64 level) ∧ X.cell? ⟨w.heap.size + 1, 2, none⟩ = some (.int .i64 held) ∧ X.cell? ⟨w.heap.size + 1, 3, none⟩ = some (.slice a 0 c) ∧ ResB X (w.heap.size + 1 + 1 + 1) ∧ Below w.heap.size w X) ⟨set4 _ _ _ _ i0 i1 i2 i3, h6, h7, h8, h9, hr'', hE⟩ ?_
      rintro X ⟨⟨x0, x1, x2, x3⟩, c6, c7, c8, c9, hR, hE⟩
      obtain ⟨F0, F1, F2, F3, U0, U1, U2, U3, I0, I1, I2, I3⟩ := res_all hR
      clear hA hN hr' hB' hr'' i0 i1 i2 i3 f0 f1 f2 f3 u0 u1 u2 u3 hR h0 h1 h2 h3 h4 h5 h6 h7 h8 h9 h10 h11 h12
      cases g
      · repeat go_step
        (try simp only [Exit.inBlock, Exit.then])
        refine bodyPost_ret (results_state2 rfl _ _ (by rfl) (set4 _ _ _ _ I0 I1 I2 I3)) rfl ⟨by first | rfl | simp, bl4 hE (by omega)⟩
      · repeat go_step
        (try simp only [Exit.inBlock, Exit.then])
        refine bodyPost_ret (results_state2 rfl _ _ (by rfl) (set4 _ _ _ _ I0 I1 I2 I3)) rfl ⟨by first | rfl | simp, bl4 hE (by omega)⟩
  · have hlt : w.heap.size + 1 + 1 + 1 < W3.heap.size := by (obtain ⟨h0, h1, h2, h3, h4, h5, h6, h7, h8, h9, h10, h11, h12, hr', hB'⟩ := hHeld; exact res_lt hr')
    go_simp
    refine hK.out _ _ ?_ (fun hHeld' => ?_)
    · (try dsimp only)
      (obtain ⟨h0, h1, h2, h3, h4, h5, h6, h7, h8, h9, h10, h11, h12, hr', hB'⟩ := hHeld; exact ⟨bl_cell (bl_alloc (bl_refl _) _) h0, bl_cell (bl_alloc (bl_refl _) _) h1, bl_cell (bl_alloc (bl_refl _) _) h2, bl_cell (bl_alloc (bl_refl _) _) h3, bl_cell (bl_alloc (bl_refl _) _) h4, bl_cell (bl_alloc (bl_refl _) _) h5, bl_cell (bl_alloc (bl_refl _) _) h6, bl_cell (bl_alloc (bl_refl _) _) h7, bl_cell (bl_alloc (bl_refl _) _) h8, bl_cell (bl_alloc (bl_refl _) _) h9, bl_cell (bl_alloc (bl_refl _) _) h10, bl_cell (bl_alloc (bl_refl _) _) h11, bl_cell (bl_alloc (bl_refl _) _) h12, res_bl hr' (bl_alloc (bl_refl _) _), bl_alloc hB' _⟩)
    clear hHeld hK K
    rename _ => hHeld
    try simp only [Act.put, List.setIfInBounds_toArray, List.set_cons_zero, List.set_cons_succ]
    refine wpAnyH_abs (F := fun X => ActsAt X qr q1 q2 ∧ ResB X W3.heap.size) hHeld ⟨acts_bl hA (bl_alloc (bl_refl _) _), res_new _ _ _ _ _ _ rfl⟩ (fun w4 hHeld hAN => ?_)
    clear hA
    obtain ⟨hA, hN⟩ := hAN
    generalize W3.heap.size = nb at *
    refine callC (i := 6) rfl (fun K hK => ?_)
    go_simp
    refine (HAV.out _).mono ?_
    rintro e w5 ⟨rfl, hb⟩
    go_wp2_with fail
    refine hK.out _ _ ?_ (fun hHeld' => ?_)
    · (try dsimp only)
      (obtain ⟨h0, h1, h2, h3, h4, h5, h6, h7, h8, h9, h10, h11, h12, hr', hB'⟩ := hHeld; exact ⟨bl_cell hb h0, bl_cell hb h1, bl_cell hb h2, bl_cell hb h3, bl_cell hb h4, bl_cell hb h5, bl_cell hb h6, bl_cell hb h7, bl_cell hb h8, bl_cell hb h9, bl_cell hb h10, bl_cell hb h11, bl_cell hb h12, res_bl hr' hb, bl_then hB' hb⟩)
    clear hHeld hK K
    rename _ => hHeld
    replace hA := acts_bl hA hb
    replace hN := res_bl hN hb
    clear hb
    try simp only [Act.put, List.setIfInBounds_toArray, List.set_cons_zero, List.set_cons_succ]
    refine callC (i := 9) rfl (fun K hK => ?_)
    go_simp
    refine (HAC.out _ _ hA.1).mono ?_
    rintro e w6 ⟨rfl, hb⟩
    go_wp2_with fail
    refine hK.out _ _ ?_ (fun hHeld' => ?_)
    · (try dsimp only)
      (obtain ⟨h0, h1, h2, h3, h4, h5, h6, h7, h8, h9, h10, h11, h12, hr', hB'⟩ := hHeld; exact ⟨bl_cell hb h0, bl_cell hb h1, bl_cell hb h2, bl_cell hb h3, bl_cell hb h4, bl_cell hb h5, bl_cell hb h6, bl_cell hb h7, bl_cell hb h8, bl_cell hb h9, bl_cell hb h10, bl_cell hb h11, bl_cell hb h12, res_bl hr' hb, bl_then hB' hb⟩)
    clear hHeld hK K
    rename _ => hHeld
    replace hA := acts_bl hA hb
    replace hN := res_bl hN hb
    clear hb
    try simp only [Act.put, List.setIfInBounds_toArray, List.set_cons_zero, List.set_cons_succ]
    (refine tk (i := 10) rfl rfl hHeld ?_)
    (refine tk (i := 11) rfl rfl hHeld ?_)
    (refine tk (i := 12) rfl rfl hHeld ?_)
    refine callC (i := 14) rfl (fun K hK => ?_)
    obtain ⟨h0, h1, h2, h3, h4, h5, h6, h7, h8, h9, h10, h11, h12, hr', hB'⟩ := hHeld
    obtain ⟨f0, f1, f2, f3, u0, u1, u2, u3, i0, i1, i2, i3⟩ := res_all hN
    clear hHeld
    have hHeld : True := trivial
    go_simp
    refine hK.out _ _ ?_ (fun hHeld' => ?_)
    · (try dsimp only)
      (have e0 : nb ≠ w.heap.size := (by omega); have e1 : nb ≠ w.heap.size + 1 := (by omega); have e2 : nb ≠ w.heap.size + 1 + 1 := (by omega); exact ⟨far4 h0 e0, far4 h1 e0, far4 h2 e0, far4 h3 e0, far4 h4 e0, far4 h5 e0, far4 h6 e1, far4 h7 e1, far4 h8 e1, far4 h9 e1, far4 h10 e2, far4 h11 e2, far4 h12 e2, res4 hr', bl4 hB' (by omega)⟩)
    clear hHeld hK K
    rename _ => hHeld
    try simp only [Act.put, List.setIfInBounds_toArray, List.set_cons_zero, List.set_cons_succ]
    (refine tk (i := 15) rfl rfl hHeld ?_)
    refine wpAnyH_done (by kernel_rfl) ?_ _
    obtain ⟨h0, h1, h2, h3, h4, h5, h6, h7, h8, h9, h10, h11, h12, hr'', hE⟩ := hHeld
    refine then_abs (F := fun X => (X.cell? ⟨nb, 0, none⟩ = some (.int .i64 aat) ∧ X.cell? ⟨nb, 1, none⟩ = some (.int .i64 (alv - acost * d)) ∧ X.cell? ⟨nb, 2, none⟩ = some (.int .i64 (ahd + acost)) ∧ X.cell? ⟨nb, 3, none⟩ = some (.slice none 0 0)) ∧ X.cell? ⟨w.heap.size + 1, 0, none⟩ = some (.int .i64 at_) ∧ X.cell? ⟨w.heap.size + 1, 1, none⟩ = some (.int .i64 level) ∧ X.cell? ⟨w.heap.size + 1, 2, none⟩ = some (.int .i64 held) ∧ X.cell? ⟨w.heap.size + 1, 3, none⟩ = some (.slice a 0 c) ∧ ResB X (w.heap.size + 1 + 1 + 1) ∧ Below w.heap.size w X) ⟨set4 _ _ _ _ i0 i1 i2 i3, h6, h7, h8, h9, hr'', hE⟩ ?_
    rintro X ⟨⟨x0, x1, x2, x3⟩, c6, c7, c8, c9, hR, hE⟩
    obtain ⟨F0, F1, F2, F3, U0, U1, U2, U3, I0, I1, I2, I3⟩ := res_all hR
    clear hA hN hr' hB' hr'' i0 i1 i2 i3 f0 f1 f2 f3 u0 u1 u2 u3 hR h0 h1 h2 h3 h4 h5 h6 h7 h8 h9 h10 h11 h12
    cases g
    · repeat go_step
      (try simp only [Exit.inBlock, Exit.then])
      refine bodyPost_ret (results_state2 rfl _ _ (by rfl) (set4 _ _ _ _ I0 I1 I2 I3)) rfl ⟨by first | rfl | simp, bl4 hE (by omega)⟩
    · repeat go_step
      (try simp only [Exit.inBlock, Exit.then])
      refine bodyPost_ret (results_state2 rfl _ _ (by rfl) (set4 _ _ _ _ I0 I1 I2 I3)) rfl ⟨by first | rfl | simp, bl4 hE (by omega)⟩

set_option maxHeartbeats 2000000 in
set_option maxRecDepth 100000 in
theorem bdo_3 (p : Pol) (s : St) (a : Option Addr) (c : Nat) (anow acost : Int) (w : World) (h : rightB p s) (hc1 : 1 ≤ acost) (hc2 : acost ≤ p.burst) :
    Calls Try.prog 17 #[p.v, s.v a 0 c, .agg #[.int .i64 3, .int .i64 anow, .int .i64 acost]] w fun e w' =>
      e = .returned (.tuple #[if (actB p (advB p s anow) ⟨3, anow, acost⟩).2 then (actB p (advB p s anow) ⟨3, anow, acost⟩).1.v none 0 0 else s.v a 0 c, .bool (actB p (advB p s anow) ⟨3, anow, acost⟩).2]) ∧ Below w.heap.size w w' := by
  have hlg := h.2.2.2.2.2.2.2
  have hrt := bright_any p s a 0 c (by rw [hlg]; rfl)
  have hav := badv_any p s a 0 c anow (by rw [hlg]; rfl)
  rw [decide_eq_true h] at hrt
  have hok := h.1
  have hlv := advB_level p s anow h
  have hhd := advB_held p s anow h
  have hr3 := h.2.2.2.1
  have hr4 := h.2.2.2.2.1
  generalize advB p s anow = A at *
  clear h
  obtain ⟨k, l, d, b, cc, o⟩ := p
  obtain ⟨at_, level, held, lg⟩ := s
  obtain ⟨aat, alv, ahd, alg⟩ := A
  unfold actB
  unfold St.v Pol.v at *
  dsimp only at *
  simp only [show ((1 : Int) = 1) = True from eq_true rfl, show ((2 : Int) = 1) = False from eq_false (by decide), show ((2 : Int) = 2) = True from eq_true rfl, show ((3 : Int) = 1) = False from eq_false (by decide), show ((3 : Int) = 2) = False from eq_false (by decide), show ((3 : Int) = 3) = True from eq_true rfl, show ((4 : Int) = 1) = False from eq_false (by decide), show ((4 : Int) = 2) = False from eq_false (by decide), show ((4 : Int) = 3) = False from eq_false (by decide), show ((4 : Int) = 4) = True from eq_true rfl, if_true, if_false]
  obtain ⟨z0, z1, z2, z3, z4, z5, z6, z7⟩ := hok
  dsimp only at *
  have hM : acost * d ≤ 1152921504606846976 := prod_le (by omega) (by omega) (by omega)
  have hM0 : 0 ≤ acost * d := Int.mul_nonneg (by omega) (by omega)
  have hw1 : IntKind.i64.wrap (acost * d) = acost * d := IntWalk.i64_in _ (by omega)
  have hw0 : IntKind.i64.wrap (alv + acost * d) = alv + acost * d := IntWalk.i64_in _ (by omega)
  have hw2 : IntKind.i64.wrap (ahd - acost) = ahd - acost := IntWalk.i64_in _ (by omega)
  have HAC := Go.Lib.hid (fun q w hq => brelease_any k l d b cc o aat alv ahd acost none 0 0 q w hw0 hw1 hw2 hq)
  have HRT := Go.Lib.hid hrt
  have HAV := Go.Lib.hid hav
  have hb1 : ¬ acost < 1 := by omega
  have hb2 : ¬ b < acost := by omega
  clear hrt hav hlv hhd hM hM0 z0 z1 z2 z3 z4 z5 z6 z7 hr3 hr4 hc1 hc2  hw0  hw1  hw2
  obtain ⟨g, hg⟩ : ∃ g, decide (0 ≤ ahd - acost) = g := ⟨_, rfl⟩
  rw [hg] at HAC ⊢
  go_enter Try.func17, Try.ntmps17
  go_wp2_with fail
  refine wp_abs (S0 := fun w' => w'.cell? ⟨w.heap.size, 0, none⟩ = some (.int .i64 k) ∧ w'.cell? ⟨w.heap.size, 1, none⟩ = some (.int .i64 l) ∧ w'.cell? ⟨w.heap.size, 2, none⟩ = some (.int .i64 d) ∧ w'.cell? ⟨w.heap.size, 3, none⟩ = some (.int .i64 b) ∧ w'.cell? ⟨w.heap.size, 4, none⟩ = some (.int .i64 cc) ∧ w'.cell? ⟨w.heap.size, 5, none⟩ = some (.bool o) ∧ w'.cell? ⟨w.heap.size + 1, 0, none⟩ = some (.int .i64 at_) ∧ w'.cell? ⟨w.heap.size + 1, 1, none⟩ = some (.int .i64 level) ∧ w'.cell? ⟨w.heap.size + 1, 2, none⟩ = some (.int .i64 held) ∧ w'.cell? ⟨w.heap.size + 1, 3, none⟩ = some (.slice a 0 c) ∧ w'.cell? ⟨w.heap.size + 1 + 1, 0, none⟩ = some (.int .i64 3) ∧ w'.cell? ⟨w.heap.size + 1 + 1, 1, none⟩ = some (.int .i64 anow) ∧ w'.cell? ⟨w.heap.size + 1 + 1, 2, none⟩ = some (.int .i64 acost) ∧ ResB w' (w.heap.size + 1 + 1 + 1) ∧ Below w.heap.size w w') ⟨by go_simp, by go_simp, by go_simp, by go_simp, by go_simp, by go_simp, by go_simp, by go_simp, by go_simp, by go_simp, by go_simp, by go_simp, by go_simp, res_new _ _ _ _ _ _ (by simp), bl_alloc (bl_alloc (bl_alloc (bl_alloc (bl_refl _) _) _) _) _⟩ ?_
  rintro W ⟨c0, c1, c2, c3, c4, c5, c6, c7, c8, c9, c10, c11, c12, hR, hB⟩
  refine wp_region_held_drew (S := fun w' => w'.cell? ⟨w.heap.size, 0, none⟩ = some (.int .i64 k) ∧ w'.cell? ⟨w.heap.size, 1, none⟩ = some (.int .i64 l) ∧ w'.cell? ⟨w.heap.size, 2, none⟩ = some (.int .i64 d) ∧ w'.cell? ⟨w.heap.size, 3, none⟩ = some (.int .i64 b) ∧ w'.cell? ⟨w.heap.size, 4, none⟩ = some (.int .i64 cc) ∧ w'.cell? ⟨w.heap.size, 5, none⟩ = some (.bool o) ∧ w'.cell? ⟨w.heap.size + 1, 0, none⟩ = some (.int .i64 at_) ∧ w'.cell? ⟨w.heap.size + 1, 1, none⟩ = some (.int .i64 level) ∧ w'.cell? ⟨w.heap.size + 1, 2, none⟩ = some (.int .i64 held) ∧ w'.cell? ⟨w.heap.size + 1, 3, none⟩ = some (.slice a 0 c) ∧ w'.cell? ⟨w.heap.size + 1 + 1, 0, none⟩ = some (.int .i64 3) ∧ w'.cell? ⟨w.heap.size + 1 + 1, 1, none⟩ = some (.int .i64 anow) ∧ w'.cell? ⟨w.heap.size + 1 + 1, 2, none⟩ = some (.int .i64 acost) ∧ ResB w' (w.heap.size + 1 + 1 + 1) ∧ Below w.heap.size w w') (by kernel_rfl) ?_ (fun hHeld => ?_)
  · exact ⟨c0, c1, c2, c3, c4, c5, c6, c7, c8, c9, c10, c11, c12, hR, bl_drew hB⟩
  try simp only [Act.put, List.setIfInBounds_toArray, List.set_cons_zero, List.set_cons_succ]
  (refine tk (i := 1) rfl rfl hHeld ?_)
  (refine tk (i := 2) rfl rfl hHeld ?_)
  (refine callC (i := 0) rfl (fun K hK => ?_); go_simp; refine (acts_any _).mono ?_; rintro e w1 ⟨rfl, hA, hb⟩; generalize W.drew.heap.size + 1 + 1 = qr at *; generalize W.drew.heap.size + 1 = q2 at *; generalize W.drew.heap.size = q1 at hA; go_wp2_with fail; refine hK.out _ _ ?_ (fun hHeld' => ?_); (focus ((try dsimp only); (obtain ⟨h0, h1, h2, h3, h4, h5, h6, h7, h8, h9, h10, h11, h12, hr', hB'⟩ := hHeld; exact ⟨bl_cell hb h0, bl_cell hb h1, bl_cell hb h2, bl_cell hb h3, bl_cell hb h4, bl_cell hb h5, bl_cell hb h6, bl_cell hb h7, bl_cell hb h8, bl_cell hb h9, bl_cell hb h10, bl_cell hb h11, bl_cell hb h12, res_bl hr' hb, bl_then hB' hb⟩))); clear hHeld hK K; rename _ => hHeld; try simp only [Act.put, List.setIfInBounds_toArray, List.set_cons_zero, List.set_cons_succ])
  have hlk := acts_look hA 3
  unfold actF at hlk
  simp at hlk
  (refine callC (i := 3) rfl (fun K hK => ?_); go_simp; refine hK.out _ _ ?_ (fun hHeld' => ?_); (focus ((try dsimp only); exact hHeld)); clear hHeld hK K; rename _ => hHeld; clear hlk; try simp only [Act.put, List.setIfInBounds_toArray, List.set_cons_zero, List.set_cons_succ])
  (refine tk (i := 4) rfl rfl hHeld ?_)
  (refine tk (i := 5) rfl rfl hHeld ?_)
  (refine tk (i := 6) rfl rfl hHeld ?_)
  (refine tk (i := 7) rfl rfl hHeld ?_)
  (refine tk (i := 8) rfl rfl hHeld ?_)
  refine wpAnyH_done (by kernel_rfl) ?_ _
  clear c0 hR hB
  obtain ⟨c0, c1, c2, c3, c4, c5, c6, c7, c8, c9, c10, c11, c12, hR, hB⟩ := hHeld
  try clear hHeld
  go_wp2_with fail
  refine (HRT.out _).mono ?_
  rintro e w2 ⟨rfl, hb2⟩
  have d0 := bl_cell hb2 c0
  have d1 := bl_cell hb2 c1
  have d2 := bl_cell hb2 c2
  have d3 := bl_cell hb2 c3
  have d4 := bl_cell hb2 c4
  have d5 := bl_cell hb2 c5
  have d6 := bl_cell hb2 c6
  have d7 := bl_cell hb2 c7
  have d8 := bl_cell hb2 c8
  have d9 := bl_cell hb2 c9
  have d10 := bl_cell hb2 c10
  have d11 := bl_cell hb2 c11
  have d12 := bl_cell hb2 c12
  have dR := res_bl hR hb2
  have dB := bl_then hB hb2
  have dA := acts_bl hA hb2
  clear hR hB hA hb2 c0 c1 c2 c3 c4 c5 c6 c7 c8 c9 c10 c11 c12
  go_wp2_with fail
  refine wp_region_held_drew (S := fun w' => w'.cell? ⟨w.heap.size, 0, none⟩ = some (.int .i64 k) ∧ w'.cell? ⟨w.heap.size, 1, none⟩ = some (.int .i64 l) ∧ w'.cell? ⟨w.heap.size, 2, none⟩ = some (.int .i64 d) ∧ w'.cell? ⟨w.heap.size, 3, none⟩ = some (.int .i64 b) ∧ w'.cell? ⟨w.heap.size, 4, none⟩ = some (.int .i64 cc) ∧ w'.cell? ⟨w.heap.size, 5, none⟩ = some (.bool o) ∧ w'.cell? ⟨w.heap.size + 1, 0, none⟩ = some (.int .i64 at_) ∧ w'.cell? ⟨w.heap.size + 1, 1, none⟩ = some (.int .i64 level) ∧ w'.cell? ⟨w.heap.size + 1, 2, none⟩ = some (.int .i64 held) ∧ w'.cell? ⟨w.heap.size + 1, 3, none⟩ = some (.slice a 0 c) ∧ w'.cell? ⟨w.heap.size + 1 + 1, 0, none⟩ = some (.int .i64 3) ∧ w'.cell? ⟨w.heap.size + 1 + 1, 1, none⟩ = some (.int .i64 anow) ∧ w'.cell? ⟨w.heap.size + 1 + 1, 2, none⟩ = some (.int .i64 acost) ∧ ResB w' (w.heap.size + 1 + 1 + 1) ∧ Below w.heap.size w w') (by kernel_rfl) ?_ (fun hHeld => ?_)
  · exact ⟨d0, d1, d2, d3, d4, d5, d6, d7, d8, d9, d10, d11, d12, dR, bl_drew dB⟩
  try simp only [Act.put, List.setIfInBounds_toArray, List.set_cons_zero, List.set_cons_succ]
  refine wpAnyH_abs (F := fun W => ActsAt W qr q1 q2) hHeld dA (fun W3 hHeld hA => ?_)
  clear dA dR dB d0 d1 d2 d3 d4 d5 d6 d7 d8 d9 d10 d11 d12
  (refine tk (i := 0) rfl rfl hHeld ?_)
  (refine tk (i := 1) rfl rfl hHeld ?_)
  (refine tk (i := 2) rfl rfl hHeld ?_)
  (refine tk (i := 3) rfl rfl hHeld ?_)
  (refine tk (i := 4) rfl rfl hHeld ?_)
  (refine tk (i := 5) rfl rfl hHeld ?_)
  (refine tk (i := 7) rfl rfl hHeld ?_)
  (refine tk (i := 8) rfl rfl hHeld ?_)
  refine callC2 (i := 6) (j := 13) rfl rfl (fun K hK => ?_) (fun K hK => ?_)
  · go_simp
    refine (HAV.out _).mono ?_
    rintro e w4 ⟨rfl, hb⟩
    go_wp2_with fail
    refine hK.out _ _ ?_ (fun hHeld' => ?_)
    · (try dsimp only)
      (obtain ⟨h0, h1, h2, h3, h4, h5, h6, h7, h8, h9, h10, h11, h12, hr', hB'⟩ := hHeld; exact ⟨bl_cell hb h0, bl_cell hb h1, bl_cell hb h2, bl_cell hb h3, bl_cell hb h4, bl_cell hb h5, bl_cell hb h6, bl_cell hb h7, bl_cell hb h8, bl_cell hb h9, bl_cell hb h10, bl_cell hb h11, bl_cell hb h12, res_bl hr' hb, bl_then hB' hb⟩)
    clear hHeld hK K
    rename _ => hHeld
    replace hA := acts_bl hA hb
    clear hb
    try simp only [Act.put, List.setIfInBounds_toArray, List.set_cons_zero, List.set_cons_succ]
    refine callC2 (i := 9) (j := 13) rfl rfl (fun K hK => ?_) (fun K hK => ?_)
    · go_simp
      refine (HAC.out _ _ hA.2.1).mono ?_
      rintro e w5 ⟨rfl, hb⟩
      go_wp2_with fail
      refine hK.out _ _ ?_ (fun hHeld' => ?_)
      · (try dsimp only)
        (obtain ⟨h0, h1, h2, h3, h4, h5, h6, h7, h8, h9, h10, h11, h12, hr', hB'⟩ := hHeld; exact ⟨bl_cell hb h0, bl_cell hb h1, bl_cell hb h2, bl_cell hb h3, bl_cell hb h4, bl_cell hb h5, bl_cell hb h6, bl_cell hb h7, bl_cell hb h8, bl_cell hb h9, bl_cell hb h10, bl_cell hb h11, bl_cell hb h12, res_bl hr' hb, bl_then hB' hb⟩)
      clear hHeld hK K
      rename _ => hHeld
      replace hA := acts_bl hA hb
      clear hb
      try simp only [Act.put, List.setIfInBounds_toArray, List.set_cons_zero, List.set_cons_succ]
      (refine tk (i := 10) rfl rfl hHeld ?_)
      (refine tk (i := 11) rfl rfl hHeld ?_)
      (refine tk (i := 12) rfl rfl hHeld ?_)
      refine callC (i := 13) rfl (fun K hK => ?_)
      have hlt : w.heap.size + 1 + 1 + 1 < w5.heap.size := by (obtain ⟨h0, h1, h2, h3, h4, h5, h6, h7, h8, h9, h10, h11, h12, hr', hB'⟩ := hHeld; exact res_lt hr')
      go_simp
      refine hK.out _ _ ?_ (fun hHeld' => ?_)
      · (try dsimp only)
        (obtain ⟨h0, h1, h2, h3, h4, h5, h6, h7, h8, h9, h10, h11, h12, hr', hB'⟩ := hHeld; exact ⟨bl_cell (bl_alloc (bl_refl _) _) h0, bl_cell (bl_alloc (bl_refl _) _) h1, bl_cell (bl_alloc (bl_refl _) _) h2, bl_cell (bl_alloc (bl_refl _) _) h3, bl_cell (bl_alloc (bl_refl _) _) h4, bl_cell (bl_alloc (bl_refl _) _) h5, bl_cell (bl_alloc (bl_refl _) _) h6, bl_cell (bl_alloc (bl_refl _) _) h7, bl_cell (bl_alloc (bl_refl _) _) h8, bl_cell (bl_alloc (bl_refl _) _) h9, bl_cell (bl_alloc (bl_refl _) _) h10, bl_cell (bl_alloc (bl_refl _) _) h11, bl_cell (bl_alloc (bl_refl _) _) h12, res_bl hr' (bl_alloc (bl_refl _) _), bl_alloc hB' _⟩)
      clear hHeld hK K
      rename _ => hHeld
      try simp only [Act.put, List.setIfInBounds_toArray, List.set_cons_zero, List.set_cons_succ]
      refine wpAnyH_abs (F := fun X => ActsAt X qr q1 q2 ∧ ResB X w5.heap.size) hHeld ⟨acts_bl hA (bl_alloc (bl_refl _) _), res_new _ _ _ _ _ _ rfl⟩ (fun w6 hHeld hAN => ?_)
      clear hA
      obtain ⟨hA, hN⟩ := hAN
      generalize w5.heap.size = nb at *
      refine callC (i := 14) rfl (fun K hK => ?_)
      obtain ⟨h0, h1, h2, h3, h4, h5, h6, h7, h8, h9, h10, h11, h12, hr', hB'⟩ := hHeld
      obtain ⟨f0, f1, f2, f3, u0, u1, u2, u3, i0, i1, i2, i3⟩ := res_all hN
      clear hHeld
      have hHeld : True := trivial
      go_simp
      refine hK.out _ _ ?_ (fun hHeld' => ?_)
      · (try dsimp only)
        (have e0 : nb ≠ w.heap.size := (by omega); have e1 : nb ≠ w.heap.size + 1 := (by omega); have e2 : nb ≠ w.heap.size + 1 + 1 := (by omega); exact ⟨far4 h0 e0, far4 h1 e0, far4 h2 e0, far4 h3 e0, far4 h4 e0, far4 h5 e0, far4 h6 e1, far4 h7 e1, far4 h8 e1, far4 h9 e1, far4 h10 e2, far4 h11 e2, far4 h12 e2, res4 hr', bl4 hB' (by omega)⟩)
      clear hHeld hK K
      rename _ => hHeld
      try simp only [Act.put, List.setIfInBounds_toArray, List.set_cons_zero, List.set_cons_succ]
      (refine tk (i := 15) rfl rfl hHeld ?_)
      refine wpAnyH_done (by kernel_rfl) ?_ _
      obtain ⟨h0, h1, h2, h3, h4, h5, h6, h7, h8, h9, h10, h11, h12, hr'', hE⟩ := hHeld
      refine then_abs (F := fun X => (X.cell? ⟨nb, 0, none⟩ = some (.int .i64 aat) ∧ X.cell? ⟨nb, 1, none⟩ = some (.int .i64 (alv + acost * d)) ∧ X.cell? ⟨nb, 2, none⟩ = some (.int .i64 (ahd - acost)) ∧ X.cell? ⟨nb, 3, none⟩ = some (.slice none 0 0)) ∧ X.cell? ⟨w.heap.size + 1, 0, none⟩ = some (.int .i64 at_) ∧ X.cell? ⟨w.heap.size + 1, 1, none⟩ = some (.int .i64 level) ∧ X.cell? ⟨w.heap.size + 1, 2, none⟩ = some (.int .i64 held) ∧ X.cell? ⟨w.heap.size + 1, 3, none⟩ = some (.slice a 0 c) ∧ ResB X (w.heap.size + 1 + 1 + 1) ∧ Below w.heap.size w X) ⟨set4 _ _ _ _ i0 i1 i2 i3, h6, h7, h8, h9, hr'', hE⟩ ?_
      rintro X ⟨⟨x0, x1, x2, x3⟩, c6, c7, c8, c9, hR, hE⟩
      obtain ⟨F0, F1, F2, F3, U0, U1, U2, U3, I0, I1, I2, I3⟩ := res_all hR
      clear hA hN hr' hB' hr'' i0 i1 i2 i3 f0 f1 f2 f3 u0 u1 u2 u3 hR h0 h1 h2 h3 h4 h5 h6 h7 h8 h9 h10 h11 h12
      cases g
      · repeat go_step
        (try simp only [Exit.inBlock, Exit.then])
        refine bodyPost_ret (results_state2 rfl _ _ (by rfl) (set4 _ _ _ _ I0 I1 I2 I3)) rfl ⟨by first | rfl | simp, bl4 hE (by omega)⟩
      · repeat go_step
        (try simp only [Exit.inBlock, Exit.then])
        refine bodyPost_ret (results_state2 rfl _ _ (by rfl) (set4 _ _ _ _ I0 I1 I2 I3)) rfl ⟨by first | rfl | simp, bl4 hE (by omega)⟩
    · have hlt : w.heap.size + 1 + 1 + 1 < w4.heap.size := by (obtain ⟨h0, h1, h2, h3, h4, h5, h6, h7, h8, h9, h10, h11, h12, hr', hB'⟩ := hHeld; exact res_lt hr')
      go_simp
      refine hK.out _ _ ?_ (fun hHeld' => ?_)
      · (try dsimp only)
        (obtain ⟨h0, h1, h2, h3, h4, h5, h6, h7, h8, h9, h10, h11, h12, hr', hB'⟩ := hHeld; exact ⟨bl_cell (bl_alloc (bl_refl _) _) h0, bl_cell (bl_alloc (bl_refl _) _) h1, bl_cell (bl_alloc (bl_refl _) _) h2, bl_cell (bl_alloc (bl_refl _) _) h3, bl_cell (bl_alloc (bl_refl _) _) h4, bl_cell (bl_alloc (bl_refl _) _) h5, bl_cell (bl_alloc (bl_refl _) _) h6, bl_cell (bl_alloc (bl_refl _) _) h7, bl_cell (bl_alloc (bl_refl _) _) h8, bl_cell (bl_alloc (bl_refl _) _) h9, bl_cell (bl_alloc (bl_refl _) _) h10, bl_cell (bl_alloc (bl_refl _) _) h11, bl_cell (bl_alloc (bl_refl _) _) h12, res_bl hr' (bl_alloc (bl_refl _) _), bl_alloc hB' _⟩)
      clear hHeld hK K
      rename _ => hHeld
      try simp only [Act.put, List.setIfInBounds_toArray, List.set_cons_zero, List.set_cons_succ]
      refine wpAnyH_abs (F := fun X => ActsAt X qr q1 q2 ∧ ResB X w4.heap.size) hHeld ⟨acts_bl hA (bl_alloc (bl_refl _) _), res_new _ _ _ _ _ _ rfl⟩ (fun w5 hHeld hAN => ?_)
      clear hA
      obtain ⟨hA, hN⟩ := hAN
      generalize w4.heap.size = nb at *
      refine callC (i := 9) rfl (fun K hK => ?_)
      go_simp
      refine (HAC.out _ _ hA.2.1).mono ?_
      rintro e w6 ⟨rfl, hb⟩
      go_wp2_with fail
      refine hK.out _ _ ?_ (fun hHeld' => ?_)
      · (try dsimp only)
        (obtain ⟨h0, h1, h2, h3, h4, h5, h6, h7, h8, h9, h10, h11, h12, hr', hB'⟩ := hHeld; exact ⟨bl_cell hb h0, bl_cell hb h1, bl_cell hb h2, bl_cell hb h3, bl_cell hb h4, bl_cell hb h5, bl_cell hb h6, bl_cell hb h7, bl_cell hb h8, bl_cell hb h9, bl_cell hb h10, bl_cell hb h11, bl_cell hb h12, res_bl hr' hb, bl_then hB' hb⟩)
      clear hHeld hK K
      rename _ => hHeld
      replace hA := acts_bl hA hb
      replace hN := res_bl hN hb
      clear hb
      try simp only [Act.put, List.setIfInBounds_toArray, List.set_cons_zero, List.set_cons_succ]
      (refine tk (i := 10) rfl rfl hHeld ?_)
      (refine tk (i := 11) rfl rfl hHeld ?_)
      (refine tk (i := 12) rfl rfl hHeld ?_)
      refine callC (i := 14) rfl (fun K hK => ?_)
      obtain ⟨h0, h1, h2, h3, h4, h5, h6, h7, h8, h9, h10, h11, h12, hr', hB'⟩ := hHeld
      obtain ⟨f0, f1, f2, f3, u0, u1, u2, u3, i0, i1, i2, i3⟩ := res_all hN
      clear hHeld
      have hHeld : True := trivial
      go_simp
      refine hK.out _ _ ?_ (fun hHeld' => ?_)
      · (try dsimp only)
        (have e0 : nb ≠ w.heap.size := (by omega); have e1 : nb ≠ w.heap.size + 1 := (by omega); have e2 : nb ≠ w.heap.size + 1 + 1 := (by omega); exact ⟨far4 h0 e0, far4 h1 e0, far4 h2 e0, far4 h3 e0, far4 h4 e0, far4 h5 e0, far4 h6 e1, far4 h7 e1, far4 h8 e1, far4 h9 e1, far4 h10 e2, far4 h11 e2, far4 h12 e2, res4 hr', bl4 hB' (by omega)⟩)
      clear hHeld hK K
      rename _ => hHeld
      try simp only [Act.put, List.setIfInBounds_toArray, List.set_cons_zero, List.set_cons_succ]
      (refine tk (i := 15) rfl rfl hHeld ?_)
      refine wpAnyH_done (by kernel_rfl) ?_ _
      obtain ⟨h0, h1, h2, h3, h4, h5, h6, h7, h8, h9, h10, h11, h12, hr'', hE⟩ := hHeld
      refine then_abs (F := fun X => (X.cell? ⟨nb, 0, none⟩ = some (.int .i64 aat) ∧ X.cell? ⟨nb, 1, none⟩ = some (.int .i64 (alv + acost * d)) ∧ X.cell? ⟨nb, 2, none⟩ = some (.int .i64 (ahd - acost)) ∧ X.cell? ⟨nb, 3, none⟩ = some (.slice none 0 0)) ∧ X.cell? ⟨w.heap.size + 1, 0, none⟩ = some (.int .i64 at_) ∧ X.cell? ⟨w.heap.size + 1, 1, none⟩ = some (.int .i64 level) ∧ X.cell? ⟨w.heap.size + 1, 2, none⟩ = some (.int .i64 held) ∧ X.cell? ⟨w.heap.size + 1, 3, none⟩ = some (.slice a 0 c) ∧ ResB X (w.heap.size + 1 + 1 + 1) ∧ Below w.heap.size w X) ⟨set4 _ _ _ _ i0 i1 i2 i3, h6, h7, h8, h9, hr'', hE⟩ ?_
      rintro X ⟨⟨x0, x1, x2, x3⟩, c6, c7, c8, c9, hR, hE⟩
      obtain ⟨F0, F1, F2, F3, U0, U1, U2, U3, I0, I1, I2, I3⟩ := res_all hR
      clear hA hN hr' hB' hr'' i0 i1 i2 i3 f0 f1 f2 f3 u0 u1 u2 u3 hR h0 h1 h2 h3 h4 h5 h6 h7 h8 h9 h10 h11 h12
      cases g
      · repeat go_step
        (try simp only [Exit.inBlock, Exit.then])
        refine bodyPost_ret (results_state2 rfl _ _ (by rfl) (set4 _ _ _ _ I0 I1 I2 I3)) rfl ⟨by first | rfl | simp, bl4 hE (by omega)⟩
      · repeat go_step
        (try simp only [Exit.inBlock, Exit.then])
        refine bodyPost_ret (results_state2 rfl _ _ (by rfl) (set4 _ _ _ _ I0 I1 I2 I3)) rfl ⟨by first | rfl | simp, bl4 hE (by omega)⟩
  · have hlt : w.heap.size + 1 + 1 + 1 < W3.heap.size := by (obtain ⟨h0, h1, h2, h3, h4, h5, h6, h7, h8, h9, h10, h11, h12, hr', hB'⟩ := hHeld; exact res_lt hr')
    go_simp
    refine hK.out _ _ ?_ (fun hHeld' => ?_)
    · (try dsimp only)
      (obtain ⟨h0, h1, h2, h3, h4, h5, h6, h7, h8, h9, h10, h11, h12, hr', hB'⟩ := hHeld; exact ⟨bl_cell (bl_alloc (bl_refl _) _) h0, bl_cell (bl_alloc (bl_refl _) _) h1, bl_cell (bl_alloc (bl_refl _) _) h2, bl_cell (bl_alloc (bl_refl _) _) h3, bl_cell (bl_alloc (bl_refl _) _) h4, bl_cell (bl_alloc (bl_refl _) _) h5, bl_cell (bl_alloc (bl_refl _) _) h6, bl_cell (bl_alloc (bl_refl _) _) h7, bl_cell (bl_alloc (bl_refl _) _) h8, bl_cell (bl_alloc (bl_refl _) _) h9, bl_cell (bl_alloc (bl_refl _) _) h10, bl_cell (bl_alloc (bl_refl _) _) h11, bl_cell (bl_alloc (bl_refl _) _) h12, res_bl hr' (bl_alloc (bl_refl _) _), bl_alloc hB' _⟩)
    clear hHeld hK K
    rename _ => hHeld
    try simp only [Act.put, List.setIfInBounds_toArray, List.set_cons_zero, List.set_cons_succ]
    refine wpAnyH_abs (F := fun X => ActsAt X qr q1 q2 ∧ ResB X W3.heap.size) hHeld ⟨acts_bl hA (bl_alloc (bl_refl _) _), res_new _ _ _ _ _ _ rfl⟩ (fun w4 hHeld hAN => ?_)
    clear hA
    obtain ⟨hA, hN⟩ := hAN
    generalize W3.heap.size = nb at *
    refine callC (i := 6) rfl (fun K hK => ?_)
    go_simp
    refine (HAV.out _).mono ?_
    rintro e w5 ⟨rfl, hb⟩
    go_wp2_with fail
    refine hK.out _ _ ?_ (fun hHeld' => ?_)
    · (try dsimp only)
      (obtain ⟨h0, h1, h2, h3, h4, h5, h6, h7, h8, h9, h10, h11, h12, hr', hB'⟩ := hHeld; exact ⟨bl_cell hb h0, bl_cell hb h1, bl_cell hb h2, bl_cell hb h3, bl_cell hb h4, bl_cell hb h5, bl_cell hb h6, bl_cell hb h7, bl_cell hb h8, bl_cell hb h9, bl_cell hb h10, bl_cell hb h11, bl_cell hb h12, res_bl hr' hb, bl_then hB' hb⟩)
    clear hHeld hK K
    rename _ => hHeld
    replace hA := acts_bl hA hb
    replace hN := res_bl hN hb
    clear hb
    try simp only [Act.put, List.setIfInBounds_toArray, List.set_cons_zero, List.set_cons_succ]
    refine callC (i := 9) rfl (fun K hK => ?_)
    go_simp
    refine (HAC.out _ _ hA.2.1).mono ?_
    rintro e w6 ⟨rfl, hb⟩
    go_wp2_with fail
    refine hK.out _ _ ?_ (fun hHeld' => ?_)
    · (try dsimp only)
      (obtain ⟨h0, h1, h2, h3, h4, h5, h6, h7, h8, h9, h10, h11, h12, hr', hB'⟩ := hHeld; exact ⟨bl_cell hb h0, bl_cell hb h1, bl_cell hb h2, bl_cell hb h3, bl_cell hb h4, bl_cell hb h5, bl_cell hb h6, bl_cell hb h7, bl_cell hb h8, bl_cell hb h9, bl_cell hb h10, bl_cell hb h11, bl_cell hb h12, res_bl hr' hb, bl_then hB' hb⟩)
    clear hHeld hK K
    rename _ => hHeld
    replace hA := acts_bl hA hb
    replace hN := res_bl hN hb
    clear hb
    try simp only [Act.put, List.setIfInBounds_toArray, List.set_cons_zero, List.set_cons_succ]
    (refine tk (i := 10) rfl rfl hHeld ?_)
    (refine tk (i := 11) rfl rfl hHeld ?_)
    (refine tk (i := 12) rfl rfl hHeld ?_)
    refine callC (i := 14) rfl (fun K hK => ?_)
    obtain ⟨h0, h1, h2, h3, h4, h5, h6, h7, h8, h9, h10, h11, h12, hr', hB'⟩ := hHeld
    obtain ⟨f0, f1, f2, f3, u0, u1, u2, u3, i0, i1, i2, i3⟩ := res_all hN
    clear hHeld
    have hHeld : True := trivial
    go_simp
    refine hK.out _ _ ?_ (fun hHeld' => ?_)
    · (try dsimp only)
      (have e0 : nb ≠ w.heap.size := (by omega); have e1 : nb ≠ w.heap.size + 1 := (by omega); have e2 : nb ≠ w.heap.size + 1 + 1 := (by omega); exact ⟨far4 h0 e0, far4 h1 e0, far4 h2 e0, far4 h3 e0, far4 h4 e0, far4 h5 e0, far4 h6 e1, far4 h7 e1, far4 h8 e1, far4 h9 e1, far4 h10 e2, far4 h11 e2, far4 h12 e2, res4 hr', bl4 hB' (by omega)⟩)
    clear hHeld hK K
    rename _ => hHeld
    try simp only [Act.put, List.setIfInBounds_toArray, List.set_cons_zero, List.set_cons_succ]
    (refine tk (i := 15) rfl rfl hHeld ?_)
    refine wpAnyH_done (by kernel_rfl) ?_ _
    obtain ⟨h0, h1, h2, h3, h4, h5, h6, h7, h8, h9, h10, h11, h12, hr'', hE⟩ := hHeld
    refine then_abs (F := fun X => (X.cell? ⟨nb, 0, none⟩ = some (.int .i64 aat) ∧ X.cell? ⟨nb, 1, none⟩ = some (.int .i64 (alv + acost * d)) ∧ X.cell? ⟨nb, 2, none⟩ = some (.int .i64 (ahd - acost)) ∧ X.cell? ⟨nb, 3, none⟩ = some (.slice none 0 0)) ∧ X.cell? ⟨w.heap.size + 1, 0, none⟩ = some (.int .i64 at_) ∧ X.cell? ⟨w.heap.size + 1, 1, none⟩ = some (.int .i64 level) ∧ X.cell? ⟨w.heap.size + 1, 2, none⟩ = some (.int .i64 held) ∧ X.cell? ⟨w.heap.size + 1, 3, none⟩ = some (.slice a 0 c) ∧ ResB X (w.heap.size + 1 + 1 + 1) ∧ Below w.heap.size w X) ⟨set4 _ _ _ _ i0 i1 i2 i3, h6, h7, h8, h9, hr'', hE⟩ ?_
    rintro X ⟨⟨x0, x1, x2, x3⟩, c6, c7, c8, c9, hR, hE⟩
    obtain ⟨F0, F1, F2, F3, U0, U1, U2, U3, I0, I1, I2, I3⟩ := res_all hR
    clear hA hN hr' hB' hr'' i0 i1 i2 i3 f0 f1 f2 f3 u0 u1 u2 u3 hR h0 h1 h2 h3 h4 h5 h6 h7 h8 h9 h10 h11 h12
    cases g
    · repeat go_step
      (try simp only [Exit.inBlock, Exit.then])
      refine bodyPost_ret (results_state2 rfl _ _ (by rfl) (set4 _ _ _ _ I0 I1 I2 I3)) rfl ⟨by first | rfl | simp, bl4 hE (by omega)⟩
    · repeat go_step
      (try simp only [Exit.inBlock, Exit.then])
      refine bodyPost_ret (results_state2 rfl _ _ (by rfl) (set4 _ _ _ _ I0 I1 I2 I3)) rfl ⟨by first | rfl | simp, bl4 hE (by omega)⟩

set_option maxHeartbeats 2000000 in
set_option maxRecDepth 100000 in
theorem bdo_4 (p : Pol) (s : St) (a : Option Addr) (c : Nat) (anow acost : Int) (w : World) (h : rightB p s) (hc1 : 1 ≤ acost) (hc2 : acost ≤ p.burst) :
    Calls Try.prog 17 #[p.v, s.v a 0 c, .agg #[.int .i64 4, .int .i64 anow, .int .i64 acost]] w fun e w' =>
      e = .returned (.tuple #[if (actB p (advB p s anow) ⟨4, anow, acost⟩).2 then (actB p (advB p s anow) ⟨4, anow, acost⟩).1.v none 0 0 else s.v a 0 c, .bool (actB p (advB p s anow) ⟨4, anow, acost⟩).2]) ∧ Below w.heap.size w w' := by
  have hlg := h.2.2.2.2.2.2.2
  have hrt := bright_any p s a 0 c (by rw [hlg]; rfl)
  have hav := badv_any p s a 0 c anow (by rw [hlg]; rfl)
  rw [decide_eq_true h] at hrt
  have hok := h.1
  have hlv := advB_level p s anow h
  have hhd := advB_held p s anow h
  have hr3 := h.2.2.2.1
  have hr4 := h.2.2.2.2.1
  generalize advB p s anow = A at *
  clear h
  obtain ⟨k, l, d, b, cc, o⟩ := p
  obtain ⟨at_, level, held, lg⟩ := s
  obtain ⟨aat, alv, ahd, alg⟩ := A
  unfold actB
  unfold St.v Pol.v at *
  dsimp only at *
  simp only [show ((1 : Int) = 1) = True from eq_true rfl, show ((2 : Int) = 1) = False from eq_false (by decide), show ((2 : Int) = 2) = True from eq_true rfl, show ((3 : Int) = 1) = False from eq_false (by decide), show ((3 : Int) = 2) = False from eq_false (by decide), show ((3 : Int) = 3) = True from eq_true rfl, show ((4 : Int) = 1) = False from eq_false (by decide), show ((4 : Int) = 2) = False from eq_false (by decide), show ((4 : Int) = 3) = False from eq_false (by decide), show ((4 : Int) = 4) = True from eq_true rfl, if_true, if_false]
  obtain ⟨z0, z1, z2, z3, z4, z5, z6, z7⟩ := hok
  dsimp only at *
  have hM : acost * d ≤ 1152921504606846976 := prod_le (by omega) (by omega) (by omega)
  have hM0 : 0 ≤ acost * d := Int.mul_nonneg (by omega) (by omega)
  have hw1 : IntKind.i64.wrap (ahd - acost) = ahd - acost := IntWalk.i64_in _ (by omega)
  have HAC := Go.Lib.hid (fun w => bback_any k l d b cc o aat alv ahd acost none 0 0 w hw1)
  have HRT := Go.Lib.hid hrt
  have HAV := Go.Lib.hid hav
  have hb1 : ¬ acost < 1 := by omega
  have hb2 : ¬ b < acost := by omega
  clear hrt hav hlv hhd hM hM0 z0 z1 z2 z3 z4 z5 z6 z7 hr3 hr4 hc1 hc2  hw1
  obtain ⟨g, hg⟩ : ∃ g, decide (0 ≤ ahd - acost) = g := ⟨_, rfl⟩
  rw [hg] at HAC ⊢
  go_enter Try.func17, Try.ntmps17
  go_wp2_with fail
  refine wp_abs (S0 := fun w' => w'.cell? ⟨w.heap.size, 0, none⟩ = some (.int .i64 k) ∧ w'.cell? ⟨w.heap.size, 1, none⟩ = some (.int .i64 l) ∧ w'.cell? ⟨w.heap.size, 2, none⟩ = some (.int .i64 d) ∧ w'.cell? ⟨w.heap.size, 3, none⟩ = some (.int .i64 b) ∧ w'.cell? ⟨w.heap.size, 4, none⟩ = some (.int .i64 cc) ∧ w'.cell? ⟨w.heap.size, 5, none⟩ = some (.bool o) ∧ w'.cell? ⟨w.heap.size + 1, 0, none⟩ = some (.int .i64 at_) ∧ w'.cell? ⟨w.heap.size + 1, 1, none⟩ = some (.int .i64 level) ∧ w'.cell? ⟨w.heap.size + 1, 2, none⟩ = some (.int .i64 held) ∧ w'.cell? ⟨w.heap.size + 1, 3, none⟩ = some (.slice a 0 c) ∧ w'.cell? ⟨w.heap.size + 1 + 1, 0, none⟩ = some (.int .i64 4) ∧ w'.cell? ⟨w.heap.size + 1 + 1, 1, none⟩ = some (.int .i64 anow) ∧ w'.cell? ⟨w.heap.size + 1 + 1, 2, none⟩ = some (.int .i64 acost) ∧ ResB w' (w.heap.size + 1 + 1 + 1) ∧ Below w.heap.size w w') ⟨by go_simp, by go_simp, by go_simp, by go_simp, by go_simp, by go_simp, by go_simp, by go_simp, by go_simp, by go_simp, by go_simp, by go_simp, by go_simp, res_new _ _ _ _ _ _ (by simp), bl_alloc (bl_alloc (bl_alloc (bl_alloc (bl_refl _) _) _) _) _⟩ ?_
  rintro W ⟨c0, c1, c2, c3, c4, c5, c6, c7, c8, c9, c10, c11, c12, hR, hB⟩
  refine wp_region_held_drew (S := fun w' => w'.cell? ⟨w.heap.size, 0, none⟩ = some (.int .i64 k) ∧ w'.cell? ⟨w.heap.size, 1, none⟩ = some (.int .i64 l) ∧ w'.cell? ⟨w.heap.size, 2, none⟩ = some (.int .i64 d) ∧ w'.cell? ⟨w.heap.size, 3, none⟩ = some (.int .i64 b) ∧ w'.cell? ⟨w.heap.size, 4, none⟩ = some (.int .i64 cc) ∧ w'.cell? ⟨w.heap.size, 5, none⟩ = some (.bool o) ∧ w'.cell? ⟨w.heap.size + 1, 0, none⟩ = some (.int .i64 at_) ∧ w'.cell? ⟨w.heap.size + 1, 1, none⟩ = some (.int .i64 level) ∧ w'.cell? ⟨w.heap.size + 1, 2, none⟩ = some (.int .i64 held) ∧ w'.cell? ⟨w.heap.size + 1, 3, none⟩ = some (.slice a 0 c) ∧ w'.cell? ⟨w.heap.size + 1 + 1, 0, none⟩ = some (.int .i64 4) ∧ w'.cell? ⟨w.heap.size + 1 + 1, 1, none⟩ = some (.int .i64 anow) ∧ w'.cell? ⟨w.heap.size + 1 + 1, 2, none⟩ = some (.int .i64 acost) ∧ ResB w' (w.heap.size + 1 + 1 + 1) ∧ Below w.heap.size w w') (by kernel_rfl) ?_ (fun hHeld => ?_)
  · exact ⟨c0, c1, c2, c3, c4, c5, c6, c7, c8, c9, c10, c11, c12, hR, bl_drew hB⟩
  try simp only [Act.put, List.setIfInBounds_toArray, List.set_cons_zero, List.set_cons_succ]
  (refine tk (i := 1) rfl rfl hHeld ?_)
  (refine tk (i := 2) rfl rfl hHeld ?_)
  (refine callC (i := 0) rfl (fun K hK => ?_); go_simp; refine (acts_any _).mono ?_; rintro e w1 ⟨rfl, hA, hb⟩; generalize W.drew.heap.size + 1 + 1 = qr at *; generalize W.drew.heap.size + 1 = q2 at *; generalize W.drew.heap.size = q1 at hA; go_wp2_with fail; refine hK.out _ _ ?_ (fun hHeld' => ?_); (focus ((try dsimp only); (obtain ⟨h0, h1, h2, h3, h4, h5, h6, h7, h8, h9, h10, h11, h12, hr', hB'⟩ := hHeld; exact ⟨bl_cell hb h0, bl_cell hb h1, bl_cell hb h2, bl_cell hb h3, bl_cell hb h4, bl_cell hb h5, bl_cell hb h6, bl_cell hb h7, bl_cell hb h8, bl_cell hb h9, bl_cell hb h10, bl_cell hb h11, bl_cell hb h12, res_bl hr' hb, bl_then hB' hb⟩))); clear hHeld hK K; rename _ => hHeld; try simp only [Act.put, List.setIfInBounds_toArray, List.set_cons_zero, List.set_cons_succ])
  have hlk := acts_look hA 4
  unfold actF at hlk
  simp at hlk
  (refine callC (i := 3) rfl (fun K hK => ?_); go_simp; refine hK.out _ _ ?_ (fun hHeld' => ?_); (focus ((try dsimp only); exact hHeld)); clear hHeld hK K; rename _ => hHeld; clear hlk; try simp only [Act.put, List.setIfInBounds_toArray, List.set_cons_zero, List.set_cons_succ])
  (refine tk (i := 4) rfl rfl hHeld ?_)
  (refine tk (i := 5) rfl rfl hHeld ?_)
  (refine tk (i := 6) rfl rfl hHeld ?_)
  (refine tk (i := 7) rfl rfl hHeld ?_)
  (refine tk (i := 8) rfl rfl hHeld ?_)
  refine wpAnyH_done (by kernel_rfl) ?_ _
  clear c0 hR hB
  obtain ⟨c0, c1, c2, c3, c4, c5, c6, c7, c8, c9, c10, c11, c12, hR, hB⟩ := hHeld
  try clear hHeld
  go_wp2_with fail
  refine (HRT.out _).mono ?_
  rintro e w2 ⟨rfl, hb2⟩
  have d0 := bl_cell hb2 c0
  have d1 := bl_cell hb2 c1
  have d2 := bl_cell hb2 c2
  have d3 := bl_cell hb2 c3
  have d4 := bl_cell hb2 c4
  have d5 := bl_cell hb2 c5
  have d6 := bl_cell hb2 c6
  have d7 := bl_cell hb2 c7
  have d8 := bl_cell hb2 c8
  have d9 := bl_cell hb2 c9
  have d10 := bl_cell hb2 c10
  have d11 := bl_cell hb2 c11
  have d12 := bl_cell hb2 c12
  have dR := res_bl hR hb2
  have dB := bl_then hB hb2
  have dA := acts_bl hA hb2
  clear hR hB hA hb2 c0 c1 c2 c3 c4 c5 c6 c7 c8 c9 c10 c11 c12
  go_wp2_with fail
  refine wp_region_held_drew (S := fun w' => w'.cell? ⟨w.heap.size, 0, none⟩ = some (.int .i64 k) ∧ w'.cell? ⟨w.heap.size, 1, none⟩ = some (.int .i64 l) ∧ w'.cell? ⟨w.heap.size, 2, none⟩ = some (.int .i64 d) ∧ w'.cell? ⟨w.heap.size, 3, none⟩ = some (.int .i64 b) ∧ w'.cell? ⟨w.heap.size, 4, none⟩ = some (.int .i64 cc) ∧ w'.cell? ⟨w.heap.size, 5, none⟩ = some (.bool o) ∧ w'.cell? ⟨w.heap.size + 1, 0, none⟩ = some (.int .i64 at_) ∧ w'.cell? ⟨w.heap.size + 1, 1, none⟩ = some (.int .i64 level) ∧ w'.cell? ⟨w.heap.size + 1, 2, none⟩ = some (.int .i64 held) ∧ w'.cell? ⟨w.heap.size + 1, 3, none⟩ = some (.slice a 0 c) ∧ w'.cell? ⟨w.heap.size + 1 + 1, 0, none⟩ = some (.int .i64 4) ∧ w'.cell? ⟨w.heap.size + 1 + 1, 1, none⟩ = some (.int .i64 anow) ∧ w'.cell? ⟨w.heap.size + 1 + 1, 2, none⟩ = some (.int .i64 acost) ∧ ResB w' (w.heap.size + 1 + 1 + 1) ∧ Below w.heap.size w w') (by kernel_rfl) ?_ (fun hHeld => ?_)
  · exact ⟨d0, d1, d2, d3, d4, d5, d6, d7, d8, d9, d10, d11, d12, dR, bl_drew dB⟩
  try simp only [Act.put, List.setIfInBounds_toArray, List.set_cons_zero, List.set_cons_succ]
  refine wpAnyH_abs (F := fun W => ActsAt W qr q1 q2) hHeld dA (fun W3 hHeld hA => ?_)
  clear dA dR dB d0 d1 d2 d3 d4 d5 d6 d7 d8 d9 d10 d11 d12
  (refine tk (i := 0) rfl rfl hHeld ?_)
  (refine tk (i := 1) rfl rfl hHeld ?_)
  (refine tk (i := 2) rfl rfl hHeld ?_)
  (refine tk (i := 3) rfl rfl hHeld ?_)
  (refine tk (i := 4) rfl rfl hHeld ?_)
  (refine tk (i := 5) rfl rfl hHeld ?_)
  (refine tk (i := 7) rfl rfl hHeld ?_)
  (refine tk (i := 8) rfl rfl hHeld ?_)
  refine callC2 (i := 6) (j := 13) rfl rfl (fun K hK => ?_) (fun K hK => ?_)
  · go_simp
    refine (HAV.out _).mono ?_
    rintro e w4 ⟨rfl, hb⟩
    go_wp2_with fail
    refine hK.out _ _ ?_ (fun hHeld' => ?_)
    · (try dsimp only)
      (obtain ⟨h0, h1, h2, h3, h4, h5, h6, h7, h8, h9, h10, h11, h12, hr', hB'⟩ := hHeld; exact ⟨bl_cell hb h0, bl_cell hb h1, bl_cell hb h2, bl_cell hb h3, bl_cell hb h4, bl_cell hb h5, bl_cell hb h6, bl_cell hb h7, bl_cell hb h8, bl_cell hb h9, bl_cell hb h10, bl_cell hb h11, bl_cell hb h12, res_bl hr' hb, bl_then hB' hb⟩)
    clear hHeld hK K
    rename _ => hHeld
    replace hA := acts_bl hA hb
    clear hb
    try simp only [Act.put, List.setIfInBounds_toArray, List.set_cons_zero, List.set_cons_succ]
    refine callC2 (i := 9) (j := 13) rfl rfl (fun K hK => ?_) (fun K hK => ?_)
    · go_simp
      refine (HAC.out _).mono ?_
      rintro e w5 ⟨rfl, hb⟩
      go_wp2_with fail
      refine hK.out _ _ ?_ (fun hHeld' => ?_)
      · (try dsimp only)
        (obtain ⟨h0, h1, h2, h3, h4, h5, h6, h7, h8, h9, h10, h11, h12, hr', hB'⟩ := hHeld; exact ⟨bl_cell hb h0, bl_cell hb h1, bl_cell hb h2, bl_cell hb h3, bl_cell hb h4, bl_cell hb h5, bl_cell hb h6, bl_cell hb h7, bl_cell hb h8, bl_cell hb h9, bl_cell hb h10, bl_cell hb h11, bl_cell hb h12, res_bl hr' hb, bl_then hB' hb⟩)
      clear hHeld hK K
      rename _ => hHeld
      replace hA := acts_bl hA hb
      clear hb
      try simp only [Act.put, List.setIfInBounds_toArray, List.set_cons_zero, List.set_cons_succ]
      (refine tk (i := 10) rfl rfl hHeld ?_)
      (refine tk (i := 11) rfl rfl hHeld ?_)
      (refine tk (i := 12) rfl rfl hHeld ?_)
      refine callC (i := 13) rfl (fun K hK => ?_)
      have hlt : w.heap.size + 1 + 1 + 1 < w5.heap.size := by (obtain ⟨h0, h1, h2, h3, h4, h5, h6, h7, h8, h9, h10, h11, h12, hr', hB'⟩ := hHeld; exact res_lt hr')
      go_simp
      refine hK.out _ _ ?_ (fun hHeld' => ?_)
      · (try dsimp only)
        (obtain ⟨h0, h1, h2, h3, h4, h5, h6, h7, h8, h9, h10, h11, h12, hr', hB'⟩ := hHeld; exact ⟨bl_cell (bl_alloc (bl_refl _) _) h0, bl_cell (bl_alloc (bl_refl _) _) h1, bl_cell (bl_alloc (bl_refl _) _) h2, bl_cell (bl_alloc (bl_refl _) _) h3, bl_cell (bl_alloc (bl_refl _) _) h4, bl_cell (bl_alloc (bl_refl _) _) h5, bl_cell (bl_alloc (bl_refl _) _) h6, bl_cell (bl_alloc (bl_refl _) _) h7, bl_cell (bl_alloc (bl_refl _) _) h8, bl_cell (bl_alloc (bl_refl _) _) h9, bl_cell (bl_alloc (bl_refl _) _) h10, bl_cell (bl_alloc (bl_refl _) _) h11, bl_cell (bl_alloc (bl_refl _) _) h12, res_bl hr' (bl_alloc (bl_refl _) _), bl_alloc hB' _⟩)
      clear hHeld hK K
      rename _ => hHeld
      try simp only [Act.put, List.setIfInBounds_toArray, List.set_cons_zero, List.set_cons_succ]
      refine wpAnyH_abs (F := fun X => ActsAt X qr q1 q2 ∧ ResB X w5.heap.size) hHeld ⟨acts_bl hA (bl_alloc (bl_refl _) _), res_new _ _ _ _ _ _ rfl⟩ (fun w6 hHeld hAN => ?_)
      clear hA
      obtain ⟨hA, hN⟩ := hAN
      generalize w5.heap.size = nb at *
      refine callC (i := 14) rfl (fun K hK => ?_)
      obtain ⟨h0, h1, h2, h3, h4, h5, h6, h7, h8, h9, h10, h11, h12, hr', hB'⟩ := hHeld
      obtain ⟨f0, f1, f2, f3, u0, u1, u2, u3, i0, i1, i2, i3⟩ := res_all hN
      clear hHeld
      have hHeld : True := trivial
      go_simp
      refine hK.out _ _ ?_ (fun hHeld' => ?_)
      · (try dsimp only)
        (have e0 : nb ≠ w.heap.size := (by omega); have e1 : nb ≠ w.heap.size + 1 := (by omega); have e2 : nb ≠ w.heap.size + 1 + 1 := (by omega); exact ⟨far4 h0 e0, far4 h1 e0, far4 h2 e0, far4 h3 e0, far4 h4 e0, far4 h5 e0, far4 h6 e1, far4 h7 e1, far4 h8 e1, far4 h9 e1, far4 h10 e2, far4 h11 e2, far4 h12 e2, res4 hr', bl4 hB' (by omega)⟩)
      clear hHeld hK K
      rename _ => hHeld
      try simp only [Act.put, List.setIfInBounds_toArray, List.set_cons_zero, List.set_cons_succ]
      (refine tk (i := 15) rfl rfl hHeld ?_)
      refine wpAnyH_done (by kernel_rfl) ?_ _
      obtain ⟨h0, h1, h2, h3, h4, h5, h6, h7, h8, h9, h10, h11, h12, hr'', hE⟩ := hHeld
      refine then_abs (F := fun X => (X.cell? ⟨nb, 0, none⟩ = some (.int .i64 aat) ∧ X.cell? ⟨nb, 1, none⟩ = some (.int .i64 (alv)) ∧ X.cell? ⟨nb, 2, none⟩ = some (.int .i64 (ahd - acost)) ∧ X.cell? ⟨nb, 3, none⟩ = some (.slice none 0 0)) ∧ X.cell? ⟨w.heap.size + 1, 0, none⟩ = some (.int .i64 at_) ∧ X.cell? ⟨w.heap.size + 1, 1, none⟩ = some (.int .i64 level) ∧ X.cell? ⟨w.heap.size + 1, 2, none⟩ = some (.int .i64 held) ∧ X.cell? ⟨w.heap.size + 1, 3, none⟩ = some (.slice a 0 c) ∧ ResB X (w.heap.size + 1 + 1 + 1) ∧ Below w.heap.size w X) ⟨set4 _ _ _ _ i0 i1 i2 i3, h6, h7, h8, h9, hr'', hE⟩ ?_
      rintro X ⟨⟨x0, x1, x2, x3⟩, c6, c7, c8, c9, hR, hE⟩
      obtain ⟨F0, F1, F2, F3, U0, U1, U2, U3, I0, I1, I2, I3⟩ := res_all hR
      clear hA hN hr' hB' hr'' i0 i1 i2 i3 f0 f1 f2 f3 u0 u1 u2 u3 hR h0 h1 h2 h3 h4 h5 h6 h7 h8 h9 h10 h11 h12
      cases g
      · repeat go_step
        (try simp only [Exit.inBlock, Exit.then])
        refine bodyPost_ret (results_state2 rfl _ _ (by rfl) (set4 _ _ _ _ I0 I1 I2 I3)) rfl ⟨by first | rfl | simp, bl4 hE (by omega)⟩
      · repeat go_step
        (try simp only [Exit.inBlock, Exit.then])
        refine bodyPost_ret (results_state2 rfl _ _ (by rfl) (set4 _ _ _ _ I0 I1 I2 I3)) rfl ⟨by first | rfl | simp, bl4 hE (by omega)⟩
    · have hlt : w.heap.size + 1 + 1 + 1 < w4.heap.size := by (obtain ⟨h0, h1, h2, h3, h4, h5, h6, h7, h8, h9, h10, h11, h12, hr', hB'⟩ := hHeld; exact res_lt hr')
      go_simp
      refine hK.out _ _ ?_ (fun hHeld' => ?_)
      · (try dsimp only)
        (obtain ⟨h0, h1, h2, h3, h4, h5, h6, h7, h8, h9, h10, h11, h12, hr', hB'⟩ := hHeld; exact ⟨bl_cell (bl_alloc (bl_refl _) _) h0, bl_cell (bl_alloc (bl_refl _) _) h1, bl_cell (bl_alloc (bl_refl _) _) h2, bl_cell (bl_alloc (bl_refl _) _) h3, bl_cell (bl_alloc (bl_refl _) _) h4, bl_cell (bl_alloc (bl_refl _) _) h5, bl_cell (bl_alloc (bl_refl _) _) h6, bl_cell (bl_alloc (bl_refl _) _) h7, bl_cell (bl_alloc (bl_refl _) _) h8, bl_cell (bl_alloc (bl_refl _) _) h9, bl_cell (bl_alloc (bl_refl _) _) h10, bl_cell (bl_alloc (bl_refl _) _) h11, bl_cell (bl_alloc (bl_refl _) _) h12, res_bl hr' (bl_alloc (bl_refl _) _), bl_alloc hB' _⟩)
      clear hHeld hK K
      rename _ => hHeld
      try simp only [Act.put, List.setIfInBounds_toArray, List.set_cons_zero, List.set_cons_succ]
      refine wpAnyH_abs (F := fun X => ActsAt X qr q1 q2 ∧ ResB X w4.heap.size) hHeld ⟨acts_bl hA (bl_alloc (bl_refl _) _), res_new _ _ _ _ _ _ rfl⟩ (fun w5 hHeld hAN => ?_)
      clear hA
      obtain ⟨hA, hN⟩ := hAN
      generalize w4.heap.size = nb at *
      refine callC (i := 9) rfl (fun K hK => ?_)
      go_simp
      refine (HAC.out _).mono ?_
      rintro e w6 ⟨rfl, hb⟩
      go_wp2_with fail
      refine hK.out _ _ ?_ (fun hHeld' => ?_)
      · (try dsimp only)
        (obtain ⟨h0, h1, h2, h3, h4, h5, h6, h7, h8, h9, h10, h11, h12, hr', hB'⟩ := hHeld; exact ⟨bl_cell hb h0, bl_cell hb h1, bl_cell hb h2, bl_cell hb h3, bl_cell hb h4, bl_cell hb h5, bl_cell hb h6, bl_cell hb h7, bl_cell hb h8, bl_cell hb h9, bl_cell hb h10, bl_cell hb h11, bl_cell hb h12, res_bl hr' hb, bl_then hB' hb⟩)
      clear hHeld hK K
      rename _ => hHeld
      replace hA := acts_bl hA hb
      replace hN := res_bl hN hb
      clear hb
      try simp only [Act.put, List.setIfInBounds_toArray, List.set_cons_zero, List.set_cons_succ]
      (refine tk (i := 10) rfl rfl hHeld ?_)
      (refine tk (i := 11) rfl rfl hHeld ?_)
      (refine tk (i := 12) rfl rfl hHeld ?_)
      refine callC (i := 14) rfl (fun K hK => ?_)
      obtain ⟨h0, h1, h2, h3, h4, h5, h6, h7, h8, h9, h10, h11, h12, hr', hB'⟩ := hHeld
      obtain ⟨f0, f1, f2, f3, u0, u1, u2, u3, i0, i1, i2, i3⟩ := res_all hN
      clear hHeld
      have hHeld : True := trivial
      go_simp
      refine hK.out _ _ ?_ (fun hHeld' => ?_)
      · (try dsimp only)
        (have e0 : nb ≠ w.heap.size := (by omega); have e1 : nb ≠ w.heap.size + 1 := (by omega); have e2 : nb ≠ w.heap.size + 1 + 1 := (by omega); exact ⟨far4 h0 e0, far4 h1 e0, far4 h2 e0, far4 h3 e0, far4 h4 e0, far4 h5 e0, far4 h6 e1, far4 h7 e1, far4 h8 e1, far4 h9 e1, far4 h10 e2, far4 h11 e2, far4 h12 e2, res4 hr', bl4 hB' (by omega)⟩)
      clear hHeld hK K
      rename _ => hHeld
      try simp only [Act.put, List.setIfInBounds_toArray, List.set_cons_zero, List.set_cons_succ]
      (refine tk (i := 15) rfl rfl hHeld ?_)
      refine wpAnyH_done (by kernel_rfl) ?_ _
      obtain ⟨h0, h1, h2, h3, h4, h5, h6, h7, h8, h9, h10, h11, h12, hr'', hE⟩ := hHeld
      refine then_abs (F := fun X => (X.cell? ⟨nb, 0, none⟩ = some (.int .i64 aat) ∧ X.cell? ⟨nb, 1, none⟩ = some (.int .i64 (alv)) ∧ X.cell? ⟨nb, 2, none⟩ = some (.int .i64 (ahd - acost)) ∧ X.cell? ⟨nb, 3, none⟩ = some (.slice none 0 0)) ∧ X.cell? ⟨w.heap.size + 1, 0, none⟩ = some (.int .i64 at_) ∧ X.cell? ⟨w.heap.size + 1, 1, none⟩ = some (.int .i64 level) ∧ X.cell? ⟨w.heap.size + 1, 2, none⟩ = some (.int .i64 held) ∧ X.cell? ⟨w.heap.size + 1, 3, none⟩ = some (.slice a 0 c) ∧ ResB X (w.heap.size + 1 + 1 + 1) ∧ Below w.heap.size w X) ⟨set4 _ _ _ _ i0 i1 i2 i3, h6, h7, h8, h9, hr'', hE⟩ ?_
      rintro X ⟨⟨x0, x1, x2, x3⟩, c6, c7, c8, c9, hR, hE⟩
      obtain ⟨F0, F1, F2, F3, U0, U1, U2, U3, I0, I1, I2, I3⟩ := res_all hR
      clear hA hN hr' hB' hr'' i0 i1 i2 i3 f0 f1 f2 f3 u0 u1 u2 u3 hR h0 h1 h2 h3 h4 h5 h6 h7 h8 h9 h10 h11 h12
      cases g
      · repeat go_step
        (try simp only [Exit.inBlock, Exit.then])
        refine bodyPost_ret (results_state2 rfl _ _ (by rfl) (set4 _ _ _ _ I0 I1 I2 I3)) rfl ⟨by first | rfl | simp, bl4 hE (by omega)⟩
      · repeat go_step
        (try simp only [Exit.inBlock, Exit.then])
        refine bodyPost_ret (results_state2 rfl _ _ (by rfl) (set4 _ _ _ _ I0 I1 I2 I3)) rfl ⟨by first | rfl | simp, bl4 hE (by omega)⟩
  · have hlt : w.heap.size + 1 + 1 + 1 < W3.heap.size := by (obtain ⟨h0, h1, h2, h3, h4, h5, h6, h7, h8, h9, h10, h11, h12, hr', hB'⟩ := hHeld; exact res_lt hr')
    go_simp
    refine hK.out _ _ ?_ (fun hHeld' => ?_)
    · (try dsimp only)
      (obtain ⟨h0, h1, h2, h3, h4, h5, h6, h7, h8, h9, h10, h11, h12, hr', hB'⟩ := hHeld; exact ⟨bl_cell (bl_alloc (bl_refl _) _) h0, bl_cell (bl_alloc (bl_refl _) _) h1, bl_cell (bl_alloc (bl_refl _) _) h2, bl_cell (bl_alloc (bl_refl _) _) h3, bl_cell (bl_alloc (bl_refl _) _) h4, bl_cell (bl_alloc (bl_refl _) _) h5, bl_cell (bl_alloc (bl_refl _) _) h6, bl_cell (bl_alloc (bl_refl _) _) h7, bl_cell (bl_alloc (bl_refl _) _) h8, bl_cell (bl_alloc (bl_refl _) _) h9, bl_cell (bl_alloc (bl_refl _) _) h10, bl_cell (bl_alloc (bl_refl _) _) h11, bl_cell (bl_alloc (bl_refl _) _) h12, res_bl hr' (bl_alloc (bl_refl _) _), bl_alloc hB' _⟩)
    clear hHeld hK K
    rename _ => hHeld
    try simp only [Act.put, List.setIfInBounds_toArray, List.set_cons_zero, List.set_cons_succ]
    refine wpAnyH_abs (F := fun X => ActsAt X qr q1 q2 ∧ ResB X W3.heap.size) hHeld ⟨acts_bl hA (bl_alloc (bl_refl _) _), res_new _ _ _ _ _ _ rfl⟩ (fun w4 hHeld hAN => ?_)
    clear hA
    obtain ⟨hA, hN⟩ := hAN
    generalize W3.heap.size = nb at *
    refine callC (i := 6) rfl (fun K hK => ?_)
    go_simp
    refine (HAV.out _).mono ?_
    rintro e w5 ⟨rfl, hb⟩
    go_wp2_with fail
    refine hK.out _ _ ?_ (fun hHeld' => ?_)
    · (try dsimp only)
      (obtain ⟨h0, h1, h2, h3, h4, h5, h6, h7, h8, h9, h10, h11, h12, hr', hB'⟩ := hHeld; exact ⟨bl_cell hb h0, bl_cell hb h1, bl_cell hb h2, bl_cell hb h3, bl_cell hb h4, bl_cell hb h5, bl_cell hb h6, bl_cell hb h7, bl_cell hb h8, bl_cell hb h9, bl_cell hb h10, bl_cell hb h11, bl_cell hb h12, res_bl hr' hb, bl_then hB' hb⟩)
    clear hHeld hK K
    rename _ => hHeld
    replace hA := acts_bl hA hb
    replace hN := res_bl hN hb
    clear hb
    try simp only [Act.put, List.setIfInBounds_toArray, List.set_cons_zero, List.set_cons_succ]
    refine callC (i := 9) rfl (fun K hK => ?_)
    go_simp
    refine (HAC.out _).mono ?_
    rintro e w6 ⟨rfl, hb⟩
    go_wp2_with fail
    refine hK.out _ _ ?_ (fun hHeld' => ?_)
    · (try dsimp only)
      (obtain ⟨h0, h1, h2, h3, h4, h5, h6, h7, h8, h9, h10, h11, h12, hr', hB'⟩ := hHeld; exact ⟨bl_cell hb h0, bl_cell hb h1, bl_cell hb h2, bl_cell hb h3, bl_cell hb h4, bl_cell hb h5, bl_cell hb h6, bl_cell hb h7, bl_cell hb h8, bl_cell hb h9, bl_cell hb h10, bl_cell hb h11, bl_cell hb h12, res_bl hr' hb, bl_then hB' hb⟩)
    clear hHeld hK K
    rename _ => hHeld
    replace hA := acts_bl hA hb
    replace hN := res_bl hN hb
    clear hb
    try simp only [Act.put, List.setIfInBounds_toArray, List.set_cons_zero, List.set_cons_succ]
    (refine tk (i := 10) rfl rfl hHeld ?_)
    (refine tk (i := 11) rfl rfl hHeld ?_)
    (refine tk (i := 12) rfl rfl hHeld ?_)
    refine callC (i := 14) rfl (fun K hK => ?_)
    obtain ⟨h0, h1, h2, h3, h4, h5, h6, h7, h8, h9, h10, h11, h12, hr', hB'⟩ := hHeld
    obtain ⟨f0, f1, f2, f3, u0, u1, u2, u3, i0, i1, i2, i3⟩ := res_all hN
    clear hHeld
    have hHeld : True := trivial
    go_simp
    refine hK.out _ _ ?_ (fun hHeld' => ?_)
    · (try dsimp only)
      (have e0 : nb ≠ w.heap.size := (by omega); have e1 : nb ≠ w.heap.size + 1 := (by omega); have e2 : nb ≠ w.heap.size + 1 + 1 := (by omega); exact ⟨far4 h0 e0, far4 h1 e0, far4 h2 e0, far4 h3 e0, far4 h4 e0, far4 h5 e0, far4 h6 e1, far4 h7 e1, far4 h8 e1, far4 h9 e1, far4 h10 e2, far4 h11 e2, far4 h12 e2, res4 hr', bl4 hB' (by omega)⟩)
    clear hHeld hK K
    rename _ => hHeld
    try simp only [Act.put, List.setIfInBounds_toArray, List.set_cons_zero, List.set_cons_succ]
    (refine tk (i := 15) rfl rfl hHeld ?_)
    refine wpAnyH_done (by kernel_rfl) ?_ _
    obtain ⟨h0, h1, h2, h3, h4, h5, h6, h7, h8, h9, h10, h11, h12, hr'', hE⟩ := hHeld
    refine then_abs (F := fun X => (X.cell? ⟨nb, 0, none⟩ = some (.int .i64 aat) ∧ X.cell? ⟨nb, 1, none⟩ = some (.int .i64 (alv)) ∧ X.cell? ⟨nb, 2, none⟩ = some (.int .i64 (ahd - acost)) ∧ X.cell? ⟨nb, 3, none⟩ = some (.slice none 0 0)) ∧ X.cell? ⟨w.heap.size + 1, 0, none⟩ = some (.int .i64 at_) ∧ X.cell? ⟨w.heap.size + 1, 1, none⟩ = some (.int .i64 level) ∧ X.cell? ⟨w.heap.size + 1, 2, none⟩ = some (.int .i64 held) ∧ X.cell? ⟨w.heap.size + 1, 3, none⟩ = some (.slice a 0 c) ∧ ResB X (w.heap.size + 1 + 1 + 1) ∧ Below w.heap.size w X) ⟨set4 _ _ _ _ i0 i1 i2 i3, h6, h7, h8, h9, hr'', hE⟩ ?_
    rintro X ⟨⟨x0, x1, x2, x3⟩, c6, c7, c8, c9, hR, hE⟩
    obtain ⟨F0, F1, F2, F3, U0, U1, U2, U3, I0, I1, I2, I3⟩ := res_all hR
    clear hA hN hr' hB' hr'' i0 i1 i2 i3 f0 f1 f2 f3 u0 u1 u2 u3 hR h0 h1 h2 h3 h4 h5 h6 h7 h8 h9 h10 h11 h12
    cases g
    · repeat go_step
      (try simp only [Exit.inBlock, Exit.then])
      refine bodyPost_ret (results_state2 rfl _ _ (by rfl) (set4 _ _ _ _ I0 I1 I2 I3)) rfl ⟨by first | rfl | simp, bl4 hE (by omega)⟩
    · repeat go_step
      (try simp only [Exit.inBlock, Exit.then])
      refine bodyPost_ret (results_state2 rfl _ _ (by rfl) (set4 _ _ _ _ I0 I1 I2 I3)) rfl ⟨by first | rfl | simp, bl4 hE (by omega)⟩

end Go.Proofs.Ythinbjknkjpdjaa

namespace Go.Proofs.Ythinbjknkjpdjaa
open Go.RowKit
set_option linter.unusedVariables false
set_option linter.unusedSimpArgs false

set_option maxHeartbeats 2000000 in
set_option maxRecDepth 100000 in
theorem bdo_no (p : Pol) (s : St) (a : Option Addr) (n c : Nat) (hn : s.log.length = n) (ak anow acost : Int) (w : World) (h : ¬ rightB p s) :
    Calls Try.prog 17 #[p.v, s.v a n c, .agg #[.int .i64 ak, .int .i64 anow, .int .i64 acost]] w fun e w' =>
      e = .returned (.tuple #[St.none.v none 0 0, .bool false]) ∧ Below w.heap.size w w' := by
  have hrt := bright_any p s a n c hn
  rw [decide_eq_false h] at hrt
  have HLK := Go.Lib.hid (fun (W : World) (r q1 q2 : Nat) (hA : ActsAt W r q1 q2) => acts_look hA ak)
  clear h hn
  obtain ⟨k, l, d, b, cc, o⟩ := p
  obtain ⟨at_, level, held, lg⟩ := s
  unfold St.v Pol.v at *
  dsimp only at *
  have HRT := Go.Lib.hid hrt
  clear hrt
  generalize hkd : decide (ak = 1 ∨ ak = 2 ∨ ak = 3 ∨ ak = 4) = kd at *
  clear hkd
  unfold St.none
  dsimp only
  go_enter Try.func17, Try.ntmps17
  go_wp2_with fail
  refine wp_abs (S0 := fun w' => w'.cell? ⟨w.heap.size, 0, none⟩ = some (.int .i64 k) ∧ w'.cell? ⟨w.heap.size, 1, none⟩ = some (.int .i64 l) ∧ w'.cell? ⟨w.heap.size, 2, none⟩ = some (.int .i64 d) ∧ w'.cell? ⟨w.heap.size, 3, none⟩ = some (.int .i64 b) ∧ w'.cell? ⟨w.heap.size, 4, none⟩ = some (.int .i64 cc) ∧ w'.cell? ⟨w.heap.size, 5, none⟩ = some (.bool o) ∧ w'.cell? ⟨w.heap.size + 1, 0, none⟩ = some (.int .i64 at_) ∧ w'.cell? ⟨w.heap.size + 1, 1, none⟩ = some (.int .i64 level) ∧ w'.cell? ⟨w.heap.size + 1, 2, none⟩ = some (.int .i64 held) ∧ w'.cell? ⟨w.heap.size + 1, 3, none⟩ = some (.slice a n c) ∧ w'.cell? ⟨w.heap.size + 1 + 1, 0, none⟩ = some (.int .i64 ak) ∧ w'.cell? ⟨w.heap.size + 1 + 1, 1, none⟩ = some (.int .i64 anow) ∧ w'.cell? ⟨w.heap.size + 1 + 1, 2, none⟩ = some (.int .i64 acost) ∧ ResB w' (w.heap.size + 1 + 1 + 1) ∧ Below w.heap.size w w') ⟨by go_simp, by go_simp, by go_simp, by go_simp, by go_simp, by go_simp, by go_simp, by go_simp, by go_simp, by go_simp, by go_simp, by go_simp, by go_simp, res_new _ _ _ _ _ _ (by simp), bl_alloc (bl_alloc (bl_alloc (bl_alloc (bl_refl _) _) _) _) _⟩ ?_
  rintro W ⟨c0, c1, c2, c3, c4, c5, c6, c7, c8, c9, c10, c11, c12, hR, hB⟩
  refine wp_region_held_drew (S := fun w' => w'.cell? ⟨w.heap.size, 0, none⟩ = some (.int .i64 k) ∧ w'.cell? ⟨w.heap.size, 1, none⟩ = some (.int .i64 l) ∧ w'.cell? ⟨w.heap.size, 2, none⟩ = some (.int .i64 d) ∧ w'.cell? ⟨w.heap.size, 3, none⟩ = some (.int .i64 b) ∧ w'.cell? ⟨w.heap.size, 4, none⟩ = some (.int .i64 cc) ∧ w'.cell? ⟨w.heap.size, 5, none⟩ = some (.bool o) ∧ w'.cell? ⟨w.heap.size + 1, 0, none⟩ = some (.int .i64 at_) ∧ w'.cell? ⟨w.heap.size + 1, 1, none⟩ = some (.int .i64 level) ∧ w'.cell? ⟨w.heap.size + 1, 2, none⟩ = some (.int .i64 held) ∧ w'.cell? ⟨w.heap.size + 1, 3, none⟩ = some (.slice a n c) ∧ w'.cell? ⟨w.heap.size + 1 + 1, 0, none⟩ = some (.int .i64 ak) ∧ w'.cell? ⟨w.heap.size + 1 + 1, 1, none⟩ = some (.int .i64 anow) ∧ w'.cell? ⟨w.heap.size + 1 + 1, 2, none⟩ = some (.int .i64 acost) ∧ ResB w' (w.heap.size + 1 + 1 + 1) ∧ Below w.heap.size w w') (by kernel_rfl) ?_ (fun hHeld => ?_)
  · exact ⟨c0, c1, c2, c3, c4, c5, c6, c7, c8, c9, c10, c11, c12, hR, bl_drew hB⟩
  try simp only [Act.put, List.setIfInBounds_toArray, List.set_cons_zero, List.set_cons_succ]
  (refine tk (i := 1) rfl rfl hHeld ?_)
  (refine tk (i := 2) rfl rfl hHeld ?_)
  (refine callC (i := 0) rfl (fun K hK => ?_); go_simp; refine (acts_any _).mono ?_; rintro e w1 ⟨rfl, hA, hb⟩; generalize W.drew.heap.size + 1 + 1 = qr at *; generalize W.drew.heap.size + 1 = q2 at *; generalize W.drew.heap.size = q1 at hA; go_wp2_with fail; refine hK.out _ _ ?_ (fun hHeld' => ?_); (focus ((try dsimp only); (obtain ⟨h0, h1, h2, h3, h4, h5, h6, h7, h8, h9, h10, h11, h12, hr', hB'⟩ := hHeld; exact ⟨bl_cell hb h0, bl_cell hb h1, bl_cell hb h2, bl_cell hb h3, bl_cell hb h4, bl_cell hb h5, bl_cell hb h6, bl_cell hb h7, bl_cell hb h8, bl_cell hb h9, bl_cell hb h10, bl_cell hb h11, bl_cell hb h12, res_bl hr' hb, bl_then hB' hb⟩))); clear hHeld hK K; rename _ => hHeld; try simp only [Act.put, List.setIfInBounds_toArray, List.set_cons_zero, List.set_cons_succ])
  have hlk := HLK.out _ _ _ _ hA
  clear HLK
  generalize actF q1 q2 ak = fv at hlk
  (refine callC (i := 3) rfl (fun K hK => ?_); go_simp; refine hK.out _ _ ?_ (fun hHeld' => ?_); (focus ((try dsimp only); exact hHeld)); clear hHeld hK K; rename _ => hHeld; clear hlk; try simp only [Act.put, List.setIfInBounds_toArray, List.set_cons_zero, List.set_cons_succ])
  (refine tk (i := 4) rfl rfl hHeld ?_)
  (refine tk (i := 5) rfl rfl hHeld ?_)
  (refine tk (i := 6) rfl rfl hHeld ?_)
  (refine tk (i := 7) rfl rfl hHeld ?_)
  (refine tk (i := 8) rfl rfl hHeld ?_)
  refine wpAnyH_done (by kernel_rfl) ?_ _
  clear hR hB c0 c1 c2 c3 c4 c5 c6 c7 c8 c9 c10 c11 c12
  obtain ⟨c0, c1, c2, c3, c4, c5, c6, c7, c8, c9, c10, c11, c12, hR, hB⟩ := hHeld
  go_wp2_with fail
  refine (HRT.out _).mono ?_
  rintro e w2 ⟨rfl, hb2⟩
  have d0 := bl_cell hb2 c0
  have d1 := bl_cell hb2 c1
  have d2 := bl_cell hb2 c2
  have d3 := bl_cell hb2 c3
  have d4 := bl_cell hb2 c4
  have d5 := bl_cell hb2 c5
  have d6 := bl_cell hb2 c6
  have d7 := bl_cell hb2 c7
  have d8 := bl_cell hb2 c8
  have d9 := bl_cell hb2 c9
  have d10 := bl_cell hb2 c10
  have d11 := bl_cell hb2 c11
  have d12 := bl_cell hb2 c12
  have dR := res_bl hR hb2
  have dB := bl_then hB hb2
  obtain ⟨F0, F1, F2, F3, U0, U1, U2, U3, I0, I1, I2, I3⟩ := res_all dR
  clear hR hB hA hb2 dR HRT c0 c1 c2 c3 c4 c5 c6 c7 c8 c9 c10 c11 c12
  go_wp2_with fail
  (try simp only [Exit.inBlock, Exit.then])
  refine bodyPost_ret (results_state2 rfl _ _ (by rfl) (set4 _ _ _ _ I0 I1 I2 I3)) rfl ⟨by first | rfl | simp, bl4 dB (by omega)⟩

set_option maxHeartbeats 2000000 in
set_option maxRecDepth 100000 in
theorem bdo_kind (p : Pol) (s : St) (a : Option Addr) (n c : Nat) (hn : s.log.length = n) (ak anow acost : Int) (w : World) (h : rightB p s) (hk : ¬ (ak = 1 ∨ ak = 2 ∨ ak = 3 ∨ ak = 4)) :
    Calls Try.prog 17 #[p.v, s.v a n c, .agg #[.int .i64 ak, .int .i64 anow, .int .i64 acost]] w fun e w' =>
      e = .returned (.tuple #[s.v a n c, .bool false]) ∧ Below w.heap.size w w' := by
  have hrt := bright_any p s a n c hn
  rw [decide_eq_true h] at hrt
  have hkk := decide_eq_false hk
  have HLK := Go.Lib.hid (fun (W : World) (r q1 q2 : Nat) (hA : ActsAt W r q1 q2) => acts_look hA ak)
  clear h hn
  rw [hkk] at HLK
  clear hk hkk
  obtain ⟨k, l, d, b, cc, o⟩ := p
  obtain ⟨at_, level, held, lg⟩ := s
  unfold St.v Pol.v at *
  dsimp only at *
  have HRT := Go.Lib.hid hrt
  clear hrt
  go_enter Try.func17, Try.ntmps17
  go_wp2_with fail
  refine wp_abs (S0 := fun w' => w'.cell? ⟨w.heap.size, 0, none⟩ = some (.int .i64 k) ∧ w'.cell? ⟨w.heap.size, 1, none⟩ = some (.int .i64 l) ∧ w'.cell? ⟨w.heap.size, 2, none⟩ = some (.int .i64 d) ∧ w'.cell? ⟨w.heap.size, 3, none⟩ = some (.int .i64 b) ∧ w'.cell? ⟨w.heap.size, 4, none⟩ = some (.int .i64 cc) ∧ w'.cell? ⟨w.heap.size, 5, none⟩ = some (.bool o) ∧ w'.cell? ⟨w.heap.size + 1, 0, none⟩ = some (.int .i64 at_) ∧ w'.cell? ⟨w.heap.size + 1, 1, none⟩ = some (.int .i64 level) ∧ w'.cell? ⟨w.heap.size + 1, 2, none⟩ = some (.int .i64 held) ∧ w'.cell? ⟨w.heap.size + 1, 3, none⟩ = some (.slice a n c) ∧ w'.cell? ⟨w.heap.size + 1 + 1, 0, none⟩ = some (.int .i64 ak) ∧ w'.cell? ⟨w.heap.size + 1 + 1, 1, none⟩ = some (.int .i64 anow) ∧ w'.cell? ⟨w.heap.size + 1 + 1, 2, none⟩ = some (.int .i64 acost) ∧ ResB w' (w.heap.size + 1 + 1 + 1) ∧ Below w.heap.size w w') ⟨by go_simp, by go_simp, by go_simp, by go_simp, by go_simp, by go_simp, by go_simp, by go_simp, by go_simp, by go_simp, by go_simp, by go_simp, by go_simp, res_new _ _ _ _ _ _ (by simp), bl_alloc (bl_alloc (bl_alloc (bl_alloc (bl_refl _) _) _) _) _⟩ ?_
  rintro W ⟨c0, c1, c2, c3, c4, c5, c6, c7, c8, c9, c10, c11, c12, hR, hB⟩
  refine wp_region_held_drew (S := fun w' => w'.cell? ⟨w.heap.size, 0, none⟩ = some (.int .i64 k) ∧ w'.cell? ⟨w.heap.size, 1, none⟩ = some (.int .i64 l) ∧ w'.cell? ⟨w.heap.size, 2, none⟩ = some (.int .i64 d) ∧ w'.cell? ⟨w.heap.size, 3, none⟩ = some (.int .i64 b) ∧ w'.cell? ⟨w.heap.size, 4, none⟩ = some (.int .i64 cc) ∧ w'.cell? ⟨w.heap.size, 5, none⟩ = some (.bool o) ∧ w'.cell? ⟨w.heap.size + 1, 0, none⟩ = some (.int .i64 at_) ∧ w'.cell? ⟨w.heap.size + 1, 1, none⟩ = some (.int .i64 level) ∧ w'.cell? ⟨w.heap.size + 1, 2, none⟩ = some (.int .i64 held) ∧ w'.cell? ⟨w.heap.size + 1, 3, none⟩ = some (.slice a n c) ∧ w'.cell? ⟨w.heap.size + 1 + 1, 0, none⟩ = some (.int .i64 ak) ∧ w'.cell? ⟨w.heap.size + 1 + 1, 1, none⟩ = some (.int .i64 anow) ∧ w'.cell? ⟨w.heap.size + 1 + 1, 2, none⟩ = some (.int .i64 acost) ∧ ResB w' (w.heap.size + 1 + 1 + 1) ∧ Below w.heap.size w w') (by kernel_rfl) ?_ (fun hHeld => ?_)
  · exact ⟨c0, c1, c2, c3, c4, c5, c6, c7, c8, c9, c10, c11, c12, hR, bl_drew hB⟩
  try simp only [Act.put, List.setIfInBounds_toArray, List.set_cons_zero, List.set_cons_succ]
  (refine tk (i := 1) rfl rfl hHeld ?_)
  (refine tk (i := 2) rfl rfl hHeld ?_)
  (refine callC (i := 0) rfl (fun K hK => ?_); go_simp; refine (acts_any _).mono ?_; rintro e w1 ⟨rfl, hA, hb⟩; generalize W.drew.heap.size + 1 + 1 = qr at *; generalize W.drew.heap.size + 1 = q2 at *; generalize W.drew.heap.size = q1 at hA; go_wp2_with fail; refine hK.out _ _ ?_ (fun hHeld' => ?_); (focus ((try dsimp only); (obtain ⟨h0, h1, h2, h3, h4, h5, h6, h7, h8, h9, h10, h11, h12, hr', hB'⟩ := hHeld; exact ⟨bl_cell hb h0, bl_cell hb h1, bl_cell hb h2, bl_cell hb h3, bl_cell hb h4, bl_cell hb h5, bl_cell hb h6, bl_cell hb h7, bl_cell hb h8, bl_cell hb h9, bl_cell hb h10, bl_cell hb h11, bl_cell hb h12, res_bl hr' hb, bl_then hB' hb⟩))); clear hHeld hK K; rename _ => hHeld; try simp only [Act.put, List.setIfInBounds_toArray, List.set_cons_zero, List.set_cons_succ])
  have hlk := HLK.out _ _ _ _ hA
  clear HLK
  generalize actF q1 q2 ak = fv at hlk
  (refine callC (i := 3) rfl (fun K hK => ?_); go_simp; refine hK.out _ _ ?_ (fun hHeld' => ?_); (focus ((try dsimp only); exact hHeld)); clear hHeld hK K; rename _ => hHeld; clear hlk; try simp only [Act.put, List.setIfInBounds_toArray, List.set_cons_zero, List.set_cons_succ])
  (refine tk (i := 4) rfl rfl hHeld ?_)
  (refine tk (i := 5) rfl rfl hHeld ?_)
  (refine tk (i := 6) rfl rfl hHeld ?_)
  (refine tk (i := 7) rfl rfl hHeld ?_)
  (refine tk (i := 8) rfl rfl hHeld ?_)
  refine wpAnyH_done (by kernel_rfl) ?_ _
  clear hR hB c0 c1 c2 c3 c4 c5 c6 c7 c8 c9 c10 c11 c12
  obtain ⟨c0, c1, c2, c3, c4, c5, c6, c7, c8, c9, c10, c11, c12, hR, hB⟩ := hHeld
  go_wp2_with fail
  refine (HRT.out _).mono ?_
  rintro e w2 ⟨rfl, hb2⟩
  have d0 := bl_cell hb2 c0
  have d1 := bl_cell hb2 c1
  have d2 := bl_cell hb2 c2
  have d3 := bl_cell hb2 c3
  have d4 := bl_cell hb2 c4
  have d5 := bl_cell hb2 c5
  have d6 := bl_cell hb2 c6
  have d7 := bl_cell hb2 c7
  have d8 := bl_cell hb2 c8
  have d9 := bl_cell hb2 c9
  have d10 := bl_cell hb2 c10
  have d11 := bl_cell hb2 c11
  have d12 := bl_cell hb2 c12
  have dR := res_bl hR hb2
  have dB := bl_then hB hb2
  obtain ⟨F0, F1, F2, F3, U0, U1, U2, U3, I0, I1, I2, I3⟩ := res_all dR
  clear hR hB hA hb2 dR HRT c0 c1 c2 c3 c4 c5 c6 c7 c8 c9 c10 c11 c12
  go_wp2_with fail
  (try simp only [Exit.inBlock, Exit.then])
  refine bodyPost_ret (results_state2 rfl _ _ (by rfl) (set4 _ _ _ _ I0 I1 I2 I3)) rfl ⟨by first | rfl | simp, bl4 dB (by omega)⟩

set_option maxHeartbeats 2000000 in
set_option maxRecDepth 100000 in
theorem bdo_less (p : Pol) (s : St) (a : Option Addr) (n c : Nat) (hn : s.log.length = n) (ak anow acost : Int) (w : World) (h : rightB p s) (hk : (ak = 1 ∨ ak = 2 ∨ ak = 3 ∨ ak = 4)) (hc : acost < 1) :
    Calls Try.prog 17 #[p.v, s.v a n c, .agg #[.int .i64 ak, .int .i64 anow, .int .i64 acost]] w fun e w' =>
      e = .returned (.tuple #[s.v a n c, .bool false]) ∧ Below w.heap.size w w' := by
  have hrt := bright_any p s a n c hn
  rw [decide_eq_true h] at hrt
  have hkk := decide_eq_true hk
  have HLK := Go.Lib.hid (fun (W : World) (r q1 q2 : Nat) (hA : ActsAt W r q1 q2) => acts_look hA ak)
  clear h hn
  rw [hkk] at HLK
  clear hk hkk
  obtain ⟨k, l, d, b, cc, o⟩ := p
  obtain ⟨at_, level, held, lg⟩ := s
  unfold St.v Pol.v at *
  dsimp only at *
  have HRT := Go.Lib.hid hrt
  clear hrt
  go_enter Try.func17, Try.ntmps17
  go_wp2_with fail
  refine wp_abs (S0 := fun w' => w'.cell? ⟨w.heap.size, 0, none⟩ = some (.int .i64 k) ∧ w'.cell? ⟨w.heap.size, 1, none⟩ = some (.int .i64 l) ∧ w'.cell? ⟨w.heap.size, 2, none⟩ = some (.int .i64 d) ∧ w'.cell? ⟨w.heap.size, 3, none⟩ = some (.int .i64 b) ∧ w'.cell? ⟨w.heap.size, 4, none⟩ = some (.int .i64 cc) ∧ w'.cell? ⟨w.heap.size, 5, none⟩ = some (.bool o) ∧ w'.cell? ⟨w.heap.size + 1, 0, none⟩ = some (.int .i64 at_) ∧ w'.cell? ⟨w.heap.size + 1, 1, none⟩ = some (.int .i64 level) ∧ w'.cell? ⟨w.heap.size + 1, 2, none⟩ = some (.int .i64 held) ∧ w'.cell? ⟨w.heap.size + 1, 3, none⟩ = some (.slice a n c) ∧ w'.cell? ⟨w.heap.size + 1 + 1, 0, none⟩ = some (.int .i64 ak) ∧ w'.cell? ⟨w.heap.size + 1 + 1, 1, none⟩ = some (.int .i64 anow) ∧ w'.cell? ⟨w.heap.size + 1 + 1, 2, none⟩ = some (.int .i64 acost) ∧ ResB w' (w.heap.size + 1 + 1 + 1) ∧ Below w.heap.size w w') ⟨by go_simp, by go_simp, by go_simp, by go_simp, by go_simp, by go_simp, by go_simp, by go_simp, by go_simp, by go_simp, by go_simp, by go_simp, by go_simp, res_new _ _ _ _ _ _ (by simp), bl_alloc (bl_alloc (bl_alloc (bl_alloc (bl_refl _) _) _) _) _⟩ ?_
  rintro W ⟨c0, c1, c2, c3, c4, c5, c6, c7, c8, c9, c10, c11, c12, hR, hB⟩
  refine wp_region_held_drew (S := fun w' => w'.cell? ⟨w.heap.size, 0, none⟩ = some (.int .i64 k) ∧ w'.cell? ⟨w.heap.size, 1, none⟩ = some (.int .i64 l) ∧ w'.cell? ⟨w.heap.size, 2, none⟩ = some (.int .i64 d) ∧ w'.cell? ⟨w.heap.size, 3, none⟩ = some (.int .i64 b) ∧ w'.cell? ⟨w.heap.size, 4, none⟩ = some (.int .i64 cc) ∧ w'.cell? ⟨w.heap.size, 5, none⟩ = some (.bool o) ∧ w'.cell? ⟨w.heap.size + 1, 0, none⟩ = some (.int .i64 at_) ∧ w'.cell? ⟨w.heap.size + 1, 1, none⟩ = some (.int .i64 level) ∧ w'.cell? ⟨w.heap.size + 1, 2, none⟩ = some (.int .i64 held) ∧ w'.cell? ⟨w.heap.size + 1, 3, none⟩ = some (.slice a n c) ∧ w'.cell? ⟨w.heap.size + 1 + 1, 0, none⟩ = some (.int .i64 ak) ∧ w'.cell? ⟨w.heap.size + 1 + 1, 1, none⟩ = some (.int .i64 anow) ∧ w'.cell? ⟨w.heap.size + 1 + 1, 2, none⟩ = some (.int .i64 acost) ∧ ResB w' (w.heap.size + 1 + 1 + 1) ∧ Below w.heap.size w w') (by kernel_rfl) ?_ (fun hHeld => ?_)
  · exact ⟨c0, c1, c2, c3, c4, c5, c6, c7, c8, c9, c10, c11, c12, hR, bl_drew hB⟩
  try simp only [Act.put, List.setIfInBounds_toArray, List.set_cons_zero, List.set_cons_succ]
  (refine tk (i := 1) rfl rfl hHeld ?_)
  (refine tk (i := 2) rfl rfl hHeld ?_)
  (refine callC (i := 0) rfl (fun K hK => ?_); go_simp; refine (acts_any _).mono ?_; rintro e w1 ⟨rfl, hA, hb⟩; generalize W.drew.heap.size + 1 + 1 = qr at *; generalize W.drew.heap.size + 1 = q2 at *; generalize W.drew.heap.size = q1 at hA; go_wp2_with fail; refine hK.out _ _ ?_ (fun hHeld' => ?_); (focus ((try dsimp only); (obtain ⟨h0, h1, h2, h3, h4, h5, h6, h7, h8, h9, h10, h11, h12, hr', hB'⟩ := hHeld; exact ⟨bl_cell hb h0, bl_cell hb h1, bl_cell hb h2, bl_cell hb h3, bl_cell hb h4, bl_cell hb h5, bl_cell hb h6, bl_cell hb h7, bl_cell hb h8, bl_cell hb h9, bl_cell hb h10, bl_cell hb h11, bl_cell hb h12, res_bl hr' hb, bl_then hB' hb⟩))); clear hHeld hK K; rename _ => hHeld; try simp only [Act.put, List.setIfInBounds_toArray, List.set_cons_zero, List.set_cons_succ])
  have hlk := HLK.out _ _ _ _ hA
  clear HLK
  generalize actF q1 q2 ak = fv at hlk
  (refine callC (i := 3) rfl (fun K hK => ?_); go_simp; refine hK.out _ _ ?_ (fun hHeld' => ?_); (focus ((try dsimp only); exact hHeld)); clear hHeld hK K; rename _ => hHeld; clear hlk; try simp only [Act.put, List.setIfInBounds_toArray, List.set_cons_zero, List.set_cons_succ])
  (refine tk (i := 4) rfl rfl hHeld ?_)
  (refine tk (i := 5) rfl rfl hHeld ?_)
  (refine tk (i := 6) rfl rfl hHeld ?_)
  (refine tk (i := 7) rfl rfl hHeld ?_)
  (refine tk (i := 8) rfl rfl hHeld ?_)
  refine wpAnyH_done (by kernel_rfl) ?_ _
  clear hR hB c0 c1 c2 c3 c4 c5 c6 c7 c8 c9 c10 c11 c12
  obtain ⟨c0, c1, c2, c3, c4, c5, c6, c7, c8, c9, c10, c11, c12, hR, hB⟩ := hHeld
  go_wp2_with fail
  refine (HRT.out _).mono ?_
  rintro e w2 ⟨rfl, hb2⟩
  have d0 := bl_cell hb2 c0
  have d1 := bl_cell hb2 c1
  have d2 := bl_cell hb2 c2
  have d3 := bl_cell hb2 c3
  have d4 := bl_cell hb2 c4
  have d5 := bl_cell hb2 c5
  have d6 := bl_cell hb2 c6
  have d7 := bl_cell hb2 c7
  have d8 := bl_cell hb2 c8
  have d9 := bl_cell hb2 c9
  have d10 := bl_cell hb2 c10
  have d11 := bl_cell hb2 c11
  have d12 := bl_cell hb2 c12
  have dR := res_bl hR hb2
  have dB := bl_then hB hb2
  obtain ⟨F0, F1, F2, F3, U0, U1, U2, U3, I0, I1, I2, I3⟩ := res_all dR
  clear hR hB hA hb2 dR HRT c0 c1 c2 c3 c4 c5 c6 c7 c8 c9 c10 c11 c12
  go_wp2_with fail
  (try simp only [Exit.inBlock, Exit.then])
  refine bodyPost_ret (results_state2 rfl _ _ (by rfl) (set4 _ _ _ _ I0 I1 I2 I3)) rfl ⟨by first | rfl | simp, bl4 dB (by omega)⟩

set_option maxHeartbeats 2000000 in
set_option maxRecDepth 100000 in
theorem bdo_more (p : Pol) (s : St) (a : Option Addr) (n c : Nat) (hn : s.log.length = n) (ak anow acost : Int) (w : World) (h : rightB p s) (hk : (ak = 1 ∨ ak = 2 ∨ ak = 3 ∨ ak = 4)) (hc0 : ¬ acost < 1) (hc : p.burst < acost) :
    Calls Try.prog 17 #[p.v, s.v a n c, .agg #[.int .i64 ak, .int .i64 anow, .int .i64 acost]] w fun e w' =>
      e = .returned (.tuple #[s.v a n c, .bool false]) ∧ Below w.heap.size w w' := by
  have hrt := bright_any p s a n c hn
  rw [decide_eq_true h] at hrt
  have hkk := decide_eq_true hk
  have HLK := Go.Lib.hid (fun (W : World) (r q1 q2 : Nat) (hA : ActsAt W r q1 q2) => acts_look hA ak)
  clear h hn
  rw [hkk] at HLK
  clear hk hkk
  obtain ⟨k, l, d, b, cc, o⟩ := p
  obtain ⟨at_, level, held, lg⟩ := s
  unfold St.v Pol.v at *
  dsimp only at *
  have HRT := Go.Lib.hid hrt
  clear hrt
  go_enter Try.func17, Try.ntmps17
  go_wp2_with fail
  refine wp_abs (S0 := fun w' => w'.cell? ⟨w.heap.size, 0, none⟩ = some (.int .i64 k) ∧ w'.cell? ⟨w.heap.size, 1, none⟩ = some (.int .i64 l) ∧ w'.cell? ⟨w.heap.size, 2, none⟩ = some (.int .i64 d) ∧ w'.cell? ⟨w.heap.size, 3, none⟩ = some (.int .i64 b) ∧ w'.cell? ⟨w.heap.size, 4, none⟩ = some (.int .i64 cc) ∧ w'.cell? ⟨w.heap.size, 5, none⟩ = some (.bool o) ∧ w'.cell? ⟨w.heap.size + 1, 0, none⟩ = some (.int .i64 at_) ∧ w'.cell? ⟨w.heap.size + 1, 1, none⟩ = some (.int .i64 level) ∧ w'.cell? ⟨w.heap.size + 1, 2, none⟩ = some (.int .i64 held) ∧ w'.cell? ⟨w.heap.size + 1, 3, none⟩ = some (.slice a n c) ∧ w'.cell? ⟨w.heap.size + 1 + 1, 0, none⟩ = some (.int .i64 ak) ∧ w'.cell? ⟨w.heap.size + 1 + 1, 1, none⟩ = some (.int .i64 anow) ∧ w'.cell? ⟨w.heap.size + 1 + 1, 2, none⟩ = some (.int .i64 acost) ∧ ResB w' (w.heap.size + 1 + 1 + 1) ∧ Below w.heap.size w w') ⟨by go_simp, by go_simp, by go_simp, by go_simp, by go_simp, by go_simp, by go_simp, by go_simp, by go_simp, by go_simp, by go_simp, by go_simp, by go_simp, res_new _ _ _ _ _ _ (by simp), bl_alloc (bl_alloc (bl_alloc (bl_alloc (bl_refl _) _) _) _) _⟩ ?_
  rintro W ⟨c0, c1, c2, c3, c4, c5, c6, c7, c8, c9, c10, c11, c12, hR, hB⟩
  refine wp_region_held_drew (S := fun w' => w'.cell? ⟨w.heap.size, 0, none⟩ = some (.int .i64 k) ∧ w'.cell? ⟨w.heap.size, 1, none⟩ = some (.int .i64 l) ∧ w'.cell? ⟨w.heap.size, 2, none⟩ = some (.int .i64 d) ∧ w'.cell? ⟨w.heap.size, 3, none⟩ = some (.int .i64 b) ∧ w'.cell? ⟨w.heap.size, 4, none⟩ = some (.int .i64 cc) ∧ w'.cell? ⟨w.heap.size, 5, none⟩ = some (.bool o) ∧ w'.cell? ⟨w.heap.size + 1, 0, none⟩ = some (.int .i64 at_) ∧ w'.cell? ⟨w.heap.size + 1, 1, none⟩ = some (.int .i64 level) ∧ w'.cell? ⟨w.heap.size + 1, 2, none⟩ = some (.int .i64 held) ∧ w'.cell? ⟨w.heap.size + 1, 3, none⟩ = some (.slice a n c) ∧ w'.cell? ⟨w.heap.size + 1 + 1, 0, none⟩ = some (.int .i64 ak) ∧ w'.cell? ⟨w.heap.size + 1 + 1, 1, none⟩ = some (.int .i64 anow) ∧ w'.cell? ⟨w.heap.size + 1 + 1, 2, none⟩ = some (.int .i64 acost) ∧ ResB w' (w.heap.size + 1 + 1 + 1) ∧ Below w.heap.size w w') (by kernel_rfl) ?_ (fun hHeld => ?_)
  · exact ⟨c0, c1, c2, c3, c4, c5, c6, c7, c8, c9, c10, c11, c12, hR, bl_drew hB⟩
  try simp only [Act.put, List.setIfInBounds_toArray, List.set_cons_zero, List.set_cons_succ]
  (refine tk (i := 1) rfl rfl hHeld ?_)
  (refine tk (i := 2) rfl rfl hHeld ?_)
  (refine callC (i := 0) rfl (fun K hK => ?_); go_simp; refine (acts_any _).mono ?_; rintro e w1 ⟨rfl, hA, hb⟩; generalize W.drew.heap.size + 1 + 1 = qr at *; generalize W.drew.heap.size + 1 = q2 at *; generalize W.drew.heap.size = q1 at hA; go_wp2_with fail; refine hK.out _ _ ?_ (fun hHeld' => ?_); (focus ((try dsimp only); (obtain ⟨h0, h1, h2, h3, h4, h5, h6, h7, h8, h9, h10, h11, h12, hr', hB'⟩ := hHeld; exact ⟨bl_cell hb h0, bl_cell hb h1, bl_cell hb h2, bl_cell hb h3, bl_cell hb h4, bl_cell hb h5, bl_cell hb h6, bl_cell hb h7, bl_cell hb h8, bl_cell hb h9, bl_cell hb h10, bl_cell hb h11, bl_cell hb h12, res_bl hr' hb, bl_then hB' hb⟩))); clear hHeld hK K; rename _ => hHeld; try simp only [Act.put, List.setIfInBounds_toArray, List.set_cons_zero, List.set_cons_succ])
  have hlk := HLK.out _ _ _ _ hA
  clear HLK
  generalize actF q1 q2 ak = fv at hlk
  (refine callC (i := 3) rfl (fun K hK => ?_); go_simp; refine hK.out _ _ ?_ (fun hHeld' => ?_); (focus ((try dsimp only); exact hHeld)); clear hHeld hK K; rename _ => hHeld; clear hlk; try simp only [Act.put, List.setIfInBounds_toArray, List.set_cons_zero, List.set_cons_succ])
  (refine tk (i := 4) rfl rfl hHeld ?_)
  (refine tk (i := 5) rfl rfl hHeld ?_)
  (refine tk (i := 6) rfl rfl hHeld ?_)
  (refine tk (i := 7) rfl rfl hHeld ?_)
  (refine tk (i := 8) rfl rfl hHeld ?_)
  refine wpAnyH_done (by kernel_rfl) ?_ _
  clear hR hB c0 c1 c2 c3 c4 c5 c6 c7 c8 c9 c10 c11 c12
  obtain ⟨c0, c1, c2, c3, c4, c5, c6, c7, c8, c9, c10, c11, c12, hR, hB⟩ := hHeld
  go_wp2_with fail
  refine (HRT.out _).mono ?_
  rintro e w2 ⟨rfl, hb2⟩
  have d0 := bl_cell hb2 c0
  have d1 := bl_cell hb2 c1
  have d2 := bl_cell hb2 c2
  have d3 := bl_cell hb2 c3
  have d4 := bl_cell hb2 c4
  have d5 := bl_cell hb2 c5
  have d6 := bl_cell hb2 c6
  have d7 := bl_cell hb2 c7
  have d8 := bl_cell hb2 c8
  have d9 := bl_cell hb2 c9
  have d10 := bl_cell hb2 c10
  have d11 := bl_cell hb2 c11
  have d12 := bl_cell hb2 c12
  have dR := res_bl hR hb2
  have dB := bl_then hB hb2
  obtain ⟨F0, F1, F2, F3, U0, U1, U2, U3, I0, I1, I2, I3⟩ := res_all dR
  clear hR hB hA hb2 dR HRT c0 c1 c2 c3 c4 c5 c6 c7 c8 c9 c10 c11 c12
  go_wp2_with fail
  (try simp only [Exit.inBlock, Exit.then])
  refine bodyPost_ret (results_state2 rfl _ _ (by rfl) (set4 _ _ _ _ I0 I1 I2 I3)) rfl ⟨by first | rfl | simp, bl4 dB (by omega)⟩

end Go.Proofs.Ythinbjknkjpdjaa

namespace Go.Proofs.Ythinbjknkjpdjaa
open Go.RowKit
set_option linter.unusedVariables false
set_option linter.unusedSimpArgs false

set_option maxHeartbeats 2000000 in
set_option maxRecDepth 100000 in
theorem gdo_1 (p : Pol) (s : St) (a : Option Addr) (c : Nat) (anow acost : Int) (A : St) (w : World) (h : rightG p s) (hc1 : 1 ≤ acost) (hc2 : acost ≤ p.burst) (hA : A = advG p s anow) (bad : Bool) (hbad : bad = true ↔ (A.held < 0 ∨ p.burst * p.period < A.level + acost * p.period)) :
    Calls Try.prog 19 #[p.v, s.v a 0 c, .agg #[.int .i64 1, .int .i64 anow, .int .i64 acost]] w fun e w' =>
      e = .returned (.tuple #[if bad then s.v a 0 c else .agg #[.int .i64 A.at_, .int .i64 (A.level + acost * p.period), .int .i64 (A.held), .slice none 0 0], .bool (!bad)]) ∧ Below w.heap.size w w' := by
  have hlg := h.2.2.2.2.2.2.2
  have hrt := gright_any p s a 0 c (by rw [hlg]; rfl)
  have hav := gadv_any p s a 0 c anow (by rw [hlg]; rfl)
  rw [decide_eq_true h] at hrt
  have hin := in_any acost 1 p.burst
  rw [inB_iff.2 ⟨hc1, hc2⟩] at hin
  have hok := h.1
  have hlv := advG_level p s anow h
  have hhd := advG_held p s anow h
  have hr3 := h.2.2.2.1
  have hr4 := h.2.2.2.2.1
  rw [← hA] at hav hlv hhd
  clear h hA
  obtain ⟨k, l, d, b, cc, o⟩ := p
  obtain ⟨at_, level, held, lg⟩ := s
  obtain ⟨aat, alv, ahd, alg⟩ := A
  unfold St.v Pol.v at *
  dsimp only at *
  obtain ⟨z0, z1, z2, z3, z4, z5, z6, z7⟩ := hok
  dsimp only at *
  have hM : acost * d ≤ 1152921504606846976 := prod_le (by omega) (by omega) (by omega)
  have hM0 : 0 ≤ acost * d := Int.mul_nonneg (by omega) (by omega)
  have hw1 : IntKind.i64.wrap (acost * d) = acost * d := IntWalk.i64_in _ (by omega)
  have hwb : IntKind.i64.wrap (b * d) = b * d := IntWalk.i64_in _ (by omega)
  have hw2 : IntKind.i64.wrap (alv + acost * d) = alv + acost * d := IntWalk.i64_in _ (by omega)
  have HRT := Go.Lib.hid hrt
  have HAV := Go.Lib.hid hav
  have HIN := Go.Lib.hid hin
  have hcase : (bad = true ∧ ahd < 0) ∨ (bad = true ∧ ¬ ahd < 0 ∧ b * d < alv + acost * d) ∨ (bad = false ∧ ¬ ahd < 0 ∧ ¬ b * d < alv + acost * d) := by
    cases bad
    · simp at hbad
      exact .inr (.inr ⟨rfl, by omega, by omega⟩)
    · simp at hbad
      rcases hbad with hx | hx
      · exact .inl ⟨rfl, hx⟩
      · by_cases hy : ahd < 0
        · exact .inl ⟨rfl, hy⟩
        · exact .inr (.inl ⟨rfl, hy, hx⟩)
  have HCS := Go.Lib.hid hcase
  clear hbad hcase
  clear hrt hav hin hlv hhd hM hM0 z0 z1 z2 z3 z4 z5 z6 z7 hr3 hr4 hc1 hc2
  go_enter Try.func19, Try.ntmps19
  go_wp2_with fail
  refine (HRT.out _).mono ?_
  rintro e w1 ⟨rfl, hb⟩
  have hB : Below w.heap.size w w1 := bl_then (bl_alloc (bl_alloc (bl_alloc (bl_alloc (bl_refl _) _) _) _) _) hb
  have c0 := bl_cell (v := .int .i64 k) hb (show World.cell? _ ⟨w.heap.size, 0, none⟩ = _ by go_simp)
  have c1 := bl_cell (v := .int .i64 l) hb (show World.cell? _ ⟨w.heap.size, 1, none⟩ = _ by go_simp)
  have c2 := bl_cell (v := .int .i64 d) hb (show World.cell? _ ⟨w.heap.size, 2, none⟩ = _ by go_simp)
  have c3 := bl_cell (v := .int .i64 b) hb (show World.cell? _ ⟨w.heap.size, 3, none⟩ = _ by go_simp)
  have c4 := bl_cell (v := .int .i64 cc) hb (show World.cell? _ ⟨w.heap.size, 4, none⟩ = _ by go_simp)
  have c5 := bl_cell (v := .bool o) hb (show World.cell? _ ⟨w.heap.size, 5, none⟩ = _ by go_simp)
  have c6 := bl_cell (v := .int .i64 at_) hb (show World.cell? _ ⟨w.heap.size + 1, 0, none⟩ = _ by go_simp)
  have c7 := bl_cell (v := .int .i64 level) hb (show World.cell? _ ⟨w.heap.size + 1, 1, none⟩ = _ by go_simp)
  have c8 := bl_cell (v := .int .i64 held) hb (show World.cell? _ ⟨w.heap.size + 1, 2, none⟩ = _ by go_simp)
  have c9 := bl_cell (v := .slice a 0 c) hb (show World.cell? _ ⟨w.heap.size + 1, 3, none⟩ = _ by go_simp)
  have c10 := bl_cell (v := .int .i64 1) hb (show World.cell? _ ⟨w.heap.size + 1 + 1, 0, none⟩ = _ by go_simp)
  have c11 := bl_cell (v := .int .i64 anow) hb (show World.cell? _ ⟨w.heap.size + 1 + 1, 1, none⟩ = _ by go_simp)
  have c12 := bl_cell (v := .int .i64 acost) hb (show World.cell? _ ⟨w.heap.size + 1 + 1, 2, none⟩ = _ by go_simp)
  have hR : ResB w1 (w.heap.size + 1 + 1 + 1) := res_bl (res_new _ _ _ _ _ _ (by simp)) hb
  clear hb HRT
  go_wp2_with fail
  refine (HIN.out _).mono ?_
  rintro e w2 ⟨rfl, rfl⟩
  clear HIN
  go_wp2_with fail
  refine wp_region_held_drew (S := fun w' => w'.cell? ⟨w.heap.size, 0, none⟩ = some (.int .i64 k) ∧ w'.cell? ⟨w.heap.size, 1, none⟩ = some (.int .i64 l) ∧ w'.cell? ⟨w.heap.size, 2, none⟩ = some (.int .i64 d) ∧ w'.cell? ⟨w.heap.size, 3, none⟩ = some (.int .i64 b) ∧ w'.cell? ⟨w.heap.size, 4, none⟩ = some (.int .i64 cc) ∧ w'.cell? ⟨w.heap.size, 5, none⟩ = some (.bool o) ∧ w'.cell? ⟨w.heap.size + 1, 0, none⟩ = some (.int .i64 at_) ∧ w'.cell? ⟨w.heap.size + 1, 1, none⟩ = some (.int .i64 level) ∧ w'.cell? ⟨w.heap.size + 1, 2, none⟩ = some (.int .i64 held) ∧ w'.cell? ⟨w.heap.size + 1, 3, none⟩ = some (.slice a 0 c) ∧ w'.cell? ⟨w.heap.size + 1 + 1, 0, none⟩ = some (.int .i64 1) ∧ w'.cell? ⟨w.heap.size + 1 + 1, 1, none⟩ = some (.int .i64 anow) ∧ w'.cell? ⟨w.heap.size + 1 + 1, 2, none⟩ = some (.int .i64 acost) ∧ ResB w' (w.heap.size + 1 + 1 + 1) ∧ Below w.heap.size w w') (by kernel_rfl) ?_ (fun hHeld => ?_)
  · exact ⟨c0, c1, c2, c3, c4, c5, c6, c7, c8, c9, c10, c11, c12, hR, bl_drew hB⟩
  try simp only [Act.put, List.setIfInBounds_toArray, List.set_cons_zero, List.set_cons_succ]
  refine wpAnyH_abs (F := fun _ => True) hHeld trivial (fun W3 hHeld _ => ?_)
  clear hR hB c0 c1 c2 c3 c4 c5 c6 c7 c8 c9 c10 c11 c12
  (refine tk (i := 0) rfl rfl hHeld ?_)
  (refine tk (i := 1) rfl rfl hHeld ?_)
  (refine tk (i := 2) rfl rfl hHeld ?_)
  (refine tk (i := 3) rfl rfl hHeld ?_)
  (refine tk (i := 5) rfl rfl hHeld ?_)
  (refine tk (i := 6) rfl rfl hHeld ?_)
  (refine tk (i := 7) rfl rfl hHeld ?_)
  (refine tk (i := 8) rfl rfl hHeld ?_)
  (refine tk (i := 9) rfl rfl hHeld ?_)
  refine callC2 (i := 4) (j := 10) rfl rfl (fun K hK => ?_) (fun K hK => ?_)
  · go_simp
    refine (HAV.out _).mono ?_
    rintro e w5 ⟨rfl, hb⟩
    go_wp2_with fail
    refine hK.out _ _ ?_ (fun hHeld' => ?_)
    · (try dsimp only)
      (obtain ⟨h0, h1, h2, h3, h4, h5, h6, h7, h8, h9, h10, h11, h12, hr', hB'⟩ := hHeld; exact ⟨bl_cell hb h0, bl_cell hb h1, bl_cell hb h2, bl_cell hb h3, bl_cell hb h4, bl_cell hb h5, bl_cell hb h6, bl_cell hb h7, bl_cell hb h8, bl_cell hb h9, bl_cell hb h10, bl_cell hb h11, bl_cell hb h12, res_bl hr' hb, bl_then hB' hb⟩)
    clear hHeld hK K
    rename _ => hHeld
    clear hb
    try simp only [Act.put, List.setIfInBounds_toArray, List.set_cons_zero, List.set_cons_succ]
    refine callC (i := 10) rfl (fun K hK => ?_)
    have hlt : w.heap.size + 1 + 1 + 1 < w5.heap.size := by (obtain ⟨h0, h1, h2, h3, h4, h5, h6, h7, h8, h9, h10, h11, h12, hr', hB'⟩ := hHeld; exact res_lt hr')
    go_simp
    refine hK.out _ _ ?_ (fun hHeld' => ?_)
    · (try dsimp only)
      (obtain ⟨h0, h1, h2, h3, h4, h5, h6, h7, h8, h9, h10, h11, h12, hr', hB'⟩ := hHeld; exact ⟨bl_cell (bl_alloc (bl_refl _) _) h0, bl_cell (bl_alloc (bl_refl _) _) h1, bl_cell (bl_alloc (bl_refl _) _) h2, bl_cell (bl_alloc (bl_refl _) _) h3, bl_cell (bl_alloc (bl_refl _) _) h4, bl_cell (bl_alloc (bl_refl _) _) h5, bl_cell (bl_alloc (bl_refl _) _) h6, bl_cell (bl_alloc (bl_refl _) _) h7, bl_cell (bl_alloc (bl_refl _) _) h8, bl_cell (bl_alloc (bl_refl _) _) h9, bl_cell (bl_alloc (bl_refl _) _) h10, bl_cell (bl_alloc (bl_refl _) _) h11, bl_cell (bl_alloc (bl_refl _) _) h12, res_bl hr' (bl_alloc (bl_refl _) _), bl_alloc hB' _⟩)
    clear hHeld hK K
    rename _ => hHeld
    try simp only [Act.put, List.setIfInBounds_toArray, List.set_cons_zero, List.set_cons_succ]
    refine wpAnyH_abs (F := fun X => ResB X w5.heap.size) hHeld (res_new _ _ _ _ _ _ rfl) (fun w6 hHeld hN => ?_)
    generalize w5.heap.size = nb at *
    refine callC (i := 11) rfl (fun K hK => ?_)
    obtain ⟨h0, h1, h2, h3, h4, h5, h6, h7, h8, h9, h10, h11, h12, hr', hB'⟩ := hHeld
    obtain ⟨f0, f1, f2, f3, u0, u1, u2, u3, i0, i1, i2, i3⟩ := res_all hN
    clear hHeld
    have hHeld : True := trivial
    go_simp
    refine hK.out _ _ ?_ (fun hHeld' => ?_)
    · (try dsimp only)
      (have e0 : nb ≠ w.heap.size := (by omega); have e1 : nb ≠ w.heap.size + 1 := (by omega); have e2 : nb ≠ w.heap.size + 1 + 1 := (by omega); exact ⟨far4 h0 e0, far4 h1 e0, far4 h2 e0, far4 h3 e0, far4 h4 e0, far4 h5 e0, far4 h6 e1, far4 h7 e1, far4 h8 e1, far4 h9 e1, far4 h10 e2, far4 h11 e2, far4 h12 e2, res4 hr', bl4 hB' (by omega)⟩)
    clear hHeld hK K
    rename _ => hHeld
    try simp only [Act.put, List.setIfInBounds_toArray, List.set_cons_zero, List.set_cons_succ]
    (refine tk (i := 12) rfl rfl hHeld ?_)
    refine wpAnyH_done (by kernel_rfl) ?_ _
    clear hr' hB'
    obtain ⟨k0, k1, k2, k3, k4, k5, k6, k7, k8, k9, k10, k11, k12, hr'', hE⟩ := hHeld
    refine then_abs (F := fun X => (X.cell? ⟨nb, 0, none⟩ = some (.int .i64 aat) ∧ X.cell? ⟨nb, 1, none⟩ = some (.int .i64 alv) ∧ X.cell? ⟨nb, 2, none⟩ = some (.int .i64 ahd) ∧ X.cell? ⟨nb, 3, none⟩ = some (.slice none 0 0)) ∧ X.cell? ⟨w.heap.size, 0, none⟩ = some (.int .i64 k) ∧ X.cell? ⟨w.heap.size, 1, none⟩ = some (.int .i64 l) ∧ X.cell? ⟨w.heap.size, 2, none⟩ = some (.int .i64 d) ∧ X.cell? ⟨w.heap.size, 3, none⟩ = some (.int .i64 b) ∧ X.cell? ⟨w.heap.size, 4, none⟩ = some (.int .i64 cc) ∧ X.cell? ⟨w.heap.size, 5, none⟩ = some (.bool o) ∧ X.cell? ⟨w.heap.size + 1, 0, none⟩ = some (.int .i64 at_) ∧ X.cell? ⟨w.heap.size + 1, 1, none⟩ = some (.int .i64 level) ∧ X.cell? ⟨w.heap.size + 1, 2, none⟩ = some (.int .i64 held) ∧ X.cell? ⟨w.heap.size + 1, 3, none⟩ = some (.slice a 0 c) ∧ X.cell? ⟨w.heap.size + 1 + 1, 0, none⟩ = some (.int .i64 1) ∧ X.cell? ⟨w.heap.size + 1 + 1, 1, none⟩ = some (.int .i64 anow) ∧ X.cell? ⟨w.heap.size + 1 + 1, 2, none⟩ = some (.int .i64 acost) ∧ ResB X nb ∧ ResB X (w.heap.size + 1 + 1 + 1) ∧ Below w.heap.size w X) ⟨set4 _ _ _ _ i0 i1 i2 i3, k0, k1, k2, k3, k4, k5, k6, k7, k8, k9, k10, k11, k12, res4 hN, hr'', hE⟩ ?_
    clear hN hr'' hE i0 i1 i2 i3 f0 f1 f2 f3 u0 u1 u2 u3 HAV k0 k1 k2 k3 k4 k5 k6 k7 k8 k9 k10 k11 k12 h0 h1 h2 h3 h4 h5 h6 h7 h8 h9 h10 h11 h12
    rintro X ⟨⟨x0, x1, x2, x3⟩, c0, c1, c2, c3, c4, c5, c6, c7, c8, c9, c10, c11, c12, hN, hR, hE⟩
    obtain ⟨F0, F1, F2, F3, U0, U1, U2, U3, I0, I1, I2, I3⟩ := res_all hR
    have hz1 := (hN 1 (by omega)).1
    have hz2 := (hN 2 (by omega)).1
    have n0 : ¬ nb = w.heap.size := by omega
    have m0 : ¬ w.heap.size = nb := by omega
    have n1 : ¬ nb = w.heap.size + 1 := by omega
    have m1 : ¬ w.heap.size + 1 = nb := by omega
    have n2 : ¬ nb = w.heap.size + 1 + 1 := by omega
    have m2 : ¬ w.heap.size + 1 + 1 = nb := by omega
    have n3 : ¬ nb = w.heap.size + 1 + 1 + 1 := by omega
    have m3 : ¬ w.heap.size + 1 + 1 + 1 = nb := by omega
    rcases HCS.out with ⟨rfl, e1⟩ | ⟨rfl, e1, e2⟩ | ⟨rfl, e1, e2⟩
    all_goals
      clear HCS
      repeat' (first | go_skip | go_guarded | go_step | go_upon)
      (try simp only [Exit.inBlock, Exit.then])
      refine bodyPost_ret (results_state2 rfl _ _ (by rfl) (set4r (res_set hR _ _))) rfl ⟨by first | rfl | simp, bl4 (bl_set hE (by dsimp only; omega) _) (by omega)⟩
  · have hlt : w.heap.size + 1 + 1 + 1 < W3.heap.size := by (obtain ⟨h0, h1, h2, h3, h4, h5, h6, h7, h8, h9, h10, h11, h12, hr', hB'⟩ := hHeld; exact res_lt hr')
    go_simp
    refine hK.out _ _ ?_ (fun hHeld' => ?_)
    · (try dsimp only)
      (obtain ⟨h0, h1, h2, h3, h4, h5, h6, h7, h8, h9, h10, h11, h12, hr', hB'⟩ := hHeld; exact ⟨bl_cell (bl_alloc (bl_refl _) _) h0, bl_cell (bl_alloc (bl_refl _) _) h1, bl_cell (bl_alloc (bl_refl _) _) h2, bl_cell (bl_alloc (bl_refl _) _) h3, bl_cell (bl_alloc (bl_refl _) _) h4, bl_cell (bl_alloc (bl_refl _) _) h5, bl_cell (bl_alloc (bl_refl _) _) h6, bl_cell (bl_alloc (bl_refl _) _) h7, bl_cell (bl_alloc (bl_refl _) _) h8, bl_cell (bl_alloc (bl_refl _) _) h9, bl_cell (bl_alloc (bl_refl _) _) h10, bl_cell (bl_alloc (bl_refl _) _) h11, bl_cell (bl_alloc (bl_refl _) _) h12, res_bl hr' (bl_alloc (bl_refl _) _), bl_alloc hB' _⟩)
    clear hHeld hK K
    rename _ => hHeld
    try simp only [Act.put, List.setIfInBounds_toArray, List.set_cons_zero, List.set_cons_succ]
    refine wpAnyH_abs (F := fun X => ResB X W3.heap.size) hHeld (res_new _ _ _ _ _ _ rfl) (fun w4 hHeld hN => ?_)
    generalize W3.heap.size = nb at *
    refine callC (i := 4) rfl (fun K hK => ?_)
    go_simp
    refine (HAV.out _).mono ?_
    rintro e w6 ⟨rfl, hb⟩
    go_wp2_with fail
    refine hK.out _ _ ?_ (fun hHeld' => ?_)
    · (try dsimp only)
      (obtain ⟨h0, h1, h2, h3, h4, h5, h6, h7, h8, h9, h10, h11, h12, hr', hB'⟩ := hHeld; exact ⟨bl_cell hb h0, bl_cell hb h1, bl_cell hb h2, bl_cell hb h3, bl_cell hb h4, bl_cell hb h5, bl_cell hb h6, bl_cell hb h7, bl_cell hb h8, bl_cell hb h9, bl_cell hb h10, bl_cell hb h11, bl_cell hb h12, res_bl hr' hb, bl_then hB' hb⟩)
    clear hHeld hK K
    rename _ => hHeld
    replace hN := res_bl hN hb
    clear hb
    try simp only [Act.put, List.setIfInBounds_toArray, List.set_cons_zero, List.set_cons_succ]
    refine callC (i := 11) rfl (fun K hK => ?_)
    obtain ⟨h0, h1, h2, h3, h4, h5, h6, h7, h8, h9, h10, h11, h12, hr', hB'⟩ := hHeld
    obtain ⟨f0, f1, f2, f3, u0, u1, u2, u3, i0, i1, i2, i3⟩ := res_all hN
    clear hHeld
    have hHeld : True := trivial
    go_simp
    refine hK.out _ _ ?_ (fun hHeld' => ?_)
    · (try dsimp only)
      (have e0 : nb ≠ w.heap.size := (by omega); have e1 : nb ≠ w.heap.size + 1 := (by omega); have e2 : nb ≠ w.heap.size + 1 + 1 := (by omega); exact ⟨far4 h0 e0, far4 h1 e0, far4 h2 e0, far4 h3 e0, far4 h4 e0, far4 h5 e0, far4 h6 e1, far4 h7 e1, far4 h8 e1, far4 h9 e1, far4 h10 e2, far4 h11 e2, far4 h12 e2, res4 hr', bl4 hB' (by omega)⟩)
    clear hHeld hK K
    rename _ => hHeld
    try simp only [Act.put, List.setIfInBounds_toArray, List.set_cons_zero, List.set_cons_succ]
    (refine tk (i := 12) rfl rfl hHeld ?_)
    refine wpAnyH_done (by kernel_rfl) ?_ _
    clear hr' hB'
    obtain ⟨k0, k1, k2, k3, k4, k5, k6, k7, k8, k9, k10, k11, k12, hr'', hE⟩ := hHeld
    refine then_abs (F := fun X => (X.cell? ⟨nb, 0, none⟩ = some (.int .i64 aat) ∧ X.cell? ⟨nb, 1, none⟩ = some (.int .i64 alv) ∧ X.cell? ⟨nb, 2, none⟩ = some (.int .i64 ahd) ∧ X.cell? ⟨nb, 3, none⟩ = some (.slice none 0 0)) ∧ X.cell? ⟨w.heap.size, 0, none⟩ = some (.int .i64 k) ∧ X.cell? ⟨w.heap.size, 1, none⟩ = some (.int .i64 l) ∧ X.cell? ⟨w.heap.size, 2, none⟩ = some (.int .i64 d) ∧ X.cell? ⟨w.heap.size, 3, none⟩ = some (.int .i64 b) ∧ X.cell? ⟨w.heap.size, 4, none⟩ = some (.int .i64 cc) ∧ X.cell? ⟨w.heap.size, 5, none⟩ = some (.bool o) ∧ X.cell? ⟨w.heap.size + 1, 0, none⟩ = some (.int .i64 at_) ∧ X.cell? ⟨w.heap.size + 1, 1, none⟩ = some (.int .i64 level) ∧ X.cell? ⟨w.heap.size + 1, 2, none⟩ = some (.int .i64 held) ∧ X.cell? ⟨w.heap.size + 1, 3, none⟩ = some (.slice a 0 c) ∧ X.cell? ⟨w.heap.size + 1 + 1, 0, none⟩ = some (.int .i64 1) ∧ X.cell? ⟨w.heap.size + 1 + 1, 1, none⟩ = some (.int .i64 anow) ∧ X.cell? ⟨w.heap.size + 1 + 1, 2, none⟩ = some (.int .i64 acost) ∧ ResB X nb ∧ ResB X (w.heap.size + 1 + 1 + 1) ∧ Below w.heap.size w X) ⟨set4 _ _ _ _ i0 i1 i2 i3, k0, k1, k2, k3, k4, k5, k6, k7, k8, k9, k10, k11, k12, res4 hN, hr'', hE⟩ ?_
    clear hN hr'' hE i0 i1 i2 i3 f0 f1 f2 f3 u0 u1 u2 u3 HAV k0 k1 k2 k3 k4 k5 k6 k7 k8 k9 k10 k11 k12 h0 h1 h2 h3 h4 h5 h6 h7 h8 h9 h10 h11 h12
    rintro X ⟨⟨x0, x1, x2, x3⟩, c0, c1, c2, c3, c4, c5, c6, c7, c8, c9, c10, c11, c12, hN, hR, hE⟩
    obtain ⟨F0, F1, F2, F3, U0, U1, U2, U3, I0, I1, I2, I3⟩ := res_all hR
    have hz1 := (hN 1 (by omega)).1
    have hz2 := (hN 2 (by omega)).1
    have n0 : ¬ nb = w.heap.size := by omega
    have m0 : ¬ w.heap.size = nb := by omega
    have n1 : ¬ nb = w.heap.size + 1 := by omega
    have m1 : ¬ w.heap.size + 1 = nb := by omega
    have n2 : ¬ nb = w.heap.size + 1 + 1 := by omega
    have m2 : ¬ w.heap.size + 1 + 1 = nb := by omega
    have n3 : ¬ nb = w.heap.size + 1 + 1 + 1 := by omega
    have m3 : ¬ w.heap.size + 1 + 1 + 1 = nb := by omega
    rcases HCS.out with ⟨rfl, e1⟩ | ⟨rfl, e1, e2⟩ | ⟨rfl, e1, e2⟩
    all_goals
      clear HCS
      repeat' (first | go_skip | go_guarded | go_step | go_upon)
      (try simp only [Exit.inBlock, Exit.then])
      refine bodyPost_ret (results_state2 rfl _ _ (by rfl) (set4r (res_set hR _ _))) rfl ⟨by first | rfl | simp, bl4 (bl_set hE (by dsimp only; omega) _) (by omega)⟩

set_option maxHeartbeats 2000000 in
set_option maxRecDepth 100000 in
theorem gdo_2 (p : Pol) (s : St) (a : Option Addr) (c : Nat) (anow acost : Int) (A : St) (w : World) (h : rightG p s) (hc1 : 1 ≤ acost) (hc2 : acost ≤ p.burst) (hA : A = advG p s anow) (bad : Bool) (hbad : bad = true ↔ (A.held + acost < 0 ∨ p.burst * p.period < A.level + acost * p.period)) :
    Calls Try.prog 19 #[p.v, s.v a 0 c, .agg #[.int .i64 2, .int .i64 anow, .int .i64 acost]] w fun e w' =>
      e = .returned (.tuple #[if bad then s.v a 0 c else .agg #[.int .i64 A.at_, .int .i64 (A.level + acost * p.period), .int .i64 (A.held + acost), .slice none 0 0], .bool (!bad)]) ∧ Below w.heap.size w w' := by
  have hlg := h.2.2.2.2.2.2.2
  have hrt := gright_any p s a 0 c (by rw [hlg]; rfl)
  have hav := gadv_any p s a 0 c anow (by rw [hlg]; rfl)
  rw [decide_eq_true h] at hrt
  have hin := in_any acost 1 p.burst
  rw [inB_iff.2 ⟨hc1, hc2⟩] at hin
  have hok := h.1
  have hlv := advG_level p s anow h
  have hhd := advG_held p s anow h
  have hr3 := h.2.2.2.1
  have hr4 := h.2.2.2.2.1
  rw [← hA] at hav hlv hhd
  clear h hA
  obtain ⟨k, l, d, b, cc, o⟩ := p
  obtain ⟨at_, level, held, lg⟩ := s
  obtain ⟨aat, alv, ahd, alg⟩ := A
  unfold St.v Pol.v at *
  dsimp only at *
  obtain ⟨z0, z1, z2, z3, z4, z5, z6, z7⟩ := hok
  dsimp only at *
  have hM : acost * d ≤ 1152921504606846976 := prod_le (by omega) (by omega) (by omega)
  have hM0 : 0 ≤ acost * d := Int.mul_nonneg (by omega) (by omega)
  have hw1 : IntKind.i64.wrap (acost * d) = acost * d := IntWalk.i64_in _ (by omega)
  have hwb : IntKind.i64.wrap (b * d) = b * d := IntWalk.i64_in _ (by omega)
  have hw2 : IntKind.i64.wrap (alv + acost * d) = alv + acost * d := IntWalk.i64_in _ (by omega)
  have hw0 : IntKind.i64.wrap (ahd + acost) = ahd + acost := IntWalk.i64_in _ (by omega)
  have HRT := Go.Lib.hid hrt
  have HAV := Go.Lib.hid hav
  have HIN := Go.Lib.hid hin
  have hcase : (bad = true ∧ ahd + acost < 0) ∨ (bad = true ∧ ¬ ahd + acost < 0 ∧ b * d < alv + acost * d) ∨ (bad = false ∧ ¬ ahd + acost < 0 ∧ ¬ b * d < alv + acost * d) := by
    cases bad
    · simp at hbad
      exact .inr (.inr ⟨rfl, by omega, by omega⟩)
    · simp at hbad
      rcases hbad with hx | hx
      · exact .inl ⟨rfl, hx⟩
      · by_cases hy : ahd + acost < 0
        · exact .inl ⟨rfl, hy⟩
        · exact .inr (.inl ⟨rfl, hy, hx⟩)
  have HCS := Go.Lib.hid hcase
  clear hbad hcase
  clear hrt hav hin hlv hhd hM hM0 z0 z1 z2 z3 z4 z5 z6 z7 hr3 hr4 hc1 hc2
  go_enter Try.func19, Try.ntmps19
  go_wp2_with fail
  refine (HRT.out _).mono ?_
  rintro e w1 ⟨rfl, hb⟩
  have hB : Below w.heap.size w w1 := bl_then (bl_alloc (bl_alloc (bl_alloc (bl_alloc (bl_refl _) _) _) _) _) hb
  have c0 := bl_cell (v := .int .i64 k) hb (show World.cell? _ ⟨w.heap.size, 0, none⟩ = _ by go_simp)
  have c1 := bl_cell (v := .int .i64 l) hb (show World.cell? _ ⟨w.heap.size, 1, none⟩ = _ by go_simp)
  have c2 := bl_cell (v := .int .i64 d) hb (show World.cell? _ ⟨w.heap.size, 2, none⟩ = _ by go_simp)
  have c3 := bl_cell (v := .int .i64 b) hb (show World.cell? _ ⟨w.heap.size, 3, none⟩ = _ by go_simp)
  have c4 := bl_cell (v := .int .i64 cc) hb (show World.cell? _ ⟨w.heap.size, 4, none⟩ = _ by go_simp)
  have c5 := bl_cell (v := .bool o) hb (show World.cell? _ ⟨w.heap.size, 5, none⟩ = _ by go_simp)
  have c6 := bl_cell (v := .int .i64 at_) hb (show World.cell? _ ⟨w.heap.size + 1, 0, none⟩ = _ by go_simp)
  have c7 := bl_cell (v := .int .i64 level) hb (show World.cell? _ ⟨w.heap.size + 1, 1, none⟩ = _ by go_simp)
  have c8 := bl_cell (v := .int .i64 held) hb (show World.cell? _ ⟨w.heap.size + 1, 2, none⟩ = _ by go_simp)
  have c9 := bl_cell (v := .slice a 0 c) hb (show World.cell? _ ⟨w.heap.size + 1, 3, none⟩ = _ by go_simp)
  have c10 := bl_cell (v := .int .i64 2) hb (show World.cell? _ ⟨w.heap.size + 1 + 1, 0, none⟩ = _ by go_simp)
  have c11 := bl_cell (v := .int .i64 anow) hb (show World.cell? _ ⟨w.heap.size + 1 + 1, 1, none⟩ = _ by go_simp)
  have c12 := bl_cell (v := .int .i64 acost) hb (show World.cell? _ ⟨w.heap.size + 1 + 1, 2, none⟩ = _ by go_simp)
  have hR : ResB w1 (w.heap.size + 1 + 1 + 1) := res_bl (res_new _ _ _ _ _ _ (by simp)) hb
  clear hb HRT
  go_wp2_with fail
  refine (HIN.out _).mono ?_
  rintro e w2 ⟨rfl, rfl⟩
  clear HIN
  go_wp2_with fail
  refine wp_region_held_drew (S := fun w' => w'.cell? ⟨w.heap.size, 0, none⟩ = some (.int .i64 k) ∧ w'.cell? ⟨w.heap.size, 1, none⟩ = some (.int .i64 l) ∧ w'.cell? ⟨w.heap.size, 2, none⟩ = some (.int .i64 d) ∧ w'.cell? ⟨w.heap.size, 3, none⟩ = some (.int .i64 b) ∧ w'.cell? ⟨w.heap.size, 4, none⟩ = some (.int .i64 cc) ∧ w'.cell? ⟨w.heap.size, 5, none⟩ = some (.bool o) ∧ w'.cell? ⟨w.heap.size + 1, 0, none⟩ = some (.int .i64 at_) ∧ w'.cell? ⟨w.heap.size + 1, 1, none⟩ = some (.int .i64 level) ∧ w'.cell? ⟨w.heap.size + 1, 2, none⟩ = some (.int .i64 held) ∧ w'.cell? ⟨w.heap.size + 1, 3, none⟩ = some (.slice a 0 c) ∧ w'.cell? ⟨w.heap.size + 1 + 1, 0, none⟩ = some (.int .i64 2) ∧ w'.cell? ⟨w.heap.size + 1 + 1, 1, none⟩ = some (.int .i64 anow) ∧ w'.cell? ⟨w.heap.size + 1 + 1, 2, none⟩ = some (.int .i64 acost) ∧ ResB w' (w.heap.size + 1 + 1 + 1) ∧ Below w.heap.size w w') (by kernel_rfl) ?_ (fun hHeld => ?_)
  · exact ⟨c0, c1, c2, c3, c4, c5, c6, c7, c8, c9, c10, c11, c12, hR, bl_drew hB⟩
  try simp only [Act.put, List.setIfInBounds_toArray, List.set_cons_zero, List.set_cons_succ]
  refine wpAnyH_abs (F := fun _ => True) hHeld trivial (fun W3 hHeld _ => ?_)
  clear hR hB c0 c1 c2 c3 c4 c5 c6 c7 c8 c9 c10 c11 c12
  (refine tk (i := 0) rfl rfl hHeld ?_)
  (refine tk (i := 1) rfl rfl hHeld ?_)
  (refine tk (i := 2) rfl rfl hHeld ?_)
  (refine tk (i := 3) rfl rfl hHeld ?_)
  (refine tk (i := 5) rfl rfl hHeld ?_)
  (refine tk (i := 6) rfl rfl hHeld ?_)
  (refine tk (i := 7) rfl rfl hHeld ?_)
  (refine tk (i := 8) rfl rfl hHeld ?_)
  (refine tk (i := 9) rfl rfl hHeld ?_)
  refine callC2 (i := 4) (j := 10) rfl rfl (fun K hK => ?_) (fun K hK => ?_)
  · go_simp
    refine (HAV.out _).mono ?_
    rintro e w5 ⟨rfl, hb⟩
    go_wp2_with fail
    refine hK.out _ _ ?_ (fun hHeld' => ?_)
    · (try dsimp only)
      (obtain ⟨h0, h1, h2, h3, h4, h5, h6, h7, h8, h9, h10, h11, h12, hr', hB'⟩ := hHeld; exact ⟨bl_cell hb h0, bl_cell hb h1, bl_cell hb h2, bl_cell hb h3, bl_cell hb h4, bl_cell hb h5, bl_cell hb h6, bl_cell hb h7, bl_cell hb h8, bl_cell hb h9, bl_cell hb h10, bl_cell hb h11, bl_cell hb h12, res_bl hr' hb, bl_then hB' hb⟩)
    clear hHeld hK K
    rename _ => hHeld
    clear hb
    try simp only [Act.put, List.setIfInBounds_toArray, List.set_cons_zero, List.set_cons_succ]
    refine callC (i := 10) rfl (fun K hK => ?_)
    have hlt : w.heap.size + 1 + 1 + 1 < w5.heap.size := by (obtain ⟨h0, h1, h2, h3, h4, h5, h6, h7, h8, h9, h10, h11, h12, hr', hB'⟩ := hHeld; exact res_lt hr')
    go_simp
    refine hK.out _ _ ?_ (fun hHeld' => ?_)
    · (try dsimp only)
      (obtain ⟨h0, h1, h2, h3, h4, h5, h6, h7, h8, h9, h10, h11, h12, hr', hB'⟩ := hHeld; exact ⟨bl_cell (bl_alloc (bl_refl _) _) h0, bl_cell (bl_alloc (bl_refl _) _) h1, bl_cell (bl_alloc (bl_refl _) _) h2, bl_cell (bl_alloc (bl_refl _) _) h3, bl_cell (bl_alloc (bl_refl _) _) h4, bl_cell (bl_alloc (bl_refl _) _) h5, bl_cell (bl_alloc (bl_refl _) _) h6, bl_cell (bl_alloc (bl_refl _) _) h7, bl_cell (bl_alloc (bl_refl _) _) h8, bl_cell (bl_alloc (bl_refl _) _) h9, bl_cell (bl_alloc (bl_refl _) _) h10, bl_cell (bl_alloc (bl_refl _) _) h11, bl_cell (bl_alloc (bl_refl _) _) h12, res_bl hr' (bl_alloc (bl_refl _) _), bl_alloc hB' _⟩)
    clear hHeld hK K
    rename _ => hHeld
    try simp only [Act.put, List.setIfInBounds_toArray, List.set_cons_zero, List.set_cons_succ]
    refine wpAnyH_abs (F := fun X => ResB X w5.heap.size) hHeld (res_new _ _ _ _ _ _ rfl) (fun w6 hHeld hN => ?_)
    generalize w5.heap.size = nb at *
    refine callC (i := 11) rfl (fun K hK => ?_)
    obtain ⟨h0, h1, h2, h3, h4, h5, h6, h7, h8, h9, h10, h11, h12, hr', hB'⟩ := hHeld
    obtain ⟨f0, f1, f2, f3, u0, u1, u2, u3, i0, i1, i2, i3⟩ := res_all hN
    clear hHeld
    have hHeld : True := trivial
    go_simp
    refine hK.out _ _ ?_ (fun hHeld' => ?_)
    · (try dsimp only)
      (have e0 : nb ≠ w.heap.size := (by omega); have e1 : nb ≠ w.heap.size + 1 := (by omega); have e2 : nb ≠ w.heap.size + 1 + 1 := (by omega); exact ⟨far4 h0 e0, far4 h1 e0, far4 h2 e0, far4 h3 e0, far4 h4 e0, far4 h5 e0, far4 h6 e1, far4 h7 e1, far4 h8 e1, far4 h9 e1, far4 h10 e2, far4 h11 e2, far4 h12 e2, res4 hr', bl4 hB' (by omega)⟩)
    clear hHeld hK K
    rename _ => hHeld
    try simp only [Act.put, List.setIfInBounds_toArray, List.set_cons_zero, List.set_cons_succ]
    (refine tk (i := 12) rfl rfl hHeld ?_)
    refine wpAnyH_done (by kernel_rfl) ?_ _
    clear hr' hB'
    obtain ⟨k0, k1, k2, k3, k4, k5, k6, k7, k8, k9, k10, k11, k12, hr'', hE⟩ := hHeld
    refine then_abs (F := fun X => (X.cell? ⟨nb, 0, none⟩ = some (.int .i64 aat) ∧ X.cell? ⟨nb, 1, none⟩ = some (.int .i64 alv) ∧ X.cell? ⟨nb, 2, none⟩ = some (.int .i64 ahd) ∧ X.cell? ⟨nb, 3, none⟩ = some (.slice none 0 0)) ∧ X.cell? ⟨w.heap.size, 0, none⟩ = some (.int .i64 k) ∧ X.cell? ⟨w.heap.size, 1, none⟩ = some (.int .i64 l) ∧ X.cell? ⟨w.heap.size, 2, none⟩ = some (.int .i64 d) ∧ X.cell? ⟨w.heap.size, 3, none⟩ = some (.int .i64 b) ∧ X.cell? ⟨w.heap.size, 4, none⟩ = some (.int .i64 cc) ∧ X.cell? ⟨w.heap.size, 5, none⟩ = some (.bool o) ∧ X.cell? ⟨w.heap.size + 1, 0, none⟩ = some (.int .i64 at_) ∧ X.cell? ⟨w.heap.size + 1, 1, none⟩ = some (.int .i64 level) ∧ X.cell? ⟨w.heap.size + 1, 2, none⟩ = some (.int .i64 held) ∧ X.cell? ⟨w.heap.size + 1, 3, none⟩ = some (.slice a 0 c) ∧ X.cell? ⟨w.heap.size + 1 + 1, 0, none⟩ = some (.int .i64 2) ∧ X.cell? ⟨w.heap.size + 1 + 1, 1, none⟩ = some (.int .i64 anow) ∧ X.cell? ⟨w.heap.size + 1 + 1, 2, none⟩ = some (.int .i64 acost) ∧ ResB X nb ∧ ResB X (w.heap.size + 1 + 1 + 1) ∧ Below w.heap.size w X) ⟨set4 _ _ _ _ i0 i1 i2 i3, k0, k1, k2, k3, k4, k5, k6, k7, k8, k9, k10, k11, k12, res4 hN, hr'', hE⟩ ?_
    clear hN hr'' hE i0 i1 i2 i3 f0 f1 f2 f3 u0 u1 u2 u3 HAV k0 k1 k2 k3 k4 k5 k6 k7 k8 k9 k10 k11 k12 h0 h1 h2 h3 h4 h5 h6 h7 h8 h9 h10 h11 h12
    rintro X ⟨⟨x0, x1, x2, x3⟩, c0, c1, c2, c3, c4, c5, c6, c7, c8, c9, c10, c11, c12, hN, hR, hE⟩
    obtain ⟨F0, F1, F2, F3, U0, U1, U2, U3, I0, I1, I2, I3⟩ := res_all hR
    have hz1 := (hN 1 (by omega)).1
    have hz2 := (hN 2 (by omega)).1
    have n0 : ¬ nb = w.heap.size := by omega
    have m0 : ¬ w.heap.size = nb := by omega
    have n1 : ¬ nb = w.heap.size + 1 := by omega
    have m1 : ¬ w.heap.size + 1 = nb := by omega
    have n2 : ¬ nb = w.heap.size + 1 + 1 := by omega
    have m2 : ¬ w.heap.size + 1 + 1 = nb := by omega
    have n3 : ¬ nb = w.heap.size + 1 + 1 + 1 := by omega
    have m3 : ¬ w.heap.size + 1 + 1 + 1 = nb := by omega
    rcases HCS.out with ⟨rfl, e1⟩ | ⟨rfl, e1, e2⟩ | ⟨rfl, e1, e2⟩
    all_goals
      clear HCS
      repeat' (first | go_skip | go_guarded | go_step | go_upon)
      (try simp only [Exit.inBlock, Exit.then])
      refine bodyPost_ret (results_state2 rfl _ _ (by rfl) (set4r (res_set (res_set hR _ _) _ _))) rfl ⟨by first | rfl | simp, bl4 (bl_set (bl_set hE (by dsimp only; omega) _) (by dsimp only; omega) _) (by omega)⟩
  · have hlt : w.heap.size + 1 + 1 + 1 < W3.heap.size := by (obtain ⟨h0, h1, h2, h3, h4, h5, h6, h7, h8, h9, h10, h11, h12, hr', hB'⟩ := hHeld; exact res_lt hr')
    go_simp
    refine hK.out _ _ ?_ (fun hHeld' => ?_)
    · (try dsimp only)
      (obtain ⟨h0, h1, h2, h3, h4, h5, h6, h7, h8, h9, h10, h11, h12, hr', hB'⟩ := hHeld; exact ⟨bl_cell (bl_alloc (bl_refl _) _) h0, bl_cell (bl_alloc (bl_refl _) _) h1, bl_cell (bl_alloc (bl_refl _) _) h2, bl_cell (bl_alloc (bl_refl _) _) h3, bl_cell (bl_alloc (bl_refl _) _) h4, bl_cell (bl_alloc (bl_refl _) _) h5, bl_cell (bl_alloc (bl_refl _) _) h6, bl_cell (bl_alloc (bl_refl _) _) h7, bl_cell (bl_alloc (bl_refl _) _) h8, bl_cell (bl_alloc (bl_refl _) _) h9, bl_cell (bl_alloc (bl_refl _) _) h10, bl_cell (bl_alloc (bl_refl _) _) h11, bl_cell (bl_alloc (bl_refl _) _) h12, res_bl hr' (bl_alloc (bl_refl _) _), bl_alloc hB' _⟩)
    clear hHeld hK K
    rename _ => hHeld
    try simp only [Act.put, List.setIfInBounds_toArray, List.set_cons_zero, List.set_cons_succ]
    refine wpAnyH_abs (F := fun X => ResB X W3.heap.size) hHeld (res_new _ _ _ _ _ _ rfl) (fun w4 hHeld hN => ?_)
    generalize W3.heap.size = nb at *
    refine callC (i := 4) rfl (fun K hK => ?_)
    go_simp
    refine (HAV.out _).mono ?_
    rintro e w6 ⟨rfl, hb⟩
    go_wp2_with fail
    refine hK.out _ _ ?_ (fun hHeld' => ?_)
    · (try dsimp only)
      (obtain ⟨h0, h1, h2, h3, h4, h5, h6, h7, h8, h9, h10, h11, h12, hr', hB'⟩ := hHeld; exact ⟨bl_cell hb h0, bl_cell hb h1, bl_cell hb h2, bl_cell hb h3, bl_cell hb h4, bl_cell hb h5, bl_cell hb h6, bl_cell hb h7, bl_cell hb h8, bl_cell hb h9, bl_cell hb h10, bl_cell hb h11, bl_cell hb h12, res_bl hr' hb, bl_then hB' hb⟩)
    clear hHeld hK K
    rename _ => hHeld
    replace hN := res_bl hN hb
    clear hb
    try simp only [Act.put, List.setIfInBounds_toArray, List.set_cons_zero, List.set_cons_succ]
    refine callC (i := 11) rfl (fun K hK => ?_)
    obtain ⟨h0, h1, h2, h3, h4, h5, h6, h7, h8, h9, h10, h11, h12, hr', hB'⟩ := hHeld
    obtain ⟨f0, f1, f2, f3, u0, u1, u2, u3, i0, i1, i2, i3⟩ := res_all hN
    clear hHeld
    have hHeld : True := trivial
    go_simp
    refine hK.out _ _ ?_ (fun hHeld' => ?_)
    · (try dsimp only)
      (have e0 : nb ≠ w.heap.size := (by omega); have e1 : nb ≠ w.heap.size + 1 := (by omega); have e2 : nb ≠ w.heap.size + 1 + 1 := (by omega); exact ⟨far4 h0 e0, far4 h1 e0, far4 h2 e0, far4 h3 e0, far4 h4 e0, far4 h5 e0, far4 h6 e1, far4 h7 e1, far4 h8 e1, far4 h9 e1, far4 h10 e2, far4 h11 e2, far4 h12 e2, res4 hr', bl4 hB' (by omega)⟩)
    clear hHeld hK K
    rename _ => hHeld
    try simp only [Act.put, List.setIfInBounds_toArray, List.set_cons_zero, List.set_cons_succ]
    (refine tk (i := 12) rfl rfl hHeld ?_)
    refine wpAnyH_done (by kernel_rfl) ?_ _
    clear hr' hB'
    obtain ⟨k0, k1, k2, k3, k4, k5, k6, k7, k8, k9, k10, k11, k12, hr'', hE⟩ := hHeld
    refine then_abs (F := fun X => (X.cell? ⟨nb, 0, none⟩ = some (.int .i64 aat) ∧ X.cell? ⟨nb, 1, none⟩ = some (.int .i64 alv) ∧ X.cell? ⟨nb, 2, none⟩ = some (.int .i64 ahd) ∧ X.cell? ⟨nb, 3, none⟩ = some (.slice none 0 0)) ∧ X.cell? ⟨w.heap.size, 0, none⟩ = some (.int .i64 k) ∧ X.cell? ⟨w.heap.size, 1, none⟩ = some (.int .i64 l) ∧ X.cell? ⟨w.heap.size, 2, none⟩ = some (.int .i64 d) ∧ X.cell? ⟨w.heap.size, 3, none⟩ = some (.int .i64 b) ∧ X.cell? ⟨w.heap.size, 4, none⟩ = some (.int .i64 cc) ∧ X.cell? ⟨w.heap.size, 5, none⟩ = some (.bool o) ∧ X.cell? ⟨w.heap.size + 1, 0, none⟩ = some (.int .i64 at_) ∧ X.cell? ⟨w.heap.size + 1, 1, none⟩ = some (.int .i64 level) ∧ X.cell? ⟨w.heap.size + 1, 2, none⟩ = some (.int .i64 held) ∧ X.cell? ⟨w.heap.size + 1, 3, none⟩ = some (.slice a 0 c) ∧ X.cell? ⟨w.heap.size + 1 + 1, 0, none⟩ = some (.int .i64 2) ∧ X.cell? ⟨w.heap.size + 1 + 1, 1, none⟩ = some (.int .i64 anow) ∧ X.cell? ⟨w.heap.size + 1 + 1, 2, none⟩ = some (.int .i64 acost) ∧ ResB X nb ∧ ResB X (w.heap.size + 1 + 1 + 1) ∧ Below w.heap.size w X) ⟨set4 _ _ _ _ i0 i1 i2 i3, k0, k1, k2, k3, k4, k5, k6, k7, k8, k9, k10, k11, k12, res4 hN, hr'', hE⟩ ?_
    clear hN hr'' hE i0 i1 i2 i3 f0 f1 f2 f3 u0 u1 u2 u3 HAV k0 k1 k2 k3 k4 k5 k6 k7 k8 k9 k10 k11 k12 h0 h1 h2 h3 h4 h5 h6 h7 h8 h9 h10 h11 h12
    rintro X ⟨⟨x0, x1, x2, x3⟩, c0, c1, c2, c3, c4, c5, c6, c7, c8, c9, c10, c11, c12, hN, hR, hE⟩
    obtain ⟨F0, F1, F2, F3, U0, U1, U2, U3, I0, I1, I2, I3⟩ := res_all hR
    have hz1 := (hN 1 (by omega)).1
    have hz2 := (hN 2 (by omega)).1
    have n0 : ¬ nb = w.heap.size := by omega
    have m0 : ¬ w.heap.size = nb := by omega
    have n1 : ¬ nb = w.heap.size + 1 := by omega
    have m1 : ¬ w.heap.size + 1 = nb := by omega
    have n2 : ¬ nb = w.heap.size + 1 + 1 := by omega
    have m2 : ¬ w.heap.size + 1 + 1 = nb := by omega
    have n3 : ¬ nb = w.heap.size + 1 + 1 + 1 := by omega
    have m3 : ¬ w.heap.size + 1 + 1 + 1 = nb := by omega
    rcases HCS.out with ⟨rfl, e1⟩ | ⟨rfl, e1, e2⟩ | ⟨rfl, e1, e2⟩
    all_goals
      clear HCS
      repeat' (first | go_skip | go_guarded | go_step | go_upon)
      (try simp only [Exit.inBlock, Exit.then])
      refine bodyPost_ret (results_state2 rfl _ _ (by rfl) (set4r (res_set (res_set hR _ _) _ _))) rfl ⟨by first | rfl | simp, bl4 (bl_set (bl_set hE (by dsimp only; omega) _) (by dsimp only; omega) _) (by omega)⟩

set_option maxHeartbeats 2000000 in
set_option maxRecDepth 100000 in
theorem gdo_3 (p : Pol) (s : St) (a : Option Addr) (c : Nat) (anow acost : Int) (A : St) (w : World) (h : rightG p s) (hc1 : 1 ≤ acost) (hc2 : acost ≤ p.burst) (hA : A = advG p s anow) (bad : Bool) (hbad : bad = true ↔ (A.held - acost < 0 ∨ p.burst * p.period < A.level - acost * p.period)) :
    Calls Try.prog 19 #[p.v, s.v a 0 c, .agg #[.int .i64 3, .int .i64 anow, .int .i64 acost]] w fun e w' =>
      e = .returned (.tuple #[if bad then s.v a 0 c else .agg #[.int .i64 A.at_, .int .i64 (A.level - acost * p.period), .int .i64 (A.held - acost), .slice none 0 0], .bool (!bad)]) ∧ Below w.heap.size w w' := by
  have hlg := h.2.2.2.2.2.2.2
  have hrt := gright_any p s a 0 c (by rw [hlg]; rfl)
  have hav := gadv_any p s a 0 c anow (by rw [hlg]; rfl)
  rw [decide_eq_true h] at hrt
  have hin := in_any acost 1 p.burst
  rw [inB_iff.2 ⟨hc1, hc2⟩] at hin
  have hok := h.1
  have hlv := advG_level p s anow h
  have hhd := advG_held p s anow h
  have hr3 := h.2.2.2.1
  have hr4 := h.2.2.2.2.1
  rw [← hA] at hav hlv hhd
  clear h hA
  obtain ⟨k, l, d, b, cc, o⟩ := p
  obtain ⟨at_, level, held, lg⟩ := s
  obtain ⟨aat, alv, ahd, alg⟩ := A
  unfold St.v Pol.v at *
  dsimp only at *
  obtain ⟨z0, z1, z2, z3, z4, z5, z6, z7⟩ := hok
  dsimp only at *
  have hM : acost * d ≤ 1152921504606846976 := prod_le (by omega) (by omega) (by omega)
  have hM0 : 0 ≤ acost * d := Int.mul_nonneg (by omega) (by omega)
  have hw1 : IntKind.i64.wrap (acost * d) = acost * d := IntWalk.i64_in _ (by omega)
  have hwb : IntKind.i64.wrap (b * d) = b * d := IntWalk.i64_in _ (by omega)
  have hw2 : IntKind.i64.wrap (alv - acost * d) = alv - acost * d := IntWalk.i64_in _ (by omega)
  have hw0 : IntKind.i64.wrap (ahd - acost) = ahd - acost := IntWalk.i64_in _ (by omega)
  have HRT := Go.Lib.hid hrt
  have HAV := Go.Lib.hid hav
  have HIN := Go.Lib.hid hin
  have hcase : (bad = true ∧ ahd - acost < 0) ∨ (bad = true ∧ ¬ ahd - acost < 0 ∧ b * d < alv - acost * d) ∨ (bad = false ∧ ¬ ahd - acost < 0 ∧ ¬ b * d < alv - acost * d) := by
    cases bad
    · simp at hbad
      exact .inr (.inr ⟨rfl, by omega, by omega⟩)
    · simp at hbad
      rcases hbad with hx | hx
      · exact .inl ⟨rfl, hx⟩
      · by_cases hy : ahd - acost < 0
        · exact .inl ⟨rfl, hy⟩
        · exact .inr (.inl ⟨rfl, hy, hx⟩)
  have HCS := Go.Lib.hid hcase
  clear hbad hcase
  clear hrt hav hin hlv hhd hM hM0 z0 z1 z2 z3 z4 z5 z6 z7 hr3 hr4 hc1 hc2
  go_enter Try.func19, Try.ntmps19
  go_wp2_with fail
  refine (HRT.out _).mono ?_
  rintro e w1 ⟨rfl, hb⟩
  have hB : Below w.heap.size w w1 := bl_then (bl_alloc (bl_alloc (bl_alloc (bl_alloc (bl_refl _) _) _) _) _) hb
  have c0 := bl_cell (v := .int .i64 k) hb (show World.cell? _ ⟨w.heap.size, 0, none⟩ = _ by go_simp)
  have c1 := bl_cell (v := .int .i64 l) hb (show World.cell? _ ⟨w.heap.size, 1, none⟩ = _ by go_simp)
  have c2 := bl_cell (v := .int .i64 d) hb (show World.cell? _ ⟨w.heap.size, 2, none⟩ = _ by go_simp)
  have c3 := bl_cell (v := .int .i64 b) hb (show World.cell? _ ⟨w.heap.size, 3, none⟩ = _ by go_simp)
  have c4 := bl_cell (v := .int .i64 cc) hb (show World.cell? _ ⟨w.heap.size, 4, none⟩ = _ by go_simp)
  have c5 := bl_cell (v := .bool o) hb (show World.cell? _ ⟨w.heap.size, 5, none⟩ = _ by go_simp)
  have c6 := bl_cell (v := .int .i64 at_) hb (show World.cell? _ ⟨w.heap.size + 1, 0, none⟩ = _ by go_simp)
  have c7 := bl_cell (v := .int .i64 level) hb (show World.cell? _ ⟨w.heap.size + 1, 1, none⟩ = _ by go_simp)
  have c8 := bl_cell (v := .int .i64 held) hb (show World.cell? _ ⟨w.heap.size + 1, 2, none⟩ = _ by go_simp)
  have c9 := bl_cell (v := .slice a 0 c) hb (show World.cell? _ ⟨w.heap.size + 1, 3, none⟩ = _ by go_simp)
  have c10 := bl_cell (v := .int .i64 3) hb (show World.cell? _ ⟨w.heap.size + 1 + 1, 0, none⟩ = _ by go_simp)
  have c11 := bl_cell (v := .int .i64 anow) hb (show World.cell? _ ⟨w.heap.size + 1 + 1, 1, none⟩ = _ by go_simp)
  have c12 := bl_cell (v := .int .i64 acost) hb (show World.cell? _ ⟨w.heap.size + 1 + 1, 2, none⟩ = _ by go_simp)
  have hR : ResB w1 (w.heap.size + 1 + 1 + 1) := res_bl (res_new _ _ _ _ _ _ (by simp)) hb
  clear hb HRT
  go_wp2_with fail
  refine (HIN.out _).mono ?_
  rintro e w2 ⟨rfl, rfl⟩
  clear HIN
  go_wp2_with fail
  refine wp_region_held_drew (S := fun w' => w'.cell? ⟨w.heap.size, 0, none⟩ = some (.int .i64 k) ∧ w'.cell? ⟨w.heap.size, 1, none⟩ = some (.int .i64 l) ∧ w'.cell? ⟨w.heap.size, 2, none⟩ = some (.int .i64 d) ∧ w'.cell? ⟨w.heap.size, 3, none⟩ = some (.int .i64 b) ∧ w'.cell? ⟨w.heap.size, 4, none⟩ = some (.int .i64 cc) ∧ w'.cell? ⟨w.heap.size, 5, none⟩ = some (.bool o) ∧ w'.cell? ⟨w.heap.size + 1, 0, none⟩ = some (.int .i64 at_) ∧ w'.cell? ⟨w.heap.size + 1, 1, none⟩ = some (.int .i64 level) ∧ w'.cell? ⟨w.heap.size + 1, 2, none⟩ = some (.int .i64 held) ∧ w'.cell? ⟨w.heap.size + 1, 3, none⟩ = some (.slice a 0 c) ∧ w'.cell? ⟨w.heap.size + 1 + 1, 0, none⟩ = some (.int .i64 3) ∧ w'.cell? ⟨w.heap.size + 1 + 1, 1, none⟩ = some (.int .i64 anow) ∧ w'.cell? ⟨w.heap.size + 1 + 1, 2, none⟩ = some (.int .i64 acost) ∧ ResB w' (w.heap.size + 1 + 1 + 1) ∧ Below w.heap.size w w') (by kernel_rfl) ?_ (fun hHeld => ?_)
  · exact ⟨c0, c1, c2, c3, c4, c5, c6, c7, c8, c9, c10, c11, c12, hR, bl_drew hB⟩
  try simp only [Act.put, List.setIfInBounds_toArray, List.set_cons_zero, List.set_cons_succ]
  refine wpAnyH_abs (F := fun _ => True) hHeld trivial (fun W3 hHeld _ => ?_)
  clear hR hB c0 c1 c2 c3 c4 c5 c6 c7 c8 c9 c10 c11 c12
  (refine tk (i := 0) rfl rfl hHeld ?_)
  (refine tk (i := 1) rfl rfl hHeld ?_)
  (refine tk (i := 2) rfl rfl hHeld ?_)
  (refine tk (i := 3) rfl rfl hHeld ?_)
  (refine tk (i := 5) rfl rfl hHeld ?_)
  (refine tk (i := 6) rfl rfl hHeld ?_)
  (refine tk (i := 7) rfl rfl hHeld ?_)
  (refine tk (i := 8) rfl rfl hHeld ?_)
  (refine tk (i := 9) rfl rfl hHeld ?_)
  refine callC2 (i := 4) (j := 10) rfl rfl (fun K hK => ?_) (fun K hK => ?_)
  · go_simp
    refine (HAV.out _).mono ?_
    rintro e w5 ⟨rfl, hb⟩
    go_wp2_with fail
    refine hK.out _ _ ?_ (fun hHeld' => ?_)
    · (try dsimp only)
      (obtain ⟨h0, h1, h2, h3, h4, h5, h6, h7, h8, h9, h10, h11, h12, hr', hB'⟩ := hHeld; exact ⟨bl_cell hb h0, bl_cell hb h1, bl_cell hb h2, bl_cell hb h3, bl_cell hb h4, bl_cell hb h5, bl_cell hb h6, bl_cell hb h7, bl_cell hb h8, bl_cell hb h9, bl_cell hb h10, bl_cell hb h11, bl_cell hb h12, res_bl hr' hb, bl_then hB' hb⟩)
    clear hHeld hK K
    rename _ => hHeld
    clear hb
    try simp only [Act.put, List.setIfInBounds_toArray, List.set_cons_zero, List.set_cons_succ]
    refine callC (i := 10) rfl (fun K hK => ?_)
    have hlt : w.heap.size + 1 + 1 + 1 < w5.heap.size := by (obtain ⟨h0, h1, h2, h3, h4, h5, h6, h7, h8, h9, h10, h11, h12, hr', hB'⟩ := hHeld; exact res_lt hr')
    go_simp
    refine hK.out _ _ ?_ (fun hHeld' => ?_)
    · (try dsimp only)
      (obtain ⟨h0, h1, h2, h3, h4, h5, h6, h7, h8, h9, h10, h11, h12, hr', hB'⟩ := hHeld; exact ⟨bl_cell (bl_alloc (bl_refl _) _) h0, bl_cell (bl_alloc (bl_refl _) _) h1, bl_cell (bl_alloc (bl_refl _) _) h2, bl_cell (bl_alloc (bl_refl _) _) h3, bl_cell (bl_alloc (bl_refl _) _) h4, bl_cell (bl_alloc (bl_refl _) _) h5, bl_cell (bl_alloc (bl_refl _) _) h6, bl_cell (bl_alloc (bl_refl _) _) h7, bl_cell (bl_alloc (bl_refl _) _) h8, bl_cell (bl_alloc (bl_refl _) _) h9, bl_cell (bl_alloc (bl_refl _) _) h10, bl_cell (bl_alloc (bl_refl _) _) h11, bl_cell (bl_alloc (bl_refl _) _) h12, res_bl hr' (bl_alloc (bl_refl _) _), bl_alloc hB' _⟩)
    clear hHeld hK K
    rename _ => hHeld
    try simp only [Act.put, List.setIfInBounds_toArray, List.set_cons_zero, List.set_cons_succ]
    refine wpAnyH_abs (F := fun X => ResB X w5.heap.size) hHeld (res_new _ _ _ _ _ _ rfl) (fun w6 hHeld hN => ?_)
    generalize w5.heap.size = nb at *
    refine callC (i := 11) rfl (fun K hK => ?_)
    obtain ⟨h0, h1, h2, h3, h4, h5, h6, h7, h8, h9, h10, h11, h12, hr', hB'⟩ := hHeld
    obtain ⟨f0, f1, f2, f3, u0, u1, u2, u3, i0, i1, i2, i3⟩ := res_all hN
    clear hHeld
    have hHeld : True := trivial
    go_simp
    refine hK.out _ _ ?_ (fun hHeld' => ?_)
    · (try dsimp only)
      (have e0 : nb ≠ w.heap.size := (by omega); have e1 : nb ≠ w.heap.size + 1 := (by omega); have e2 : nb ≠ w.heap.size + 1 + 1 := (by omega); exact ⟨far4 h0 e0, far4 h1 e0, far4 h2 e0, far4 h3 e0, far4 h4 e0, far4 h5 e0, far4 h6 e1, far4 h7 e1, far4 h8 e1, far4 h9 e1, far4 h10 e2, far4 h11 e2, far4 h12 e2, res4 hr', bl4 hB' (by omega)⟩)
    clear hHeld hK K
    rename _ => hHeld
    try simp only [Act.put, List.setIfInBounds_toArray, List.set_cons_zero, List.set_cons_succ]
    (refine tk (i := 12) rfl rfl hHeld ?_)
    refine wpAnyH_done (by kernel_rfl) ?_ _
    clear hr' hB'
    obtain ⟨k0, k1, k2, k3, k4, k5, k6, k7, k8, k9, k10, k11, k12, hr'', hE⟩ := hHeld
    refine then_abs (F := fun X => (X.cell? ⟨nb, 0, none⟩ = some (.int .i64 aat) ∧ X.cell? ⟨nb, 1, none⟩ = some (.int .i64 alv) ∧ X.cell? ⟨nb, 2, none⟩ = some (.int .i64 ahd) ∧ X.cell? ⟨nb, 3, none⟩ = some (.slice none 0 0)) ∧ X.cell? ⟨w.heap.size, 0, none⟩ = some (.int .i64 k) ∧ X.cell? ⟨w.heap.size, 1, none⟩ = some (.int .i64 l) ∧ X.cell? ⟨w.heap.size, 2, none⟩ = some (.int .i64 d) ∧ X.cell? ⟨w.heap.size, 3, none⟩ = some (.int .i64 b) ∧ X.cell? ⟨w.heap.size, 4, none⟩ = some (.int .i64 cc) ∧ X.cell? ⟨w.heap.size, 5, none⟩ = some (.bool o) ∧ X.cell? ⟨w.heap.size + 1, 0, none⟩ = some (.int .i64 at_) ∧ X.cell? ⟨w.heap.size + 1, 1, none⟩ = some (.int .i64 level) ∧ X.cell? ⟨w.heap.size + 1, 2, none⟩ = some (.int .i64 held) ∧ X.cell? ⟨w.heap.size + 1, 3, none⟩ = some (.slice a 0 c) ∧ X.cell? ⟨w.heap.size + 1 + 1, 0, none⟩ = some (.int .i64 3) ∧ X.cell? ⟨w.heap.size + 1 + 1, 1, none⟩ = some (.int .i64 anow) ∧ X.cell? ⟨w.heap.size + 1 + 1, 2, none⟩ = some (.int .i64 acost) ∧ ResB X nb ∧ ResB X (w.heap.size + 1 + 1 + 1) ∧ Below w.heap.size w X) ⟨set4 _ _ _ _ i0 i1 i2 i3, k0, k1, k2, k3, k4, k5, k6, k7, k8, k9, k10, k11, k12, res4 hN, hr'', hE⟩ ?_
    clear hN hr'' hE i0 i1 i2 i3 f0 f1 f2 f3 u0 u1 u2 u3 HAV k0 k1 k2 k3 k4 k5 k6 k7 k8 k9 k10 k11 k12 h0 h1 h2 h3 h4 h5 h6 h7 h8 h9 h10 h11 h12
    rintro X ⟨⟨x0, x1, x2, x3⟩, c0, c1, c2, c3, c4, c5, c6, c7, c8, c9, c10, c11, c12, hN, hR, hE⟩
    obtain ⟨F0, F1, F2, F3, U0, U1, U2, U3, I0, I1, I2, I3⟩ := res_all hR
    have hz1 := (hN 1 (by omega)).1
    have hz2 := (hN 2 (by omega)).1
    have n0 : ¬ nb = w.heap.size := by omega
    have m0 : ¬ w.heap.size = nb := by omega
    have n1 : ¬ nb = w.heap.size + 1 := by omega
    have m1 : ¬ w.heap.size + 1 = nb := by omega
    have n2 : ¬ nb = w.heap.size + 1 + 1 := by omega
    have m2 : ¬ w.heap.size + 1 + 1 = nb := by omega
    have n3 : ¬ nb = w.heap.size + 1 + 1 + 1 := by omega
    have m3 : ¬ w.heap.size + 1 + 1 + 1 = nb := by omega
    rcases HCS.out with ⟨rfl, e1⟩ | ⟨rfl, e1, e2⟩ | ⟨rfl, e1, e2⟩
    all_goals
      clear HCS
      repeat' (first | go_skip | go_guarded | go_step | go_upon)
      (try simp only [Exit.inBlock, Exit.then])
      refine bodyPost_ret (results_state2 rfl _ _ (by rfl) (set4r (res_set (res_set hR _ _) _ _))) rfl ⟨by first | rfl | simp, bl4 (bl_set (bl_set hE (by dsimp only; omega) _) (by dsimp only; omega) _) (by omega)⟩
  · have hlt : w.heap.size + 1 + 1 + 1 < W3.heap.size := by (obtain ⟨h0, h1, h2, h3, h4, h5, h6, h7, h8, h9, h10, h11, h12, hr', hB'⟩ := hHeld; exact res_lt hr')
    go_simp
    refine hK.out _ _ ?_ (fun hHeld' => ?_)
    · (try dsimp only)
      (obtain ⟨h0, h1, h2, h3, h4, h5, h6, h7, h8, h9, h10, h11, h12, hr', hB'⟩ := hHeld; exact ⟨bl_cell (bl_alloc (bl_refl _) _) h0, bl_cell (bl_alloc (bl_refl _) _) h1, bl_cell (bl_alloc (bl_refl _) _) h2, bl_cell (bl_alloc (bl_refl _) _) h3, bl_cell (bl_alloc (bl_refl _) _) h4, bl_cell (bl_alloc (bl_refl _) _) h5, bl_cell (bl_alloc (bl_refl _) _) h6, bl_cell (bl_alloc (bl_refl _) _) h7, bl_cell (bl_alloc (bl_refl _) _) h8, bl_cell (bl_alloc (bl_refl _) _) h9, bl_cell (bl_alloc (bl_refl _) _) h10, bl_cell (bl_alloc (bl_refl _) _) h11, bl_cell (bl_alloc (bl_refl _) _) h12, res_bl hr' (bl_alloc (bl_refl _) _), bl_alloc hB' _⟩)
    clear hHeld hK K
    rename _ => hHeld
    try simp only [Act.put, List.setIfInBounds_toArray, List.set_cons_zero, List.set_cons_succ]
    refine wpAnyH_abs (F := fun X => ResB X W3.heap.size) hHeld (res_new _ _ _ _ _ _ rfl) (fun w4 hHeld hN => ?_)
    generalize W3.heap.size = nb at *
    refine callC (i := 4) rfl (fun K hK => ?_)
    go_simp
    refine (HAV.out _).mono ?_
    rintro e w6 ⟨rfl, hb⟩
    go_wp2_with fail
    refine hK.out _ _ ?_ (fun hHeld' => ?_)
    · (try dsimp only)
      (obtain ⟨h0, h1, h2, h3, h4, h5, h6, h7, h8, h9, h10, h11, h12, hr', hB'⟩ := hHeld; exact ⟨bl_cell hb h0, bl_cell hb h1, bl_cell hb h2, bl_cell hb h3, bl_cell hb h4, bl_cell hb h5, bl_cell hb h6, bl_cell hb h7, bl_cell hb h8, bl_cell hb h9, bl_cell hb h10, bl_cell hb h11, bl_cell hb h12, res_bl hr' hb, bl_then hB' hb⟩)
    clear hHeld hK K
    rename _ => hHeld
    replace hN := res_bl hN hb
    clear hb
    try simp only [Act.put, List.setIfInBounds_toArray, List.set_cons_zero, List.set_cons_succ]
    refine callC (i := 11) rfl (fun K hK => ?_)
    obtain ⟨h0, h1, h2, h3, h4, h5, h6, h7, h8, h9, h10, h11, h12, hr', hB'⟩ := hHeld
    obtain ⟨f0, f1, f2, f3, u0, u1, u2, u3, i0, i1, i2, i3⟩ := res_all hN
    clear hHeld
    have hHeld : True := trivial
    go_simp
    refine hK.out _ _ ?_ (fun hHeld' => ?_)
    · (try dsimp only)
      (have e0 : nb ≠ w.heap.size := (by omega); have e1 : nb ≠ w.heap.size + 1 := (by omega); have e2 : nb ≠ w.heap.size + 1 + 1 := (by omega); exact ⟨far4 h0 e0, far4 h1 e0, far4 h2 e0, far4 h3 e0, far4 h4 e0, far4 h5 e0, far4 h6 e1, far4 h7 e1, far4 h8 e1, far4 h9 e1, far4 h10 e2, far4 h11 e2, far4 h12 e2, res4 hr', bl4 hB' (by omega)⟩)
    clear hHeld hK K
    rename _ => hHeld
    try simp only [Act.put, List.setIfInBounds_toArray, List.set_cons_zero, List.set_cons_succ]
    (refine tk (i := 12) rfl rfl hHeld ?_)
    refine wpAnyH_done (by kernel_rfl) ?_ _
    clear hr' hB'
    obtain ⟨k0, k1, k2, k3, k4, k5, k6, k7, k8, k9, k10, k11, k12, hr'', hE⟩ := hHeld
    refine then_abs (F := fun X => (X.cell? ⟨nb, 0, none⟩ = some (.int .i64 aat) ∧ X.cell? ⟨nb, 1, none⟩ = some (.int .i64 alv) ∧ X.cell? ⟨nb, 2, none⟩ = some (.int .i64 ahd) ∧ X.cell? ⟨nb, 3, none⟩ = some (.slice none 0 0)) ∧ X.cell? ⟨w.heap.size, 0, none⟩ = some (.int .i64 k) ∧ X.cell? ⟨w.heap.size, 1, none⟩ = some (.int .i64 l) ∧ X.cell? ⟨w.heap.size, 2, none⟩ = some (.int .i64 d) ∧ X.cell? ⟨w.heap.size, 3, none⟩ = some (.int .i64 b) ∧ X.cell? ⟨w.heap.size, 4, none⟩ = some (.int .i64 cc) ∧ X.cell? ⟨w.heap.size, 5, none⟩ = some (.bool o) ∧ X.cell? ⟨w.heap.size + 1, 0, none⟩ = some (.int .i64 at_) ∧ X.cell? ⟨w.heap.size + 1, 1, none⟩ = some (.int .i64 level) ∧ X.cell? ⟨w.heap.size + 1, 2, none⟩ = some (.int .i64 held) ∧ X.cell? ⟨w.heap.size + 1, 3, none⟩ = some (.slice a 0 c) ∧ X.cell? ⟨w.heap.size + 1 + 1, 0, none⟩ = some (.int .i64 3) ∧ X.cell? ⟨w.heap.size + 1 + 1, 1, none⟩ = some (.int .i64 anow) ∧ X.cell? ⟨w.heap.size + 1 + 1, 2, none⟩ = some (.int .i64 acost) ∧ ResB X nb ∧ ResB X (w.heap.size + 1 + 1 + 1) ∧ Below w.heap.size w X) ⟨set4 _ _ _ _ i0 i1 i2 i3, k0, k1, k2, k3, k4, k5, k6, k7, k8, k9, k10, k11, k12, res4 hN, hr'', hE⟩ ?_
    clear hN hr'' hE i0 i1 i2 i3 f0 f1 f2 f3 u0 u1 u2 u3 HAV k0 k1 k2 k3 k4 k5 k6 k7 k8 k9 k10 k11 k12 h0 h1 h2 h3 h4 h5 h6 h7 h8 h9 h10 h11 h12
    rintro X ⟨⟨x0, x1, x2, x3⟩, c0, c1, c2, c3, c4, c5, c6, c7, c8, c9, c10, c11, c12, hN, hR, hE⟩
    obtain ⟨F0, F1, F2, F3, U0, U1, U2, U3, I0, I1, I2, I3⟩ := res_all hR
    have hz1 := (hN 1 (by omega)).1
    have hz2 := (hN 2 (by omega)).1
    have n0 : ¬ nb = w.heap.size := by omega
    have m0 : ¬ w.heap.size = nb := by omega
    have n1 : ¬ nb = w.heap.size + 1 := by omega
    have m1 : ¬ w.heap.size + 1 = nb := by omega
    have n2 : ¬ nb = w.heap.size + 1 + 1 := by omega
    have m2 : ¬ w.heap.size + 1 + 1 = nb := by omega
    have n3 : ¬ nb = w.heap.size + 1 + 1 + 1 := by omega
    have m3 : ¬ w.heap.size + 1 + 1 + 1 = nb := by omega
    rcases HCS.out with ⟨rfl, e1⟩ | ⟨rfl, e1, e2⟩ | ⟨rfl, e1, e2⟩
    all_goals
      clear HCS
      repeat' (first | go_skip | go_guarded | go_step | go_upon)
      (try simp only [Exit.inBlock, Exit.then])
      refine bodyPost_ret (results_state2 rfl _ _ (by rfl) (set4r (res_set (res_set hR _ _) _ _))) rfl ⟨by first | rfl | simp, bl4 (bl_set (bl_set hE (by dsimp only; omega) _) (by dsimp only; omega) _) (by omega)⟩

set_option maxHeartbeats 2000000 in
set_option maxRecDepth 100000 in
theorem gdo_4 (p : Pol) (s : St) (a : Option Addr) (c : Nat) (anow acost : Int) (A : St) (w : World) (h : rightG p s) (hc1 : 1 ≤ acost) (hc2 : acost ≤ p.burst) (hA : A = advG p s anow) (bad : Bool) (hbad : bad = true ↔ (A.held - acost < 0 ∨ p.burst * p.period < A.level)) :
    Calls Try.prog 19 #[p.v, s.v a 0 c, .agg #[.int .i64 4, .int .i64 anow, .int .i64 acost]] w fun e w' =>
      e = .returned (.tuple #[if bad then s.v a 0 c else .agg #[.int .i64 A.at_, .int .i64 (A.level), .int .i64 (A.held - acost), .slice none 0 0], .bool (!bad)]) ∧ Below w.heap.size w w' := by
  have hlg := h.2.2.2.2.2.2.2
  have hrt := gright_any p s a 0 c (by rw [hlg]; rfl)
  have hav := gadv_any p s a 0 c anow (by rw [hlg]; rfl)
  rw [decide_eq_true h] at hrt
  have hin := in_any acost 1 p.burst
  rw [inB_iff.2 ⟨hc1, hc2⟩] at hin
  have hok := h.1
  have hlv := advG_level p s anow h
  have hhd := advG_held p s anow h
  have hr3 := h.2.2.2.1
  have hr4 := h.2.2.2.2.1
  rw [← hA] at hav hlv hhd
  clear h hA
  obtain ⟨k, l, d, b, cc, o⟩ := p
  obtain ⟨at_, level, held, lg⟩ := s
  obtain ⟨aat, alv, ahd, alg⟩ := A
  unfold St.v Pol.v at *
  dsimp only at *
  obtain ⟨z0, z1, z2, z3, z4, z5, z6, z7⟩ := hok
  dsimp only at *
  have hM : acost * d ≤ 1152921504606846976 := prod_le (by omega) (by omega) (by omega)
  have hM0 : 0 ≤ acost * d := Int.mul_nonneg (by omega) (by omega)
  have hw1 : IntKind.i64.wrap (acost * d) = acost * d := IntWalk.i64_in _ (by omega)
  have hwb : IntKind.i64.wrap (b * d) = b * d := IntWalk.i64_in _ (by omega)
  have hw0 : IntKind.i64.wrap (ahd - acost) = ahd - acost := IntWalk.i64_in _ (by omega)
  have HRT := Go.Lib.hid hrt
  have HAV := Go.Lib.hid hav
  have HIN := Go.Lib.hid hin
  have hcase : (bad = true ∧ ahd - acost < 0) ∨ (bad = true ∧ ¬ ahd - acost < 0 ∧ b * d < alv) ∨ (bad = false ∧ ¬ ahd - acost < 0 ∧ ¬ b * d < alv) := by
    cases bad
    · simp at hbad
      exact .inr (.inr ⟨rfl, by omega, by omega⟩)
    · simp at hbad
      rcases hbad with hx | hx
      · exact .inl ⟨rfl, hx⟩
      · by_cases hy : ahd - acost < 0
        · exact .inl ⟨rfl, hy⟩
        · exact .inr (.inl ⟨rfl, hy, hx⟩)
  have HCS := Go.Lib.hid hcase
  clear hbad hcase
  clear hrt hav hin hlv hhd hM hM0 z0 z1 z2 z3 z4 z5 z6 z7 hr3 hr4 hc1 hc2
  go_enter Try.func19, Try.ntmps19
  go_wp2_with fail
  refine (HRT.out _).mono ?_
  rintro e w1 ⟨rfl, hb⟩
  have hB : Below w.heap.size w w1 := bl_then (bl_alloc (bl_alloc (bl_alloc (bl_alloc (bl_refl _) _) _) _) _) hb
  have c0 := bl_cell (v := .int .i64 k) hb (show World.cell? _ ⟨w.heap.size, 0, none⟩ = _ by go_simp)
  have c1 := bl_cell (v := .int .i64 l) hb (show World.cell? _ ⟨w.heap.size, 1, none⟩ = _ by go_simp)
  have c2 := bl_cell (v := .int .i64 d) hb (show World.cell? _ ⟨w.heap.size, 2, none⟩ = _ by go_simp)
  have c3 := bl_cell (v := .int .i64 b) hb (show World.cell? _ ⟨w.heap.size, 3, none⟩ = _ by go_simp)
  have c4 := bl_cell (v := .int .i64 cc) hb (show World.cell? _ ⟨w.heap.size, 4, none⟩ = _ by go_simp)
  have c5 := bl_cell (v := .bool o) hb (show World.cell? _ ⟨w.heap.size, 5, none⟩ = _ by go_simp)
  have c6 := bl_cell (v := .int .i64 at_) hb (show World.cell? _ ⟨w.heap.size + 1, 0, none⟩ = _ by go_simp)
  have c7 := bl_cell (v := .int .i64 level) hb (show World.cell? _ ⟨w.heap.size + 1, 1, none⟩ = _ by go_simp)
  have c8 := bl_cell (v := .int .i64 held) hb (show World.cell? _ ⟨w.heap.size + 1, 2, none⟩ = _ by go_simp)
  have c9 := bl_cell (v := .slice a 0 c) hb (show World.cell? _ ⟨w.heap.size + 1, 3, none⟩ = _ by go_simp)
  have c10 := bl_cell (v := .int .i64 4) hb (show World.cell? _ ⟨w.heap.size + 1 + 1, 0, none⟩ = _ by go_simp)
  have c11 := bl_cell (v := .int .i64 anow) hb (show World.cell? _ ⟨w.heap.size + 1 + 1, 1, none⟩ = _ by go_simp)
  have c12 := bl_cell (v := .int .i64 acost) hb (show World.cell? _ ⟨w.heap.size + 1 + 1, 2, none⟩ = _ by go_simp)
  have hR : ResB w1 (w.heap.size + 1 + 1 + 1) := res_bl (res_new _ _ _ _ _ _ (by simp)) hb
  clear hb HRT
  go_wp2_with fail
  refine (HIN.out _).mono ?_
  rintro e w2 ⟨rfl, rfl⟩
  clear HIN
  go_wp2_with fail
  refine wp_region_held_drew (S := fun w' => w'.cell? ⟨w.heap.size, 0, none⟩ = some (.int .i64 k) ∧ w'.cell? ⟨w.heap.size, 1, none⟩ = some (.int .i64 l) ∧ w'.cell? ⟨w.heap.size, 2, none⟩ = some (.int .i64 d) ∧ w'.cell? ⟨w.heap.size, 3, none⟩ = some (.int .i64 b) ∧ w'.cell? ⟨w.heap.size, 4, none⟩ = some (.int .i64 cc) ∧ w'.cell? ⟨w.heap.size, 5, none⟩ = some (.bool o) ∧ w'.cell? ⟨w.heap.size + 1, 0, none⟩ = some (.int .i64 at_) ∧ w'.cell? ⟨w.heap.size + 1, 1, none⟩ = some (.int .i64 level) ∧ w'.cell? ⟨w.heap.size + 1, 2, none⟩ = some (.int .i64 held) ∧ w'.cell? ⟨w.heap.size + 1, 3, none⟩ = some (.slice a 0 c) ∧ w'.cell? ⟨w.heap.size + 1 + 1, 0, none⟩ = some (.int .i64 4) ∧ w'.cell? ⟨w.heap.size + 1 + 1, 1, none⟩ = some (.int .i64 anow) ∧ w'.cell? ⟨w.heap.size + 1 + 1, 2, none⟩ = some (.int .i64 acost) ∧ ResB w' (w.heap.size + 1 + 1 + 1) ∧ Below w.heap.size w w') (by kernel_rfl) ?_ (fun hHeld => ?_)
  · exact ⟨c0, c1, c2, c3, c4, c5, c6, c7, c8, c9, c10, c11, c12, hR, bl_drew hB⟩
  try simp only [Act.put, List.setIfInBounds_toArray, List.set_cons_zero, List.set_cons_succ]
  refine wpAnyH_abs (F := fun _ => True) hHeld trivial (fun W3 hHeld _ => ?_)
  clear hR hB c0 c1 c2 c3 c4 c5 c6 c7 c8 c9 c10 c11 c12
  (refine tk (i := 0) rfl rfl hHeld ?_)
  (refine tk (i := 1) rfl rfl hHeld ?_)
  (refine tk (i := 2) rfl rfl hHeld ?_)
  (refine tk (i := 3) rfl rfl hHeld ?_)
  (refine tk (i := 5) rfl rfl hHeld ?_)
  (refine tk (i := 6) rfl rfl hHeld ?_)
  (refine tk (i := 7) rfl rfl hHeld ?_)
  (refine tk (i := 8) rfl rfl hHeld ?_)
  (refine tk (i := 9) rfl rfl hHeld ?_)
  refine callC2 (i := 4) (j := 10) rfl rfl (fun K hK => ?_) (fun K hK => ?_)
  · go_simp
    refine (HAV.out _).mono ?_
    rintro e w5 ⟨rfl, hb⟩
    go_wp2_with fail
    refine hK.out _ _ ?_ (fun hHeld' => ?_)
    · (try dsimp only)
      (obtain ⟨h0, h1, h2, h3, h4, h5, h6, h7, h8, h9, h10, h11, h12, hr', hB'⟩ := hHeld; exact ⟨bl_cell hb h0, bl_cell hb h1, bl_cell hb h2, bl_cell hb h3, bl_cell hb h4, bl_cell hb h5, bl_cell hb h6, bl_cell hb h7, bl_cell hb h8, bl_cell hb h9, bl_cell hb h10, bl_cell hb h11, bl_cell hb h12, res_bl hr' hb, bl_then hB' hb⟩)
    clear hHeld hK K
    rename _ => hHeld
    clear hb
    try simp only [Act.put, List.setIfInBounds_toArray, List.set_cons_zero, List.set_cons_succ]
    refine callC (i := 10) rfl (fun K hK => ?_)
    have hlt : w.heap.size + 1 + 1 + 1 < w5.heap.size := by (obtain ⟨h0, h1, h2, h3, h4, h5, h6, h7, h8, h9, h10, h11, h12, hr', hB'⟩ := hHeld; exact res_lt hr')
    go_simp
    refine hK.out _ _ ?_ (fun hHeld' => ?_)
    · (try dsimp only)
      (obtain ⟨h0, h1, h2, h3, h4, h5, h6, h7, h8, h9, h10, h11, h12, hr', hB'⟩ := hHeld; exact ⟨bl_cell (bl_alloc (bl_refl _) _) h0, bl_cell (bl_alloc (bl_refl _) _) h1, bl_cell (bl_alloc (bl_refl _) _) h2, bl_cell (bl_alloc (bl_refl _) _) h3, bl_cell (bl_alloc (bl_refl _) _) h4, bl_cell (bl_alloc (bl_refl _) _) h5, bl_cell (bl_alloc (bl_refl _) _) h6, bl_cell (bl_alloc (bl_refl _) _) h7, bl_cell (bl_alloc (bl_refl _) _) h8, bl_cell (bl_alloc (bl_refl _) _) h9, bl_cell (bl_alloc (bl_refl _) _) h10, bl_cell (bl_alloc (bl_refl _) _) h11, bl_cell (bl_alloc (bl_refl _) _) h12, res_bl hr' (bl_alloc (bl_refl _) _), bl_alloc hB' _⟩)
    clear hHeld hK K
    rename _ => hHeld
    try simp only [Act.put, List.setIfInBounds_toArray, List.set_cons_zero, List.set_cons_succ]
    refine wpAnyH_abs (F := fun X => ResB X w5.heap.size) hHeld (res_new _ _ _ _ _ _ rfl) (fun w6 hHeld hN => ?_)
    generalize w5.heap.size = nb at *
    refine callC (i := 11) rfl (fun K hK => ?_)
    obtain ⟨h0, h1, h2, h3, h4, h5, h6, h7, h8, h9, h10, h11, h12, hr', hB'⟩ := hHeld
    obtain ⟨f0, f1, f2, f3, u0, u1, u2, u3, i0, i1, i2, i3⟩ := res_all hN
    clear hHeld
    have hHeld : True := trivial
    go_simp
    refine hK.out _ _ ?_ (fun hHeld' => ?_)
    · (try dsimp only)
      (have e0 : nb ≠ w.heap.size := (by omega); have e1 : nb ≠ w.heap.size + 1 := (by omega); have e2 : nb ≠ w.heap.size + 1 + 1 := (by omega); exact ⟨far4 h0 e0, far4 h1 e0, far4 h2 e0, far4 h3 e0, far4 h4 e0, far4 h5 e0, far4 h6 e1, far4 h7 e1, far4 h8 e1, far4 h9 e1, far4 h10 e2, far4 h11 e2, far4 h12 e2, res4 hr', bl4 hB' (by omega)⟩)
    clear hHeld hK K
    rename _ => hHeld
    try simp only [Act.put, List.setIfInBounds_toArray, List.set_cons_zero, List.set_cons_succ]
    (refine tk (i := 12) rfl rfl hHeld ?_)
    refine wpAnyH_done (by kernel_rfl) ?_ _
    clear hr' hB'
    obtain ⟨k0, k1, k2, k3, k4, k5, k6, k7, k8, k9, k10, k11, k12, hr'', hE⟩ := hHeld
    refine then_abs (F := fun X => (X.cell? ⟨nb, 0, none⟩ = some (.int .i64 aat) ∧ X.cell? ⟨nb, 1, none⟩ = some (.int .i64 alv) ∧ X.cell? ⟨nb, 2, none⟩ = some (.int .i64 ahd) ∧ X.cell? ⟨nb, 3, none⟩ = some (.slice none 0 0)) ∧ X.cell? ⟨w.heap.size, 0, none⟩ = some (.int .i64 k) ∧ X.cell? ⟨w.heap.size, 1, none⟩ = some (.int .i64 l) ∧ X.cell? ⟨w.heap.size, 2, none⟩ = some (.int .i64 d) ∧ X.cell? ⟨w.heap.size, 3, none⟩ = some (.int .i64 b) ∧ X.cell? ⟨w.heap.size, 4, none⟩ = some (.int .i64 cc) ∧ X.cell? ⟨w.heap.size, 5, none⟩ = some (.bool o) ∧ X.cell? ⟨w.heap.size + 1, 0, none⟩ = some (.int .i64 at_) ∧ X.cell? ⟨w.heap.size + 1, 1, none⟩ = some (.int .i64 level) ∧ X.cell? ⟨w.heap.size + 1, 2, none⟩ = some (.int .i64 held) ∧ X.cell? ⟨w.heap.size + 1, 3, none⟩ = some (.slice a 0 c) ∧ X.cell? ⟨w.heap.size + 1 + 1, 0, none⟩ = some (.int .i64 4) ∧ X.cell? ⟨w.heap.size + 1 + 1, 1, none⟩ = some (.int .i64 anow) ∧ X.cell? ⟨w.heap.size + 1 + 1, 2, none⟩ = some (.int .i64 acost) ∧ ResB X nb ∧ ResB X (w.heap.size + 1 + 1 + 1) ∧ Below w.heap.size w X) ⟨set4 _ _ _ _ i0 i1 i2 i3, k0, k1, k2, k3, k4, k5, k6, k7, k8, k9, k10, k11, k12, res4 hN, hr'', hE⟩ ?_
    clear hN hr'' hE i0 i1 i2 i3 f0 f1 f2 f3 u0 u1 u2 u3 HAV k0 k1 k2 k3 k4 k5 k6 k7 k8 k9 k10 k11 k12 h0 h1 h2 h3 h4 h5 h6 h7 h8 h9 h10 h11 h12
    rintro X ⟨⟨x0, x1, x2, x3⟩, c0, c1, c2, c3, c4, c5, c6, c7, c8, c9, c10, c11, c12, hN, hR, hE⟩
    obtain ⟨F0, F1, F2, F3, U0, U1, U2, U3, I0, I1, I2, I3⟩ := res_all hR
    have hz1 := (hN 1 (by omega)).1
    have hz2 := (hN 2 (by omega)).1
    have n0 : ¬ nb = w.heap.size := by omega
    have m0 : ¬ w.heap.size = nb := by omega
    have n1 : ¬ nb = w.heap.size + 1 := by omega
    have m1 : ¬ w.heap.size + 1 = nb := by omega
    have n2 : ¬ nb = w.heap.size + 1 + 1 := by omega
    have m2 : ¬ w.heap.size + 1 + 1 = nb := by omega
    have n3 : ¬ nb = w.heap.size + 1 + 1 + 1 := by omega
    have m3 : ¬ w.heap.size + 1 + 1 + 1 = nb := by omega
    rcases HCS.out with ⟨rfl, e1⟩ | ⟨rfl, e1, e2⟩ | ⟨rfl, e1, e2⟩
    all_goals
      clear HCS
      repeat' (first | go_skip | go_guarded | go_step | go_upon)
      (try simp only [Exit.inBlock, Exit.then])
      refine bodyPost_ret (results_state2 rfl _ _ (by rfl) (set4r (res_set hR _ _))) rfl ⟨by first | rfl | simp, bl4 (bl_set hE (by dsimp only; omega) _) (by omega)⟩
  · have hlt : w.heap.size + 1 + 1 + 1 < W3.heap.size := by (obtain ⟨h0, h1, h2, h3, h4, h5, h6, h7, h8, h9, h10, h11, h12, hr', hB'⟩ := hHeld; exact res_lt hr')
    go_simp
    refine hK.out _ _ ?_ (fun hHeld' => ?_)
    · (try dsimp only)
      (obtain ⟨h0, h1, h2, h3, h4, h5, h6, h7, h8, h9, h10, h11, h12, hr', hB'⟩ := hHeld; exact ⟨bl_cell (bl_alloc (bl_refl _) _) h0, bl_cell (bl_alloc (bl_refl _) _) h1, bl_cell (bl_alloc (bl_refl _) _) h2, bl_cell (bl_alloc (bl_refl _) _) h3, bl_cell (bl_alloc (bl_refl _) _) h4, bl_cell (bl_alloc (bl_refl _) _) h5, bl_cell (bl_alloc (bl_refl _) _) h6, bl_cell (bl_alloc (bl_refl _) _) h7, bl_cell (bl_alloc (bl_refl _) _) h8, bl_cell (bl_alloc (bl_refl _) _) h9, bl_cell (bl_alloc (bl_refl _) _) h10, bl_cell (bl_alloc (bl_refl _) _) h11, bl_cell (bl_alloc (bl_refl _) _) h12, res_bl hr' (bl_alloc (bl_refl _) _), bl_alloc hB' _⟩)
    clear hHeld hK K
    rename _ => hHeld
    try simp only [Act.put, List.setIfInBounds_toArray, List.set_cons_zero, List.set_cons_succ]
    refine wpAnyH_abs (F := fun X => ResB X W3.heap.size) hHeld (res_new _ _ _ _ _ _ rfl) (fun w4 hHeld hN => ?_)
    generalize W3.heap.size = nb at *
    refine callC (i := 4) rfl (fun K hK => ?_)
    go_simp
    refine (HAV.out _).mono ?_
    rintro e w6 ⟨rfl, hb⟩
    go_wp2_with fail
    refine hK.out _ _ ?_ (fun hHeld' => ?_)
    · (try dsimp only)
      (obtain ⟨h0, h1, h2, h3, h4, h5, h6, h7, h8, h9, h10, h11, h12, hr', hB'⟩ := hHeld; exact ⟨bl_cell hb h0, bl_cell hb h1, bl_cell hb h2, bl_cell hb h3, bl_cell hb h4, bl_cell hb h5, bl_cell hb h6, bl_cell hb h7, bl_cell hb h8, bl_cell hb h9, bl_cell hb h10, bl_cell hb h11, bl_cell hb h12, res_bl hr' hb, bl_then hB' hb⟩)
    clear hHeld hK K
    rename _ => hHeld
    replace hN := res_bl hN hb
    clear hb
    try simp only [Act.put, List.setIfInBounds_toArray, List.set_cons_zero, List.set_cons_succ]
    refine callC (i := 11) rfl (fun K hK => ?_)
    obtain ⟨h0, h1, h2, h3, h4, h5, h6, h7, h8, h9, h10, h11, h12, hr', hB'⟩ := hHeld
    obtain ⟨f0, f1, f2, f3, u0, u1, u2, u3, i0, i1, i2, i3⟩ := res_all hN
    clear hHeld
    have hHeld : True := trivial
    go_simp
    refine hK.out _ _ ?_ (fun hHeld' => ?_)
    · (try dsimp only)
      (have e0 : nb ≠ w.heap.size := (by omega); have e1 : nb ≠ w.heap.size + 1 := (by omega); have e2 : nb ≠ w.heap.size + 1 + 1 := (by omega); exact ⟨far4 h0 e0, far4 h1 e0, far4 h2 e0, far4 h3 e0, far4 h4 e0, far4 h5 e0, far4 h6 e1, far4 h7 e1, far4 h8 e1, far4 h9 e1, far4 h10 e2, far4 h11 e2, far4 h12 e2, res4 hr', bl4 hB' (by omega)⟩)
    clear hHeld hK K
    rename _ => hHeld
    try simp only [Act.put, List.setIfInBounds_toArray, List.set_cons_zero, List.set_cons_succ]
    (refine tk (i := 12) rfl rfl hHeld ?_)
    refine wpAnyH_done (by kernel_rfl) ?_ _
    clear hr' hB'
    obtain ⟨k0, k1, k2, k3, k4, k5, k6, k7, k8, k9, k10, k11, k12, hr'', hE⟩ := hHeld
    refine then_abs (F := fun X => (X.cell? ⟨nb, 0, none⟩ = some (.int .i64 aat) ∧ X.cell? ⟨nb, 1, none⟩ = some (.int .i64 alv) ∧ X.cell? ⟨nb, 2, none⟩ = some (.int .i64 ahd) ∧ X.cell? ⟨nb, 3, none⟩ = some (.slice none 0 0)) ∧ X.cell? ⟨w.heap.size, 0, none⟩ = some (.int .i64 k) ∧ X.cell? ⟨w.heap.size, 1, none⟩ = some (.int .i64 l) ∧ X.cell? ⟨w.heap.size, 2, none⟩ = some (.int .i64 d) ∧ X.cell? ⟨w.heap.size, 3, none⟩ = some (.int .i64 b) ∧ X.cell? ⟨w.heap.size, 4, none⟩ = some (.int .i64 cc) ∧ X.cell? ⟨w.heap.size, 5, none⟩ = some (.bool o) ∧ X.cell? ⟨w.heap.size + 1, 0, none⟩ = some (.int .i64 at_) ∧ X.cell? ⟨w.heap.size + 1, 1, none⟩ = some (.int .i64 level) ∧ X.cell? ⟨w.heap.size + 1, 2, none⟩ = some (.int .i64 held) ∧ X.cell? ⟨w.heap.size + 1, 3, none⟩ = some (.slice a 0 c) ∧ X.cell? ⟨w.heap.size + 1 + 1, 0, none⟩ = some (.int .i64 4) ∧ X.cell? ⟨w.heap.size + 1 + 1, 1, none⟩ = some (.int .i64 anow) ∧ X.cell? ⟨w.heap.size + 1 + 1, 2, none⟩ = some (.int .i64 acost) ∧ ResB X nb ∧ ResB X (w.heap.size + 1 + 1 + 1) ∧ Below w.heap.size w X) ⟨set4 _ _ _ _ i0 i1 i2 i3, k0, k1, k2, k3, k4, k5, k6, k7, k8, k9, k10, k11, k12, res4 hN, hr'', hE⟩ ?_
    clear hN hr'' hE i0 i1 i2 i3 f0 f1 f2 f3 u0 u1 u2 u3 HAV k0 k1 k2 k3 k4 k5 k6 k7 k8 k9 k10 k11 k12 h0 h1 h2 h3 h4 h5 h6 h7 h8 h9 h10 h11 h12
    rintro X ⟨⟨x0, x1, x2, x3⟩, c0, c1, c2, c3, c4, c5, c6, c7, c8, c9, c10, c11, c12, hN, hR, hE⟩
    obtain ⟨F0, F1, F2, F3, U0, U1, U2, U3, I0, I1, I2, I3⟩ := res_all hR
    have hz1 := (hN 1 (by omega)).1
    have hz2 := (hN 2 (by omega)).1
    have n0 : ¬ nb = w.heap.size := by omega
    have m0 : ¬ w.heap.size = nb := by omega
    have n1 : ¬ nb = w.heap.size + 1 := by omega
    have m1 : ¬ w.heap.size + 1 = nb := by omega
    have n2 : ¬ nb = w.heap.size + 1 + 1 := by omega
    have m2 : ¬ w.heap.size + 1 + 1 = nb := by omega
    have n3 : ¬ nb = w.heap.size + 1 + 1 + 1 := by omega
    have m3 : ¬ w.heap.size + 1 + 1 + 1 = nb := by omega
    rcases HCS.out with ⟨rfl, e1⟩ | ⟨rfl, e1, e2⟩ | ⟨rfl, e1, e2⟩
    all_goals
      clear HCS
      repeat' (first | go_skip | go_guarded | go_step | go_upon)
      (try simp only [Exit.inBlock, Exit.then])
      refine bodyPost_ret (results_state2 rfl _ _ (by rfl) (set4r (res_set hR _ _))) rfl ⟨by first | rfl | simp, bl4 (bl_set hE (by dsimp only; omega) _) (by omega)⟩

set_option maxHeartbeats 2000000 in
set_option maxRecDepth 100000 in
theorem gdo_5 (p : Pol) (s : St) (a : Option Addr) (c : Nat) (anow acost : Int) (ak : Int) (A : St) (w : World) (h : rightG p s) (hc1 : 1 ≤ acost) (hc2 : acost ≤ p.burst) (hA : A = advG p s anow) (hk1 : ¬ ak = 1) (hk2 : ¬ ak = 2) (hk3 : ¬ ak = 3) (hk4 : ¬ ak = 4) :
    Calls Try.prog 19 #[p.v, s.v a 0 c, .agg #[.int .i64 ak, .int .i64 anow, .int .i64 acost]] w fun e w' =>
      e = .returned (.tuple #[s.v a 0 c, .bool false]) ∧ Below w.heap.size w w' := by
  have hlg := h.2.2.2.2.2.2.2
  have hrt := gright_any p s a 0 c (by rw [hlg]; rfl)
  have hav := gadv_any p s a 0 c anow (by rw [hlg]; rfl)
  rw [decide_eq_true h] at hrt
  have hin := in_any acost 1 p.burst
  rw [inB_iff.2 ⟨hc1, hc2⟩] at hin
  have hok := h.1
  have hlv := advG_level p s anow h
  have hhd := advG_held p s anow h
  have hr3 := h.2.2.2.1
  have hr4 := h.2.2.2.2.1
  rw [← hA] at hav hlv hhd
  clear h hA
  obtain ⟨k, l, d, b, cc, o⟩ := p
  obtain ⟨at_, level, held, lg⟩ := s
  obtain ⟨aat, alv, ahd, alg⟩ := A
  unfold St.v Pol.v at *
  dsimp only at *
  obtain ⟨z0, z1, z2, z3, z4, z5, z6, z7⟩ := hok
  dsimp only at *
  have hM : acost * d ≤ 1152921504606846976 := prod_le (by omega) (by omega) (by omega)
  have hM0 : 0 ≤ acost * d := Int.mul_nonneg (by omega) (by omega)
  have hw1 : IntKind.i64.wrap (acost * d) = acost * d := IntWalk.i64_in _ (by omega)
  have hwb : IntKind.i64.wrap (b * d) = b * d := IntWalk.i64_in _ (by omega)
  have HRT := Go.Lib.hid hrt
  have HAV := Go.Lib.hid hav
  have HIN := Go.Lib.hid hin
  clear hrt hav hin hlv hhd hM hM0 z0 z1 z2 z3 z4 z5 z6 z7 hr3 hr4 hc1 hc2
  go_enter Try.func19, Try.ntmps19
  go_wp2_with fail
  refine (HRT.out _).mono ?_
  rintro e w1 ⟨rfl, hb⟩
  have hB : Below w.heap.size w w1 := bl_then (bl_alloc (bl_alloc (bl_alloc (bl_alloc (bl_refl _) _) _) _) _) hb
  have c0 := bl_cell (v := .int .i64 k) hb (show World.cell? _ ⟨w.heap.size, 0, none⟩ = _ by go_simp)
  have c1 := bl_cell (v := .int .i64 l) hb (show World.cell? _ ⟨w.heap.size, 1, none⟩ = _ by go_simp)
  have c2 := bl_cell (v := .int .i64 d) hb (show World.cell? _ ⟨w.heap.size, 2, none⟩ = _ by go_simp)
  have c3 := bl_cell (v := .int .i64 b) hb (show World.cell? _ ⟨w.heap.size, 3, none⟩ = _ by go_simp)
  have c4 := bl_cell (v := .int .i64 cc) hb (show World.cell? _ ⟨w.heap.size, 4, none⟩ = _ by go_simp)
  have c5 := bl_cell (v := .bool o) hb (show World.cell? _ ⟨w.heap.size, 5, none⟩ = _ by go_simp)
  have c6 := bl_cell (v := .int .i64 at_) hb (show World.cell? _ ⟨w.heap.size + 1, 0, none⟩ = _ by go_simp)
  have c7 := bl_cell (v := .int .i64 level) hb (show World.cell? _ ⟨w.heap.size + 1, 1, none⟩ = _ by go_simp)
  have c8 := bl_cell (v := .int .i64 held) hb (show World.cell? _ ⟨w.heap.size + 1, 2, none⟩ = _ by go_simp)
  have c9 := bl_cell (v := .slice a 0 c) hb (show World.cell? _ ⟨w.heap.size + 1, 3, none⟩ = _ by go_simp)
  have c10 := bl_cell (v := .int .i64 ak) hb (show World.cell? _ ⟨w.heap.size + 1 + 1, 0, none⟩ = _ by go_simp)
  have c11 := bl_cell (v := .int .i64 anow) hb (show World.cell? _ ⟨w.heap.size + 1 + 1, 1, none⟩ = _ by go_simp)
  have c12 := bl_cell (v := .int .i64 acost) hb (show World.cell? _ ⟨w.heap.size + 1 + 1, 2, none⟩ = _ by go_simp)
  have hR : ResB w1 (w.heap.size + 1 + 1 + 1) := res_bl (res_new _ _ _ _ _ _ (by simp)) hb
  clear hb HRT
  go_wp2_with fail
  refine (HIN.out _).mono ?_
  rintro e w2 ⟨rfl, rfl⟩
  clear HIN
  go_wp2_with fail
  refine wp_region_held_drew (S := fun w' => w'.cell? ⟨w.heap.size, 0, none⟩ = some (.int .i64 k) ∧ w'.cell? ⟨w.heap.size, 1, none⟩ = some (.int .i64 l) ∧ w'.cell? ⟨w.heap.size, 2, none⟩ = some (.int .i64 d) ∧ w'.cell? ⟨w.heap.size, 3, none⟩ = some (.int .i64 b) ∧ w'.cell? ⟨w.heap.size, 4, none⟩ = some (.int .i64 cc) ∧ w'.cell? ⟨w.heap.size, 5, none⟩ = some (.bool o) ∧ w'.cell? ⟨w.heap.size + 1, 0, none⟩ = some (.int .i64 at_) ∧ w'.cell? ⟨w.heap.size + 1, 1, none⟩ = some (.int .i64 level) ∧ w'.cell? ⟨w.heap.size + 1, 2, none⟩ = some (.int .i64 held) ∧ w'.cell? ⟨w.heap.size + 1, 3, none⟩ = some (.slice a 0 c) ∧ w'.cell? ⟨w.heap.size + 1 + 1, 0, none⟩ = some (.int .i64 ak) ∧ w'.cell? ⟨w.heap.size + 1 + 1, 1, none⟩ = some (.int .i64 anow) ∧ w'.cell? ⟨w.heap.size + 1 + 1, 2, none⟩ = some (.int .i64 acost) ∧ ResB w' (w.heap.size + 1 + 1 + 1) ∧ Below w.heap.size w w') (by kernel_rfl) ?_ (fun hHeld => ?_)
  · exact ⟨c0, c1, c2, c3, c4, c5, c6, c7, c8, c9, c10, c11, c12, hR, bl_drew hB⟩
  try simp only [Act.put, List.setIfInBounds_toArray, List.set_cons_zero, List.set_cons_succ]
  refine wpAnyH_abs (F := fun _ => True) hHeld trivial (fun W3 hHeld _ => ?_)
  clear hR hB c0 c1 c2 c3 c4 c5 c6 c7 c8 c9 c10 c11 c12
  (refine tk (i := 0) rfl rfl hHeld ?_)
  (refine tk (i := 1) rfl rfl hHeld ?_)
  (refine tk (i := 2) rfl rfl hHeld ?_)
  (refine tk (i := 3) rfl rfl hHeld ?_)
  (refine tk (i := 5) rfl rfl hHeld ?_)
  (refine tk (i := 6) rfl rfl hHeld ?_)
  (refine tk (i := 7) rfl rfl hHeld ?_)
  (refine tk (i := 8) rfl rfl hHeld ?_)
  (refine tk (i := 9) rfl rfl hHeld ?_)
  refine callC2 (i := 4) (j := 10) rfl rfl (fun K hK => ?_) (fun K hK => ?_)
  · go_simp
    refine (HAV.out _).mono ?_
    rintro e w5 ⟨rfl, hb⟩
    go_wp2_with fail
    refine hK.out _ _ ?_ (fun hHeld' => ?_)
    · (try dsimp only)
      (obtain ⟨h0, h1, h2, h3, h4, h5, h6, h7, h8, h9, h10, h11, h12, hr', hB'⟩ := hHeld; exact ⟨bl_cell hb h0, bl_cell hb h1, bl_cell hb h2, bl_cell hb h3, bl_cell hb h4, bl_cell hb h5, bl_cell hb h6, bl_cell hb h7, bl_cell hb h8, bl_cell hb h9, bl_cell hb h10, bl_cell hb h11, bl_cell hb h12, res_bl hr' hb, bl_then hB' hb⟩)
    clear hHeld hK K
    rename _ => hHeld
    clear hb
    try simp only [Act.put, List.setIfInBounds_toArray, List.set_cons_zero, List.set_cons_succ]
    refine callC (i := 10) rfl (fun K hK => ?_)
    have hlt : w.heap.size + 1 + 1 + 1 < w5.heap.size := by (obtain ⟨h0, h1, h2, h3, h4, h5, h6, h7, h8, h9, h10, h11, h12, hr', hB'⟩ := hHeld; exact res_lt hr')
    go_simp
    refine hK.out _ _ ?_ (fun hHeld' => ?_)
    · (try dsimp only)
      (obtain ⟨h0, h1, h2, h3, h4, h5, h6, h7, h8, h9, h10, h11, h12, hr', hB'⟩ := hHeld; exact ⟨bl_cell (bl_alloc (bl_refl _) _) h0, bl_cell (bl_alloc (bl_refl _) _) h1, bl_cell (bl_alloc (bl_refl _) _) h2, bl_cell (bl_alloc (bl_refl _) _) h3, bl_cell (bl_alloc (bl_refl _) _) h4, bl_cell (bl_alloc (bl_refl _) _) h5, bl_cell (bl_alloc (bl_refl _) _) h6, bl_cell (bl_alloc (bl_refl _) _) h7, bl_cell (bl_alloc (bl_refl _) _) h8, bl_cell (bl_alloc (bl_refl _) _) h9, bl_cell (bl_alloc (bl_refl _) _) h10, bl_cell (bl_alloc (bl_refl _) _) h11, bl_cell (bl_alloc (bl_refl _) _) h12, res_bl hr' (bl_alloc (bl_refl _) _), bl_alloc hB' _⟩)
    clear hHeld hK K
    rename _ => hHeld
    try simp only [Act.put, List.setIfInBounds_toArray, List.set_cons_zero, List.set_cons_succ]
    refine wpAnyH_abs (F := fun X => ResB X w5.heap.size) hHeld (res_new _ _ _ _ _ _ rfl) (fun w6 hHeld hN => ?_)
    generalize w5.heap.size = nb at *
    refine callC (i := 11) rfl (fun K hK => ?_)
    obtain ⟨h0, h1, h2, h3, h4, h5, h6, h7, h8, h9, h10, h11, h12, hr', hB'⟩ := hHeld
    obtain ⟨f0, f1, f2, f3, u0, u1, u2, u3, i0, i1, i2, i3⟩ := res_all hN
    clear hHeld
    have hHeld : True := trivial
    go_simp
    refine hK.out _ _ ?_ (fun hHeld' => ?_)
    · (try dsimp only)
      (have e0 : nb ≠ w.heap.size := (by omega); have e1 : nb ≠ w.heap.size + 1 := (by omega); have e2 : nb ≠ w.heap.size + 1 + 1 := (by omega); exact ⟨far4 h0 e0, far4 h1 e0, far4 h2 e0, far4 h3 e0, far4 h4 e0, far4 h5 e0, far4 h6 e1, far4 h7 e1, far4 h8 e1, far4 h9 e1, far4 h10 e2, far4 h11 e2, far4 h12 e2, res4 hr', bl4 hB' (by omega)⟩)
    clear hHeld hK K
    rename _ => hHeld
    try simp only [Act.put, List.setIfInBounds_toArray, List.set_cons_zero, List.set_cons_succ]
    (refine tk (i := 12) rfl rfl hHeld ?_)
    refine wpAnyH_done (by kernel_rfl) ?_ _
    clear hr' hB'
    obtain ⟨k0, k1, k2, k3, k4, k5, k6, k7, k8, k9, k10, k11, k12, hr'', hE⟩ := hHeld
    refine then_abs (F := fun X => (X.cell? ⟨nb, 0, none⟩ = some (.int .i64 aat) ∧ X.cell? ⟨nb, 1, none⟩ = some (.int .i64 alv) ∧ X.cell? ⟨nb, 2, none⟩ = some (.int .i64 ahd) ∧ X.cell? ⟨nb, 3, none⟩ = some (.slice none 0 0)) ∧ X.cell? ⟨w.heap.size, 0, none⟩ = some (.int .i64 k) ∧ X.cell? ⟨w.heap.size, 1, none⟩ = some (.int .i64 l) ∧ X.cell? ⟨w.heap.size, 2, none⟩ = some (.int .i64 d) ∧ X.cell? ⟨w.heap.size, 3, none⟩ = some (.int .i64 b) ∧ X.cell? ⟨w.heap.size, 4, none⟩ = some (.int .i64 cc) ∧ X.cell? ⟨w.heap.size, 5, none⟩ = some (.bool o) ∧ X.cell? ⟨w.heap.size + 1, 0, none⟩ = some (.int .i64 at_) ∧ X.cell? ⟨w.heap.size + 1, 1, none⟩ = some (.int .i64 level) ∧ X.cell? ⟨w.heap.size + 1, 2, none⟩ = some (.int .i64 held) ∧ X.cell? ⟨w.heap.size + 1, 3, none⟩ = some (.slice a 0 c) ∧ X.cell? ⟨w.heap.size + 1 + 1, 0, none⟩ = some (.int .i64 ak) ∧ X.cell? ⟨w.heap.size + 1 + 1, 1, none⟩ = some (.int .i64 anow) ∧ X.cell? ⟨w.heap.size + 1 + 1, 2, none⟩ = some (.int .i64 acost) ∧ ResB X nb ∧ ResB X (w.heap.size + 1 + 1 + 1) ∧ Below w.heap.size w X) ⟨set4 _ _ _ _ i0 i1 i2 i3, k0, k1, k2, k3, k4, k5, k6, k7, k8, k9, k10, k11, k12, res4 hN, hr'', hE⟩ ?_
    clear hN hr'' hE i0 i1 i2 i3 f0 f1 f2 f3 u0 u1 u2 u3 HAV k0 k1 k2 k3 k4 k5 k6 k7 k8 k9 k10 k11 k12 h0 h1 h2 h3 h4 h5 h6 h7 h8 h9 h10 h11 h12
    rintro X ⟨⟨x0, x1, x2, x3⟩, c0, c1, c2, c3, c4, c5, c6, c7, c8, c9, c10, c11, c12, hN, hR, hE⟩
    obtain ⟨F0, F1, F2, F3, U0, U1, U2, U3, I0, I1, I2, I3⟩ := res_all hR
    have hz1 := (hN 1 (by omega)).1
    have hz2 := (hN 2 (by omega)).1
    have n0 : ¬ nb = w.heap.size := by omega
    have m0 : ¬ w.heap.size = nb := by omega
    have n1 : ¬ nb = w.heap.size + 1 := by omega
    have m1 : ¬ w.heap.size + 1 = nb := by omega
    have n2 : ¬ nb = w.heap.size + 1 + 1 := by omega
    have m2 : ¬ w.heap.size + 1 + 1 = nb := by omega
    have n3 : ¬ nb = w.heap.size + 1 + 1 + 1 := by omega
    have m3 : ¬ w.heap.size + 1 + 1 + 1 = nb := by omega
    repeat' (first | go_skip | go_guarded | go_step | go_upon)
    (try simp only [Exit.inBlock, Exit.then])
    refine bodyPost_ret (results_state2 rfl _ _ (by rfl) (set4r hR)) rfl ⟨by first | rfl | simp, bl4 hE (by omega)⟩
  · have hlt : w.heap.size + 1 + 1 + 1 < W3.heap.size := by (obtain ⟨h0, h1, h2, h3, h4, h5, h6, h7, h8, h9, h10, h11, h12, hr', hB'⟩ := hHeld; exact res_lt hr')
    go_simp
    refine hK.out _ _ ?_ (fun hHeld' => ?_)
    · (try dsimp only)
      (obtain ⟨h0, h1, h2, h3, h4, h5, h6, h7, h8, h9, h10, h11, h12, hr', hB'⟩ := hHeld; exact ⟨bl_cell (bl_alloc (bl_refl _) _) h0, bl_cell (bl_alloc (bl_refl _) _) h1, bl_cell (bl_alloc (bl_refl _) _) h2, bl_cell (bl_alloc (bl_refl _) _) h3, bl_cell (bl_alloc (bl_refl _) _) h4, bl_cell (bl_alloc (bl_refl _) _) h5, bl_cell (bl_alloc (bl_refl _) _) h6, bl_cell (bl_alloc (bl_refl _) _) h7, bl_cell (bl_alloc (bl_refl _) _) h8, bl_cell (bl_alloc (bl_refl _) _) h9, bl_cell (bl_alloc (bl_refl _) _) h10, bl_cell (bl_alloc (bl_refl _) _) h11, bl_cell (bl_alloc (bl_refl _) _) h12, res_bl hr' (bl_alloc (bl_refl _) _), bl_alloc hB' _⟩)
    clear hHeld hK K
    rename _ => hHeld
    try simp only [Act.put, List.setIfInBounds_toArray, List.set_cons_zero, List.set_cons_succ]
    refine wpAnyH_abs (F := fun X => ResB X W3.heap.size) hHeld (res_new _ _ _ _ _ _ rfl) (fun w4 hHeld hN => ?_)
    generalize W3.heap.size = nb at *
    refine callC (i := 4) rfl (fun K hK => ?_)
    go_simp
    refine (HAV.out _).mono ?_
    rintro e w6 ⟨rfl, hb⟩
    go_wp2_with fail
    refine hK.out _ _ ?_ (fun hHeld' => ?_)
    · (try dsimp only)
      (obtain ⟨h0, h1, h2, h3, h4, h5, h6, h7, h8, h9, h10, h11, h12, hr', hB'⟩ := hHeld; exact ⟨bl_cell hb h0, bl_cell hb h1, bl_cell hb h2, bl_cell hb h3, bl_cell hb h4, bl_cell hb h5, bl_cell hb h6, bl_cell hb h7, bl_cell hb h8, bl_cell hb h9, bl_cell hb h10, bl_cell hb h11, bl_cell hb h12, res_bl hr' hb, bl_then hB' hb⟩)
    clear hHeld hK K
    rename _ => hHeld
    replace hN := res_bl hN hb
    clear hb
    try simp only [Act.put, List.setIfInBounds_toArray, List.set_cons_zero, List.set_cons_succ]
    refine callC (i := 11) rfl (fun K hK => ?_)
    obtain ⟨h0, h1, h2, h3, h4, h5, h6, h7, h8, h9, h10, h11, h12, hr', hB'⟩ := hHeld
    obtain ⟨f0, f1, f2, f3, u0, u1, u2, u3, i0, i1, i2, i3⟩ := res_all hN
    clear hHeld
    have hHeld : True := trivial
    go_simp
    refine hK.out _ _ ?_ (fun hHeld' => ?_)
    · (try dsimp only)
      (have e0 : nb ≠ w.heap.size := (by omega); have e1 : nb ≠ w.heap.size + 1 := (by omega); have e2 : nb ≠ w.heap.size + 1 + 1 := (by omega); exact ⟨far4 h0 e0, far4 h1 e0, far4 h2 e0, far4 h3 e0, far4 h4 e0, far4 h5 e0, far4 h6 e1, far4 h7 e1, far4 h8 e1, far4 h9 e1, far4 h10 e2, far4 h11 e2, far4 h12 e2, res4 hr', bl4 hB' (by omega)⟩)
    clear hHeld hK K
    rename _ => hHeld
    try simp only [Act.put, List.setIfInBounds_toArray, List.set_cons_zero, List.set_cons_succ]
    (refine tk (i := 12) rfl rfl hHeld ?_)
    refine wpAnyH_done (by kernel_rfl) ?_ _
    clear hr' hB'
    obtain ⟨k0, k1, k2, k3, k4, k5, k6, k7, k8, k9, k10, k11, k12, hr'', hE⟩ := hHeld
    refine then_abs (F := fun X => (X.cell? ⟨nb, 0, none⟩ = some (.int .i64 aat) ∧ X.cell? ⟨nb, 1, none⟩ = some (.int .i64 alv) ∧ X.cell? ⟨nb, 2, none⟩ = some (.int .i64 ahd) ∧ X.cell? ⟨nb, 3, none⟩ = some (.slice none 0 0)) ∧ X.cell? ⟨w.heap.size, 0, none⟩ = some (.int .i64 k) ∧ X.cell? ⟨w.heap.size, 1, none⟩ = some (.int .i64 l) ∧ X.cell? ⟨w.heap.size, 2, none⟩ = some (.int .i64 d) ∧ X.cell? ⟨w.heap.size, 3, none⟩ = some (.int .i64 b) ∧ X.cell? ⟨w.heap.size, 4, none⟩ = some (.int .i64 cc) ∧ X.cell? ⟨w.heap.size, 5, none⟩ = some (.bool o) ∧ X.cell? ⟨w.heap.size + 1, 0, none⟩ = some (.int .i64 at_) ∧ X.cell? ⟨w.heap.size + 1, 1, none⟩ = some (.int .i64 level) ∧ X.cell? ⟨w.heap.size + 1, 2, none⟩ = some (.int .i64 held) ∧ X.cell? ⟨w.heap.size + 1, 3, none⟩ = some (.slice a 0 c) ∧ X.cell? ⟨w.heap.size + 1 + 1, 0, none⟩ = some (.int .i64 ak) ∧ X.cell? ⟨w.heap.size + 1 + 1, 1, none⟩ = some (.int .i64 anow) ∧ X.cell? ⟨w.heap.size + 1 + 1, 2, none⟩ = some (.int .i64 acost) ∧ ResB X nb ∧ ResB X (w.heap.size + 1 + 1 + 1) ∧ Below w.heap.size w X) ⟨set4 _ _ _ _ i0 i1 i2 i3, k0, k1, k2, k3, k4, k5, k6, k7, k8, k9, k10, k11, k12, res4 hN, hr'', hE⟩ ?_
    clear hN hr'' hE i0 i1 i2 i3 f0 f1 f2 f3 u0 u1 u2 u3 HAV k0 k1 k2 k3 k4 k5 k6 k7 k8 k9 k10 k11 k12 h0 h1 h2 h3 h4 h5 h6 h7 h8 h9 h10 h11 h12
    rintro X ⟨⟨x0, x1, x2, x3⟩, c0, c1, c2, c3, c4, c5, c6, c7, c8, c9, c10, c11, c12, hN, hR, hE⟩
    obtain ⟨F0, F1, F2, F3, U0, U1, U2, U3, I0, I1, I2, I3⟩ := res_all hR
    have hz1 := (hN 1 (by omega)).1
    have hz2 := (hN 2 (by omega)).1
    have n0 : ¬ nb = w.heap.size := by omega
    have m0 : ¬ w.heap.size = nb := by omega
    have n1 : ¬ nb = w.heap.size + 1 := by omega
    have m1 : ¬ w.heap.size + 1 = nb := by omega
    have n2 : ¬ nb = w.heap.size + 1 + 1 := by omega
    have m2 : ¬ w.heap.size + 1 + 1 = nb := by omega
    have n3 : ¬ nb = w.heap.size + 1 + 1 + 1 := by omega
    have m3 : ¬ w.heap.size + 1 + 1 + 1 = nb := by omega
    repeat' (first | go_skip | go_guarded | go_step | go_upon)
    (try simp only [Exit.inBlock, Exit.then])
    refine bodyPost_ret (results_state2 rfl _ _ (by rfl) (set4r hR)) rfl ⟨by first | rfl | simp, bl4 hE (by omega)⟩

end Go.Proofs.Ythinbjknkjpdjaa

namespace Go.Proofs.Ythinbjknkjpdjaa
open Go.RowKit
set_option linter.unusedVariables false
set_option linter.unusedSimpArgs false

def chgs : Array Value := #[.int .i64 1, .int .i64 0, .int .i64 1, .bool true, .int .i64 2, .int .i64 1, .int .i64 0, .bool true, .int .i64 3, .int .i64 (-1), .int .i64 0, .bool false, .int .i64 4, .int .i64 (-1), .int .i64 1, .bool false]
set_option maxHeartbeats 1000000 in
set_option maxRecDepth 100000 in
theorem changes_any (w : World) : Calls Try.prog 51 #[] w fun e w' => e = .returned (.agg chgs) ∧ Below w.heap.size w w' := by
  go_enter Try.func51, Try.ntmps51
  go_wp2_with fail
  (try simp only [Exit.inBlock, Exit.then])
  refine bodyPost_ret (v := .agg chgs) (by simp [results, Try.results51, go_sem, chgs]) rfl ⟨rfl, bl_alloc (bl_refl _) _⟩
theorem idx0 (w : World) : (Instr.index 73 (.agg chgs) (.int .i64 0)).run Try.prog w = .ok (.agg #[.int .i64 1, .int .i64 0, .int .i64 1, .bool true]) w := by kernel_rfl
theorem idx1 (w : World) : (Instr.index 73 (.agg chgs) (.int .i64 1)).run Try.prog w = .ok (.agg #[.int .i64 2, .int .i64 1, .int .i64 0, .bool true]) w := by kernel_rfl
theorem idx2 (w : World) : (Instr.index 73 (.agg chgs) (.int .i64 2)).run Try.prog w = .ok (.agg #[.int .i64 3, .int .i64 (-1), .int .i64 0, .bool false]) w := by kernel_rfl
theorem idx3 (w : World) : (Instr.index 73 (.agg chgs) (.int .i64 3)).run Try.prog w = .ok (.agg #[.int .i64 4, .int .i64 (-1), .int .i64 1, .bool false]) w := by kernel_rfl
end Go.Proofs.Ythinbjknkjpdjaa
