/-
  What window.Do answers where the state may be.
  What each policy's Do answers: one contract each, by the plain reckoning.
  What gcra.Do, counter.Do and window.Do answer: one contract each.
  What limiter.of answers; limiter.Check.
  What limiter.Check answers.
  What limiter.Check answers.
  What a kernel's methods answer, whatever function stands in it: do, start, room.
  What bucket.New answers.
  What gcra.New answers.
  What counter.New answers.
  What window.New answers.
  What bucket.Room answers.
  What gcra.Room answers.
  What counter.next, Room, Until and Retry answer.
  What window.Room answers.
  What limiter.Do, New and Room answer.
  Acts, one behind the other, in plain words; acts and answers in memory; a log put behind nothing.
  What limiter.Run answers.
  What limiter.Most answers.
  No condition.
-/
import Derived.Test.YthinbjknkjpdjaaM3
import Derived.Laws.EntriesVeiled
import Derived.WideLaws
import Derived.Laws.AppendOwn
import Derived.Laws.OwnMore
import Derived.ArgAppend
namespace Go.Proofs.Ythinbjknkjpdjaa
open Go.RowKit
set_option linter.unusedVariables false
set_option linter.unusedSimpArgs false

set_option maxHeartbeats 2000000 in
set_option maxRecDepth 100000 in
theorem wdo_less (p : Pol) (s : St) (a : Option Addr) (n c : Nat) (anow acost : Int) (ak : Int) (A : St) (w : World) (h : rightL p s) (hlog : LogAt w a n c s.log) (hA : A = advL p s anow) (e1 : ¬ 1 ≤ acost) :
    Calls Try.prog 21 #[p.v, s.v a n c, .agg #[.int .i64 ak, .int .i64 anow, .int .i64 acost]] w fun e w' => StOwn2 (s, false) w.heap.size e w' ∧ Below w.heap.size w w' := by
  have hrt := fun W hW => wright_any p s a n c W hW
  rw [decide_eq_true h] at hrt
  have hav := fun a1 c1 W hW => wadv_any p s a1 n c1 anow W hW
  have hall := risen_all h.2.2.2.2.2.2.1
  have hsub := live_sub p.period (up s.at_ (clampT anow)) s.log
  have hssum := live_sum p.period (up s.at_ (clampT anow)) s.log (fun e he => by have := (hall e he).1; omega)
  have hAe : A.log = live p.period (up s.at_ (clampT anow)) s.log ∧ A.level = 0 ∧ A.held = s.held := by rw [hA]; unfold advL; rw [if_pos h]; exact ⟨rfl, rfl, rfl⟩
  rw [← hA] at hav
  rw [← hAe.1] at hsub hssum
  obtain ⟨⟨q0, q1, q2, q3, q4, q5, q6, q7⟩, r1, r2, r3, r4, r5, r6, r7, r8⟩ := h
  have hlen := hlog.1
  have hsb := sumL_bound A.log 1048576 (fun e he => by have := hall e (hsub.1 e he); omega)
  have hn1 : n ≤ 100 := by omega
  have hent : ∀ e ∈ A.log, 0 ≤ e.2 ∧ e.2 ≤ 1048576 := fun e he => by have := hall e (hsub.1 e he); omega
  have hw1 : IntKind.i64.wrap (p.limit - s.held) = p.limit - s.held := IntWalk.i64_in _ (by omega)
  have hw2 : IntKind.i64.wrap (p.limit - s.held - sumL A.log) = p.limit - s.held - sumL A.log := IntWalk.i64_in _ (by omega)
  have hsum := fun a2 m2 c2 W (hW : LogAt W a2 m2 c2 A.log) => sum_any a2 m2 c2 A.log W hW (by have := hW.1; have := hsub.2; omega) hent
  have HX := Go.Lib.hid (And.intro hn1 (And.intro hent (And.intro hsub.2 hlen)))
  clear hall hsb hsub hssum hent hA r1 r2 r3 r4 r6 r7 r8 q0 q1 q2 q3 q4 q5 q6 q7
  obtain ⟨k, l, d, b, cc, o⟩ := p
  obtain ⟨at_, level, held, L⟩ := s
  obtain ⟨aat, alv, ahd, L2⟩ := A
  obtain ⟨-, hz1, hz2⟩ := hAe
  unfold St.v Pol.v at *
  dsimp only at *
  subst hz1 hz2 r5
  have HRT := Go.Lib.hid hrt
  have HAV := Go.Lib.hid hav
  have HSM := Go.Lib.hid hsum
  have HLOG := Go.Lib.hid hlog
  clear hrt hav hsum hlog hlen hn1
  generalize hS2 : sumL L2 = S2 at *
  clear hS2
  go_enter Try.func21, Try.ntmps21
  go_wp2_with fail
  refine (HRT.out _ (log_bl HLOG.out (bl_alloc (bl_alloc (bl_alloc (bl_alloc (bl_refl _) _) _) _) _))).mono ?_
  rintro e w1 ⟨rfl, hb⟩
  have hB : Below w.heap.size w w1 := bl_then (bl_alloc (bl_alloc (bl_alloc (bl_alloc (bl_refl _) _) _) _) _) hb
  have c0 := bl_cell (v := .int .i64 k) hb (show World.cell? _ ⟨w.heap.size, 0, none⟩ = _ by go_simp)
  have c1 := bl_cell (v := .int .i64 l) hb (show World.cell? _ ⟨w.heap.size, 1, none⟩ = _ by go_simp)
  have c2 := bl_cell (v := .int .i64 d) hb (show World.cell? _ ⟨w.heap.size, 2, none⟩ = _ by go_simp)
  have c3 := bl_cell (v := .int .i64 b) hb (show World.cell? _ ⟨w.heap.size, 3, none⟩ = _ by go_simp)
  have c4 := bl_cell (v := .int .i64 cc) hb (show World.cell? _ ⟨w.heap.size, 4, none⟩ = _ by go_simp)
  have c5 := bl_cell (v := .bool o) hb (show World.cell? _ ⟨w.heap.size, 5, none⟩ = _ by go_simp)
  have c6 := bl_cell (v := .int .i64 at_) hb (show World.cell? _ ⟨w.heap.size + 1, 0, none⟩ = _ by go_simp)
  have c7 := bl_cell (v := .int .i64 0) hb (show World.cell? _ ⟨w.heap.size + 1, 1, none⟩ = _ by go_simp)
  have c8 := bl_cell (v := .int .i64 ahd) hb (show World.cell? _ ⟨w.heap.size + 1, 2, none⟩ = _ by go_simp)
  have c9 := bl_cell (v := .slice a n c) hb (show World.cell? _ ⟨w.heap.size + 1, 3, none⟩ = _ by go_simp)
  have c10 := bl_cell (v := .int .i64 ak) hb (show World.cell? _ ⟨w.heap.size + 1 + 1, 0, none⟩ = _ by go_simp)
  have c11 := bl_cell (v := .int .i64 anow) hb (show World.cell? _ ⟨w.heap.size + 1 + 1, 1, none⟩ = _ by go_simp)
  have c12 := bl_cell (v := .int .i64 acost) hb (show World.cell? _ ⟨w.heap.size + 1 + 1, 2, none⟩ = _ by go_simp)
  have hR : ResB w1 (w.heap.size + 1 + 1 + 1) := res_bl (res_new _ _ _ _ _ _ (by simp)) hb
  have hQ : ResB w1 (w.heap.size + 1) := res_bl (res_bl (res_new (w.alloc _) _ _ _ _ _ (by simp)) (bl_alloc (bl_alloc (bl_refl _) _) _)) hb
  have hlg1 := log_bl HLOG.out hB
  clear hb HRT HLOG
  go_wp2_with fail
  refine (clone_all _ _ _ _ _ hlg1 (by have := HX.out.1; omega)).mono ?_
  rintro e w2 ⟨v1, rfl, hown1, hb⟩
  obtain ⟨a1, cp1, rfl, hlog1⟩ := own_log hown1
  have d0 := bl_cell hb c0
  have d1 := bl_cell hb c1
  have d2 := bl_cell hb c2
  have d3 := bl_cell hb c3
  have d4 := bl_cell hb c4
  have d5 := bl_cell hb c5
  have d6 := bl_cell hb c6
  have d7 := bl_cell hb c7
  have d8 := bl_cell hb c8
  have d9 := bl_cell hb c9
  have d10 := bl_cell hb c10
  have d11 := bl_cell hb c11
  have d12 := bl_cell hb c12
  have dR := res_bl hR hb
  have dQ := res_bl hQ hb
  have dB := bl_then hB hb
  have hlt1 := res_lt hR
  have fz := (dQ 3 (by omega)).1
  clear hR hQ hB hb hlg1 c0 c1 c2 c3 c4 c5 c6 c7 c8 c9 c10 c11 c12
  go_wp2_with fail
  have hown1' := own_far hown1 ⟨w.heap.size + 1, 3, none⟩ (.slice a1 n cp1) (own_above hown1 (by dsimp only; omega))
  refine (HAV.out _ _ _ (own_at hown1')).mono ?_
  rintro e w3 ⟨⟨v2, m2, rfl, hown2⟩, hb⟩
  obtain ⟨a2, cp2, rfl, hlog2⟩ := own_log hown2
  have c0 := bl_cell hb (far_set d0 ⟨w.heap.size + 1, 3, none⟩ (.slice a1 n cp1) (by dsimp only; omega))
  have c1 := bl_cell hb (far_set d1 ⟨w.heap.size + 1, 3, none⟩ (.slice a1 n cp1) (by dsimp only; omega))
  have c2 := bl_cell hb (far_set d2 ⟨w.heap.size + 1, 3, none⟩ (.slice a1 n cp1) (by dsimp only; omega))
  have c3 := bl_cell hb (far_set d3 ⟨w.heap.size + 1, 3, none⟩ (.slice a1 n cp1) (by dsimp only; omega))
  have c4 := bl_cell hb (far_set d4 ⟨w.heap.size + 1, 3, none⟩ (.slice a1 n cp1) (by dsimp only; omega))
  have c5 := bl_cell hb (far_set d5 ⟨w.heap.size + 1, 3, none⟩ (.slice a1 n cp1) (by dsimp only; omega))
  have c6 := bl_cell hb (set_other (a := ⟨w.heap.size + 1, 3, none⟩) d6 (.slice a1 n cp1) (by simp))
  have c7 := bl_cell hb (set_other (a := ⟨w.heap.size + 1, 3, none⟩) d7 (.slice a1 n cp1) (by simp))
  have c8 := bl_cell hb (set_other (a := ⟨w.heap.size + 1, 3, none⟩) d8 (.slice a1 n cp1) (by simp))
  have c9 : w3.cell? ⟨w.heap.size + 1, 3, none⟩ = some (.slice a1 n cp1) := bl_cell hb (World.cell?_setCell_same' _ _ _ (by rw [d9]; rfl))
  have c10 := bl_cell hb (far_set d10 ⟨w.heap.size + 1, 3, none⟩ (.slice a1 n cp1) (by dsimp only; omega))
  have c11 := bl_cell hb (far_set d11 ⟨w.heap.size + 1, 3, none⟩ (.slice a1 n cp1) (by dsimp only; omega))
  have c12 := bl_cell hb (far_set d12 ⟨w.heap.size + 1, 3, none⟩ (.slice a1 n cp1) (by dsimp only; omega))
  have hR := res_bl (res_set dR ⟨w.heap.size + 1, 3, none⟩ (.slice a1 n cp1)) hb
  have hB := bl_then (bl_set dB (a := ⟨w.heap.size + 1, 3, none⟩) (by dsimp only; omega) (.slice a1 n cp1)) hb
  have hO1 := own_bl hown1' hb
  have hlt2 := res_lt (res_set dR ⟨w.heap.size + 1, 3, none⟩ (.slice a1 n cp1))
  have hle3 := hb.size
  have HV2 := Go.Lib.hid (World.ownsRow.lt hown2)
  have hle1 := hlt1
  generalize (w2.setCell ⟨w.heap.size + 1, 3, none⟩ (.slice a1 n cp1)).heap.size = base2 at *
  clear hb dR dQ dB hown1 hown1' hlog1 hlog2 HAV d0 d1 d2 d3 d4 d5 d6 d7 d8 d9 d10 d11 d12
  dsimp only
  go_wp2_with fail
  refine wp_abs (S0 := fun X => X.cell? ⟨w.heap.size, 0, none⟩ = some (.int .i64 k) ∧ X.cell? ⟨w.heap.size, 1, none⟩ = some (.int .i64 l) ∧ X.cell? ⟨w.heap.size, 2, none⟩ = some (.int .i64 d) ∧ X.cell? ⟨w.heap.size, 3, none⟩ = some (.int .i64 b) ∧ X.cell? ⟨w.heap.size, 4, none⟩ = some (.int .i64 cc) ∧ X.cell? ⟨w.heap.size, 5, none⟩ = some (.bool o) ∧ X.cell? ⟨w.heap.size + 1, 0, none⟩ = some (.int .i64 at_) ∧ X.cell? ⟨w.heap.size + 1, 1, none⟩ = some (.int .i64 0) ∧ X.cell? ⟨w.heap.size + 1, 2, none⟩ = some (.int .i64 ahd) ∧ X.cell? ⟨w.heap.size + 1, 3, none⟩ = some (.slice a1 n cp1) ∧ X.cell? ⟨w.heap.size + 1 + 1, 0, none⟩ = some (.int .i64 ak) ∧ X.cell? ⟨w.heap.size + 1 + 1, 1, none⟩ = some (.int .i64 anow) ∧ X.cell? ⟨w.heap.size + 1 + 1, 2, none⟩ = some (.int .i64 acost) ∧ X.cell? ⟨w3.heap.size, 0, none⟩ = some (.int .i64 aat) ∧ X.cell? ⟨w3.heap.size, 1, none⟩ = some (.int .i64 0) ∧ X.cell? ⟨w3.heap.size, 2, none⟩ = some (.int .i64 ahd) ∧ X.cell? ⟨w3.heap.size, 3, none⟩ = some (.slice a2 m2 cp2) ∧ ResB X (w.heap.size + 1 + 1 + 1) ∧ ResB X w3.heap.size ∧ OwnLog X w1.heap.size (.slice a1 n cp1) n L ∧ OwnLog X base2 (.slice a2 m2 cp2) m2 L2 ∧ Below w.heap.size w X) ⟨bl_cell (bl_alloc (bl_refl _) _) c0, bl_cell (bl_alloc (bl_refl _) _) c1, bl_cell (bl_alloc (bl_refl _) _) c2, bl_cell (bl_alloc (bl_refl _) _) c3, bl_cell (bl_alloc (bl_refl _) _) c4, bl_cell (bl_alloc (bl_refl _) _) c5, bl_cell (bl_alloc (bl_refl _) _) c6, bl_cell (bl_alloc (bl_refl _) _) c7, bl_cell (bl_alloc (bl_refl _) _) c8, bl_cell (bl_alloc (bl_refl _) _) c9, bl_cell (bl_alloc (bl_refl _) _) c10, bl_cell (bl_alloc (bl_refl _) _) c11, bl_cell (bl_alloc (bl_refl _) _) c12, by go_simp, by go_simp, by go_simp, by go_simp, res_bl hR (bl_alloc (bl_refl _) _), res_new _ _ _ _ _ _ rfl, World.ownsRow.alloc hO1 _, World.ownsRow.alloc hown2 _, bl_alloc hB _⟩ ?_
  clear hR hO1 hown2 hB c0 c1 c2 c3 c4 c5 c6 c7 c8 c9 c10 c11 c12
  generalize w3.heap.size = nb at *
  rintro X ⟨c0, c1, c2, c3, c4, c5, c6, c7, c8, c9, c10, c11, c12, x0, x1, x2, x3, hR, hN, hO1, hO2, hB⟩
  refine wp_region_held_drew (S := fun w' => w'.cell? ⟨w.heap.size, 0, none⟩ = some (.int .i64 k) ∧ w'.cell? ⟨w.heap.size, 1, none⟩ = some (.int .i64 l) ∧ w'.cell? ⟨w.heap.size, 2, none⟩ = some (.int .i64 d) ∧ w'.cell? ⟨w.heap.size, 3, none⟩ = some (.int .i64 b) ∧ w'.cell? ⟨w.heap.size, 4, none⟩ = some (.int .i64 cc) ∧ w'.cell? ⟨w.heap.size, 5, none⟩ = some (.bool o) ∧ w'.cell? ⟨w.heap.size + 1, 0, none⟩ = some (.int .i64 at_) ∧ w'.cell? ⟨w.heap.size + 1, 1, none⟩ = some (.int .i64 0) ∧ w'.cell? ⟨w.heap.size + 1, 2, none⟩ = some (.int .i64 ahd) ∧ w'.cell? ⟨w.heap.size + 1, 3, none⟩ = some (.slice a1 n cp1) ∧ w'.cell? ⟨w.heap.size + 1 + 1, 0, none⟩ = some (.int .i64 ak) ∧ w'.cell? ⟨w.heap.size + 1 + 1, 1, none⟩ = some (.int .i64 anow) ∧ w'.cell? ⟨w.heap.size + 1 + 1, 2, none⟩ = some (.int .i64 acost) ∧ w'.cell? ⟨nb, 0, none⟩ = some (.int .i64 aat) ∧ w'.cell? ⟨nb, 1, none⟩ = some (.int .i64 0) ∧ w'.cell? ⟨nb, 2, none⟩ = some (.int .i64 ahd) ∧ w'.cell? ⟨nb, 3, none⟩ = some (.slice a2 m2 cp2) ∧ ResB w' (w.heap.size + 1 + 1 + 1) ∧ ResB w' nb ∧ OwnLog w' w1.heap.size (.slice a1 n cp1) n L ∧ OwnLog w' base2 (.slice a2 m2 cp2) m2 L2 ∧ Below w.heap.size w w') (by kernel_rfl) ?_ (fun hHeld => ?_)
  · exact ⟨c0, c1, c2, c3, c4, c5, c6, c7, c8, c9, c10, c11, c12, x0, x1, x2, x3, hR, hN, hO1, hO2, bl_drew hB⟩
  try simp only [Act.put, List.setIfInBounds_toArray, List.set_cons_zero, List.set_cons_succ]
  (refine tk (i := 0) rfl rfl hHeld ?_)
  (refine tk (i := 1) rfl rfl hHeld ?_)
  (refine tk (i := 2) rfl rfl hHeld ?_)
  (refine tk (i := 3) rfl rfl hHeld ?_)
  (refine tk (i := 4) rfl rfl hHeld ?_)
  (refine tk (i := 5) rfl rfl hHeld ?_)
  (refine tk (i := 6) rfl rfl hHeld ?_)
  (refine callH (i := 7) rfl hHeld (fun W hW K hK => ?_); clear hHeld; (try dsimp only at hW); obtain ⟨h0, h1, h2, h3, h4, h5, h6, h7, h8, h9, h10, h11, h12, y0, y1, y2, y3, hr', hn', ho1', ho2', hB'⟩ := hW; go_simp; refine (HSM.out _ _ _ _ (own_at ho2')).mono ?_; rintro e w9 ⟨rfl, hb⟩; go_wp2_with fail; refine hK.out _ _ ?_ (fun hHeld => ?_); (focus ((try dsimp only); exact ⟨bl_cell hb h0, bl_cell hb h1, bl_cell hb h2, bl_cell hb h3, bl_cell hb h4, bl_cell hb h5, bl_cell hb h6, bl_cell hb h7, bl_cell hb h8, bl_cell hb h9, bl_cell hb h10, bl_cell hb h11, bl_cell hb h12, bl_cell hb y0, bl_cell hb y1, bl_cell hb y2, bl_cell hb y3, res_bl hr' hb, res_bl hn' hb, own_bl ho1' hb, own_bl ho2' hb, bl_then hB' hb⟩)); clear hK K; try simp only [Act.put, List.setIfInBounds_toArray, List.set_cons_zero, List.set_cons_succ])
  (refine tk (i := 8) rfl rfl hHeld ?_)
  (refine tk (i := 9) rfl rfl hHeld ?_)
  refine wpAnyH_done (by kernel_rfl) ?_ _
  refine then_abs (F := fun X => X.cell? ⟨w.heap.size, 0, none⟩ = some (.int .i64 k) ∧ X.cell? ⟨w.heap.size, 1, none⟩ = some (.int .i64 l) ∧ X.cell? ⟨w.heap.size, 2, none⟩ = some (.int .i64 d) ∧ X.cell? ⟨w.heap.size, 3, none⟩ = some (.int .i64 b) ∧ X.cell? ⟨w.heap.size, 4, none⟩ = some (.int .i64 cc) ∧ X.cell? ⟨w.heap.size, 5, none⟩ = some (.bool o) ∧ X.cell? ⟨w.heap.size + 1, 0, none⟩ = some (.int .i64 at_) ∧ X.cell? ⟨w.heap.size + 1, 1, none⟩ = some (.int .i64 0) ∧ X.cell? ⟨w.heap.size + 1, 2, none⟩ = some (.int .i64 ahd) ∧ X.cell? ⟨w.heap.size + 1, 3, none⟩ = some (.slice a1 n cp1) ∧ X.cell? ⟨w.heap.size + 1 + 1, 0, none⟩ = some (.int .i64 ak) ∧ X.cell? ⟨w.heap.size + 1 + 1, 1, none⟩ = some (.int .i64 anow) ∧ X.cell? ⟨w.heap.size + 1 + 1, 2, none⟩ = some (.int .i64 acost) ∧ X.cell? ⟨nb, 0, none⟩ = some (.int .i64 aat) ∧ X.cell? ⟨nb, 1, none⟩ = some (.int .i64 0) ∧ X.cell? ⟨nb, 2, none⟩ = some (.int .i64 ahd) ∧ X.cell? ⟨nb, 3, none⟩ = some (.slice a2 m2 cp2) ∧ ResB X (w.heap.size + 1 + 1 + 1) ∧ ResB X nb ∧ OwnLog X w1.heap.size (.slice a1 n cp1) n L ∧ OwnLog X base2 (.slice a2 m2 cp2) m2 L2 ∧ Below w.heap.size w X) hHeld ?_
  clear hHeld hR hN hO1 hO2 hB c0 c1 c2 c3 c4 c5 c6 c7 c8 c9 c10 c11 c12 x0 x1 x2 x3
  rintro Y ⟨c0, c1, c2, c3, c4, c5, c6, c7, c8, c9, c10, c11, c12, x0, x1, x2, x3, hR, hN, hO1, hO2, hE⟩
  obtain ⟨F0, F1, F2, F3, U0, U1, U2, U3, I0, I1, I2, I3⟩ := res_all hR
  have hz2 := (hN 2 (by omega)).1
  have n0 : ¬ nb = w.heap.size := by omega
  have m0' : ¬ w.heap.size = nb := by omega
  have n1 : ¬ nb = w.heap.size + 1 := by omega
  have m1' : ¬ w.heap.size + 1 = nb := by omega
  have n2 : ¬ nb = w.heap.size + 1 + 1 := by omega
  have m2' : ¬ w.heap.size + 1 + 1 = nb := by omega
  have n3 : ¬ nb = w.heap.size + 1 + 1 + 1 := by omega
  have m3' : ¬ w.heap.size + 1 + 1 + 1 = nb := by omega
  repeat' (first | go_skip | go_guarded | go_step | go_upon)
  (try simp only [Exit.inBlock, Exit.then])
  refine bodyPost_ret (results_state2 rfl _ _ (by rfl) (set4r hR)) rfl ⟨⟨_, _, by first | rfl | simp, own_mono (own_far4 hO1 (own_above hO1 (by omega))) (by omega)⟩, bl4 hE (by omega)⟩

set_option maxHeartbeats 2000000 in
set_option maxRecDepth 100000 in
theorem wdo_full1 (p : Pol) (s : St) (a : Option Addr) (n c : Nat) (anow acost : Int) (A : St) (w : World) (h : rightL p s) (hlog : LogAt w a n c s.log) (hA : A = advL p s anow) (e1 : 1 ≤ acost) (e2 : ¬ acost ≤ p.limit - s.held - sumL A.log) :
    Calls Try.prog 21 #[p.v, s.v a n c, .agg #[.int .i64 1, .int .i64 anow, .int .i64 acost]] w fun e w' => StOwn2 (s, false) w.heap.size e w' ∧ Below w.heap.size w w' := by
  have hrt := fun W hW => wright_any p s a n c W hW
  rw [decide_eq_true h] at hrt
  have hav := fun a1 c1 W hW => wadv_any p s a1 n c1 anow W hW
  have hall := risen_all h.2.2.2.2.2.2.1
  have hsub := live_sub p.period (up s.at_ (clampT anow)) s.log
  have hssum := live_sum p.period (up s.at_ (clampT anow)) s.log (fun e he => by have := (hall e he).1; omega)
  have hAe : A.log = live p.period (up s.at_ (clampT anow)) s.log ∧ A.level = 0 ∧ A.held = s.held := by rw [hA]; unfold advL; rw [if_pos h]; exact ⟨rfl, rfl, rfl⟩
  rw [← hA] at hav
  rw [← hAe.1] at hsub hssum
  obtain ⟨⟨q0, q1, q2, q3, q4, q5, q6, q7⟩, r1, r2, r3, r4, r5, r6, r7, r8⟩ := h
  have hlen := hlog.1
  have hsb := sumL_bound A.log 1048576 (fun e he => by have := hall e (hsub.1 e he); omega)
  have hn1 : n ≤ 100 := by omega
  have hent : ∀ e ∈ A.log, 0 ≤ e.2 ∧ e.2 ≤ 1048576 := fun e he => by have := hall e (hsub.1 e he); omega
  have hw1 : IntKind.i64.wrap (p.limit - s.held) = p.limit - s.held := IntWalk.i64_in _ (by omega)
  have hw2 : IntKind.i64.wrap (p.limit - s.held - sumL A.log) = p.limit - s.held - sumL A.log := IntWalk.i64_in _ (by omega)
  have hsum := fun a2 m2 c2 W (hW : LogAt W a2 m2 c2 A.log) => sum_any a2 m2 c2 A.log W hW (by have := hW.1; have := hsub.2; omega) hent
  have HX := Go.Lib.hid (And.intro hn1 (And.intro hent (And.intro hsub.2 hlen)))
  clear hall hsb hsub hssum hent hA r1 r2 r3 r4 r6 r7 r8 q0 q1 q2 q3 q4 q5 q6 q7
  obtain ⟨k, l, d, b, cc, o⟩ := p
  obtain ⟨at_, level, held, L⟩ := s
  obtain ⟨aat, alv, ahd, L2⟩ := A
  obtain ⟨-, hz1, hz2⟩ := hAe
  unfold St.v Pol.v at *
  dsimp only at *
  subst hz1 hz2 r5
  have HRT := Go.Lib.hid hrt
  have HAV := Go.Lib.hid hav
  have HSM := Go.Lib.hid hsum
  have HLOG := Go.Lib.hid hlog
  clear hrt hav hsum hlog hlen hn1
  generalize hS2 : sumL L2 = S2 at *
  clear hS2
  go_enter Try.func21, Try.ntmps21
  go_wp2_with fail
  refine (HRT.out _ (log_bl HLOG.out (bl_alloc (bl_alloc (bl_alloc (bl_alloc (bl_refl _) _) _) _) _))).mono ?_
  rintro e w1 ⟨rfl, hb⟩
  have hB : Below w.heap.size w w1 := bl_then (bl_alloc (bl_alloc (bl_alloc (bl_alloc (bl_refl _) _) _) _) _) hb
  have c0 := bl_cell (v := .int .i64 k) hb (show World.cell? _ ⟨w.heap.size, 0, none⟩ = _ by go_simp)
  have c1 := bl_cell (v := .int .i64 l) hb (show World.cell? _ ⟨w.heap.size, 1, none⟩ = _ by go_simp)
  have c2 := bl_cell (v := .int .i64 d) hb (show World.cell? _ ⟨w.heap.size, 2, none⟩ = _ by go_simp)
  have c3 := bl_cell (v := .int .i64 b) hb (show World.cell? _ ⟨w.heap.size, 3, none⟩ = _ by go_simp)
  have c4 := bl_cell (v := .int .i64 cc) hb (show World.cell? _ ⟨w.heap.size, 4, none⟩ = _ by go_simp)
  have c5 := bl_cell (v := .bool o) hb (show World.cell? _ ⟨w.heap.size, 5, none⟩ = _ by go_simp)
  have c6 := bl_cell (v := .int .i64 at_) hb (show World.cell? _ ⟨w.heap.size + 1, 0, none⟩ = _ by go_simp)
  have c7 := bl_cell (v := .int .i64 0) hb (show World.cell? _ ⟨w.heap.size + 1, 1, none⟩ = _ by go_simp)
  have c8 := bl_cell (v := .int .i64 ahd) hb (show World.cell? _ ⟨w.heap.size + 1, 2, none⟩ = _ by go_simp)
  have c9 := bl_cell (v := .slice a n c) hb (show World.cell? _ ⟨w.heap.size + 1, 3, none⟩ = _ by go_simp)
  have c10 := bl_cell (v := .int .i64 1) hb (show World.cell? _ ⟨w.heap.size + 1 + 1, 0, none⟩ = _ by go_simp)
  have c11 := bl_cell (v := .int .i64 anow) hb (show World.cell? _ ⟨w.heap.size + 1 + 1, 1, none⟩ = _ by go_simp)
  have c12 := bl_cell (v := .int .i64 acost) hb (show World.cell? _ ⟨w.heap.size + 1 + 1, 2, none⟩ = _ by go_simp)
  have hR : ResB w1 (w.heap.size + 1 + 1 + 1) := res_bl (res_new _ _ _ _ _ _ (by simp)) hb
  have hQ : ResB w1 (w.heap.size + 1) := res_bl (res_bl (res_new (w.alloc _) _ _ _ _ _ (by simp)) (bl_alloc (bl_alloc (bl_refl _) _) _)) hb
  have hlg1 := log_bl HLOG.out hB
  clear hb HRT HLOG
  go_wp2_with fail
  refine (clone_all _ _ _ _ _ hlg1 (by have := HX.out.1; omega)).mono ?_
  rintro e w2 ⟨v1, rfl, hown1, hb⟩
  obtain ⟨a1, cp1, rfl, hlog1⟩ := own_log hown1
  have d0 := bl_cell hb c0
  have d1 := bl_cell hb c1
  have d2 := bl_cell hb c2
  have d3 := bl_cell hb c3
  have d4 := bl_cell hb c4
  have d5 := bl_cell hb c5
  have d6 := bl_cell hb c6
  have d7 := bl_cell hb c7
  have d8 := bl_cell hb c8
  have d9 := bl_cell hb c9
  have d10 := bl_cell hb c10
  have d11 := bl_cell hb c11
  have d12 := bl_cell hb c12
  have dR := res_bl hR hb
  have dQ := res_bl hQ hb
  have dB := bl_then hB hb
  have hlt1 := res_lt hR
  have fz := (dQ 3 (by omega)).1
  clear hR hQ hB hb hlg1 c0 c1 c2 c3 c4 c5 c6 c7 c8 c9 c10 c11 c12
  go_wp2_with fail
  have hown1' := own_far hown1 ⟨w.heap.size + 1, 3, none⟩ (.slice a1 n cp1) (own_above hown1 (by dsimp only; omega))
  refine (HAV.out _ _ _ (own_at hown1')).mono ?_
  rintro e w3 ⟨⟨v2, m2, rfl, hown2⟩, hb⟩
  obtain ⟨a2, cp2, rfl, hlog2⟩ := own_log hown2
  have c0 := bl_cell hb (far_set d0 ⟨w.heap.size + 1, 3, none⟩ (.slice a1 n cp1) (by dsimp only; omega))
  have c1 := bl_cell hb (far_set d1 ⟨w.heap.size + 1, 3, none⟩ (.slice a1 n cp1) (by dsimp only; omega))
  have c2 := bl_cell hb (far_set d2 ⟨w.heap.size + 1, 3, none⟩ (.slice a1 n cp1) (by dsimp only; omega))
  have c3 := bl_cell hb (far_set d3 ⟨w.heap.size + 1, 3, none⟩ (.slice a1 n cp1) (by dsimp only; omega))
  have c4 := bl_cell hb (far_set d4 ⟨w.heap.size + 1, 3, none⟩ (.slice a1 n cp1) (by dsimp only; omega))
  have c5 := bl_cell hb (far_set d5 ⟨w.heap.size + 1, 3, none⟩ (.slice a1 n cp1) (by dsimp only; omega))
  have c6 := bl_cell hb (set_other (a := ⟨w.heap.size + 1, 3, none⟩) d6 (.slice a1 n cp1) (by simp))
  have c7 := bl_cell hb (set_other (a := ⟨w.heap.size + 1, 3, none⟩) d7 (.slice a1 n cp1) (by simp))
  have c8 := bl_cell hb (set_other (a := ⟨w.heap.size + 1, 3, none⟩) d8 (.slice a1 n cp1) (by simp))
  have c9 : w3.cell? ⟨w.heap.size + 1, 3, none⟩ = some (.slice a1 n cp1) := bl_cell hb (World.cell?_setCell_same' _ _ _ (by rw [d9]; rfl))
  have c10 := bl_cell hb (far_set d10 ⟨w.heap.size + 1, 3, none⟩ (.slice a1 n cp1) (by dsimp only; omega))
  have c11 := bl_cell hb (far_set d11 ⟨w.heap.size + 1, 3, none⟩ (.slice a1 n cp1) (by dsimp only; omega))
  have c12 := bl_cell hb (far_set d12 ⟨w.heap.size + 1, 3, none⟩ (.slice a1 n cp1) (by dsimp only; omega))
  have hR := res_bl (res_set dR ⟨w.heap.size + 1, 3, none⟩ (.slice a1 n cp1)) hb
  have hB := bl_then (bl_set dB (a := ⟨w.heap.size + 1, 3, none⟩) (by dsimp only; omega) (.slice a1 n cp1)) hb
  have hO1 := own_bl hown1' hb
  have hlt2 := res_lt (res_set dR ⟨w.heap.size + 1, 3, none⟩ (.slice a1 n cp1))
  have hle3 := hb.size
  have HV2 := Go.Lib.hid (World.ownsRow.lt hown2)
  have hle1 := hlt1
  generalize (w2.setCell ⟨w.heap.size + 1, 3, none⟩ (.slice a1 n cp1)).heap.size = base2 at *
  clear hb dR dQ dB hown1 hown1' hlog1 hlog2 HAV d0 d1 d2 d3 d4 d5 d6 d7 d8 d9 d10 d11 d12
  dsimp only
  go_wp2_with fail
  refine wp_abs (S0 := fun X => X.cell? ⟨w.heap.size, 0, none⟩ = some (.int .i64 k) ∧ X.cell? ⟨w.heap.size, 1, none⟩ = some (.int .i64 l) ∧ X.cell? ⟨w.heap.size, 2, none⟩ = some (.int .i64 d) ∧ X.cell? ⟨w.heap.size, 3, none⟩ = some (.int .i64 b) ∧ X.cell? ⟨w.heap.size, 4, none⟩ = some (.int .i64 cc) ∧ X.cell? ⟨w.heap.size, 5, none⟩ = some (.bool o) ∧ X.cell? ⟨w.heap.size + 1, 0, none⟩ = some (.int .i64 at_) ∧ X.cell? ⟨w.heap.size + 1, 1, none⟩ = some (.int .i64 0) ∧ X.cell? ⟨w.heap.size + 1, 2, none⟩ = some (.int .i64 ahd) ∧ X.cell? ⟨w.heap.size + 1, 3, none⟩ = some (.slice a1 n cp1) ∧ X.cell? ⟨w.heap.size + 1 + 1, 0, none⟩ = some (.int .i64 1) ∧ X.cell? ⟨w.heap.size + 1 + 1, 1, none⟩ = some (.int .i64 anow) ∧ X.cell? ⟨w.heap.size + 1 + 1, 2, none⟩ = some (.int .i64 acost) ∧ X.cell? ⟨w3.heap.size, 0, none⟩ = some (.int .i64 aat) ∧ X.cell? ⟨w3.heap.size, 1, none⟩ = some (.int .i64 0) ∧ X.cell? ⟨w3.heap.size, 2, none⟩ = some (.int .i64 ahd) ∧ X.cell? ⟨w3.heap.size, 3, none⟩ = some (.slice a2 m2 cp2) ∧ ResB X (w.heap.size + 1 + 1 + 1) ∧ ResB X w3.heap.size ∧ OwnLog X w1.heap.size (.slice a1 n cp1) n L ∧ OwnLog X base2 (.slice a2 m2 cp2) m2 L2 ∧ Below w.heap.size w X) ⟨bl_cell (bl_alloc (bl_refl _) _) c0, bl_cell (bl_alloc (bl_refl _) _) c1, bl_cell (bl_alloc (bl_refl _) _) c2, bl_cell (bl_alloc (bl_refl _) _) c3, bl_cell (bl_alloc (bl_refl _) _) c4, bl_cell (bl_alloc (bl_refl _) _) c5, bl_cell (bl_alloc (bl_refl _) _) c6, bl_cell (bl_alloc (bl_refl _) _) c7, bl_cell (bl_alloc (bl_refl _) _) c8, bl_cell (bl_alloc (bl_refl _) _) c9, bl_cell (bl_alloc (bl_refl _) _) c10, bl_cell (bl_alloc (bl_refl _) _) c11, bl_cell (bl_alloc (bl_refl _) _) c12, by go_simp, by go_simp, by go_simp, by go_simp, res_bl hR (bl_alloc (bl_refl _) _), res_new _ _ _ _ _ _ rfl, World.ownsRow.alloc hO1 _, World.ownsRow.alloc hown2 _, bl_alloc hB _⟩ ?_
  clear hR hO1 hown2 hB c0 c1 c2 c3 c4 c5 c6 c7 c8 c9 c10 c11 c12
  generalize w3.heap.size = nb at *
  rintro X ⟨c0, c1, c2, c3, c4, c5, c6, c7, c8, c9, c10, c11, c12, x0, x1, x2, x3, hR, hN, hO1, hO2, hB⟩
  refine wp_region_held_drew (S := fun w' => w'.cell? ⟨w.heap.size, 0, none⟩ = some (.int .i64 k) ∧ w'.cell? ⟨w.heap.size, 1, none⟩ = some (.int .i64 l) ∧ w'.cell? ⟨w.heap.size, 2, none⟩ = some (.int .i64 d) ∧ w'.cell? ⟨w.heap.size, 3, none⟩ = some (.int .i64 b) ∧ w'.cell? ⟨w.heap.size, 4, none⟩ = some (.int .i64 cc) ∧ w'.cell? ⟨w.heap.size, 5, none⟩ = some (.bool o) ∧ w'.cell? ⟨w.heap.size + 1, 0, none⟩ = some (.int .i64 at_) ∧ w'.cell? ⟨w.heap.size + 1, 1, none⟩ = some (.int .i64 0) ∧ w'.cell? ⟨w.heap.size + 1, 2, none⟩ = some (.int .i64 ahd) ∧ w'.cell? ⟨w.heap.size + 1, 3, none⟩ = some (.slice a1 n cp1) ∧ w'.cell? ⟨w.heap.size + 1 + 1, 0, none⟩ = some (.int .i64 1) ∧ w'.cell? ⟨w.heap.size + 1 + 1, 1, none⟩ = some (.int .i64 anow) ∧ w'.cell? ⟨w.heap.size + 1 + 1, 2, none⟩ = some (.int .i64 acost) ∧ w'.cell? ⟨nb, 0, none⟩ = some (.int .i64 aat) ∧ w'.cell? ⟨nb, 1, none⟩ = some (.int .i64 0) ∧ w'.cell? ⟨nb, 2, none⟩ = some (.int .i64 ahd) ∧ w'.cell? ⟨nb, 3, none⟩ = some (.slice a2 m2 cp2) ∧ ResB w' (w.heap.size + 1 + 1 + 1) ∧ ResB w' nb ∧ OwnLog w' w1.heap.size (.slice a1 n cp1) n L ∧ OwnLog w' base2 (.slice a2 m2 cp2) m2 L2 ∧ Below w.heap.size w w') (by kernel_rfl) ?_ (fun hHeld => ?_)
  · exact ⟨c0, c1, c2, c3, c4, c5, c6, c7, c8, c9, c10, c11, c12, x0, x1, x2, x3, hR, hN, hO1, hO2, bl_drew hB⟩
  try simp only [Act.put, List.setIfInBounds_toArray, List.set_cons_zero, List.set_cons_succ]
  (refine tk (i := 0) rfl rfl hHeld ?_)
  (refine tk (i := 1) rfl rfl hHeld ?_)
  (refine tk (i := 2) rfl rfl hHeld ?_)
  (refine tk (i := 3) rfl rfl hHeld ?_)
  (refine tk (i := 4) rfl rfl hHeld ?_)
  (refine tk (i := 5) rfl rfl hHeld ?_)
  (refine tk (i := 6) rfl rfl hHeld ?_)
  (refine callH (i := 7) rfl hHeld (fun W hW K hK => ?_); clear hHeld; (try dsimp only at hW); obtain ⟨h0, h1, h2, h3, h4, h5, h6, h7, h8, h9, h10, h11, h12, y0, y1, y2, y3, hr', hn', ho1', ho2', hB'⟩ := hW; go_simp; refine (HSM.out _ _ _ _ (own_at ho2')).mono ?_; rintro e w9 ⟨rfl, hb⟩; go_wp2_with fail; refine hK.out _ _ ?_ (fun hHeld => ?_); (focus ((try dsimp only); exact ⟨bl_cell hb h0, bl_cell hb h1, bl_cell hb h2, bl_cell hb h3, bl_cell hb h4, bl_cell hb h5, bl_cell hb h6, bl_cell hb h7, bl_cell hb h8, bl_cell hb h9, bl_cell hb h10, bl_cell hb h11, bl_cell hb h12, bl_cell hb y0, bl_cell hb y1, bl_cell hb y2, bl_cell hb y3, res_bl hr' hb, res_bl hn' hb, own_bl ho1' hb, own_bl ho2' hb, bl_then hB' hb⟩)); clear hK K; try simp only [Act.put, List.setIfInBounds_toArray, List.set_cons_zero, List.set_cons_succ])
  (refine tk (i := 8) rfl rfl hHeld ?_)
  (refine tk (i := 9) rfl rfl hHeld ?_)
  refine wpAnyH_done (by kernel_rfl) ?_ _
  refine then_abs (F := fun X => X.cell? ⟨w.heap.size, 0, none⟩ = some (.int .i64 k) ∧ X.cell? ⟨w.heap.size, 1, none⟩ = some (.int .i64 l) ∧ X.cell? ⟨w.heap.size, 2, none⟩ = some (.int .i64 d) ∧ X.cell? ⟨w.heap.size, 3, none⟩ = some (.int .i64 b) ∧ X.cell? ⟨w.heap.size, 4, none⟩ = some (.int .i64 cc) ∧ X.cell? ⟨w.heap.size, 5, none⟩ = some (.bool o) ∧ X.cell? ⟨w.heap.size + 1, 0, none⟩ = some (.int .i64 at_) ∧ X.cell? ⟨w.heap.size + 1, 1, none⟩ = some (.int .i64 0) ∧ X.cell? ⟨w.heap.size + 1, 2, none⟩ = some (.int .i64 ahd) ∧ X.cell? ⟨w.heap.size + 1, 3, none⟩ = some (.slice a1 n cp1) ∧ X.cell? ⟨w.heap.size + 1 + 1, 0, none⟩ = some (.int .i64 1) ∧ X.cell? ⟨w.heap.size + 1 + 1, 1, none⟩ = some (.int .i64 anow) ∧ X.cell? ⟨w.heap.size + 1 + 1, 2, none⟩ = some (.int .i64 acost) ∧ X.cell? ⟨nb, 0, none⟩ = some (.int .i64 aat) ∧ X.cell? ⟨nb, 1, none⟩ = some (.int .i64 0) ∧ X.cell? ⟨nb, 2, none⟩ = some (.int .i64 ahd) ∧ X.cell? ⟨nb, 3, none⟩ = some (.slice a2 m2 cp2) ∧ ResB X (w.heap.size + 1 + 1 + 1) ∧ ResB X nb ∧ OwnLog X w1.heap.size (.slice a1 n cp1) n L ∧ OwnLog X base2 (.slice a2 m2 cp2) m2 L2 ∧ Below w.heap.size w X) hHeld ?_
  clear hHeld hR hN hO1 hO2 hB c0 c1 c2 c3 c4 c5 c6 c7 c8 c9 c10 c11 c12 x0 x1 x2 x3
  rintro Y ⟨c0, c1, c2, c3, c4, c5, c6, c7, c8, c9, c10, c11, c12, x0, x1, x2, x3, hR, hN, hO1, hO2, hE⟩
  obtain ⟨F0, F1, F2, F3, U0, U1, U2, U3, I0, I1, I2, I3⟩ := res_all hR
  have hz2 := (hN 2 (by omega)).1
  have n0 : ¬ nb = w.heap.size := by omega
  have m0' : ¬ w.heap.size = nb := by omega
  have n1 : ¬ nb = w.heap.size + 1 := by omega
  have m1' : ¬ w.heap.size + 1 = nb := by omega
  have n2 : ¬ nb = w.heap.size + 1 + 1 := by omega
  have m2' : ¬ w.heap.size + 1 + 1 = nb := by omega
  have n3 : ¬ nb = w.heap.size + 1 + 1 + 1 := by omega
  have m3' : ¬ w.heap.size + 1 + 1 + 1 = nb := by omega
  repeat' (first | go_skip | go_guarded | go_step | go_upon)
  (try simp only [Exit.inBlock, Exit.then])
  refine bodyPost_ret (results_state2 rfl _ _ (by rfl) (set4r hR)) rfl ⟨⟨_, _, by first | rfl | simp, own_mono (own_far4 hO1 (own_above hO1 (by omega))) (by omega)⟩, bl4 hE (by omega)⟩

set_option maxHeartbeats 2000000 in
set_option maxRecDepth 100000 in
theorem wdo_full2 (p : Pol) (s : St) (a : Option Addr) (n c : Nat) (anow acost : Int) (A : St) (w : World) (h : rightL p s) (hlog : LogAt w a n c s.log) (hA : A = advL p s anow) (e1 : 1 ≤ acost) (e2 : ¬ acost ≤ p.limit - s.held - sumL A.log) :
    Calls Try.prog 21 #[p.v, s.v a n c, .agg #[.int .i64 2, .int .i64 anow, .int .i64 acost]] w fun e w' => StOwn2 (s, false) w.heap.size e w' ∧ Below w.heap.size w w' := by
  have hrt := fun W hW => wright_any p s a n c W hW
  rw [decide_eq_true h] at hrt
  have hav := fun a1 c1 W hW => wadv_any p s a1 n c1 anow W hW
  have hall := risen_all h.2.2.2.2.2.2.1
  have hsub := live_sub p.period (up s.at_ (clampT anow)) s.log
  have hssum := live_sum p.period (up s.at_ (clampT anow)) s.log (fun e he => by have := (hall e he).1; omega)
  have hAe : A.log = live p.period (up s.at_ (clampT anow)) s.log ∧ A.level = 0 ∧ A.held = s.held := by rw [hA]; unfold advL; rw [if_pos h]; exact ⟨rfl, rfl, rfl⟩
  rw [← hA] at hav
  rw [← hAe.1] at hsub hssum
  obtain ⟨⟨q0, q1, q2, q3, q4, q5, q6, q7⟩, r1, r2, r3, r4, r5, r6, r7, r8⟩ := h
  have hlen := hlog.1
  have hsb := sumL_bound A.log 1048576 (fun e he => by have := hall e (hsub.1 e he); omega)
  have hn1 : n ≤ 100 := by omega
  have hent : ∀ e ∈ A.log, 0 ≤ e.2 ∧ e.2 ≤ 1048576 := fun e he => by have := hall e (hsub.1 e he); omega
  have hw1 : IntKind.i64.wrap (p.limit - s.held) = p.limit - s.held := IntWalk.i64_in _ (by omega)
  have hw2 : IntKind.i64.wrap (p.limit - s.held - sumL A.log) = p.limit - s.held - sumL A.log := IntWalk.i64_in _ (by omega)
  have hsum := fun a2 m2 c2 W (hW : LogAt W a2 m2 c2 A.log) => sum_any a2 m2 c2 A.log W hW (by have := hW.1; have := hsub.2; omega) hent
  have HX := Go.Lib.hid (And.intro hn1 (And.intro hent (And.intro hsub.2 hlen)))
  clear hall hsb hsub hssum hent hA r1 r2 r3 r4 r6 r7 r8 q0 q1 q2 q3 q4 q5 q6 q7
  obtain ⟨k, l, d, b, cc, o⟩ := p
  obtain ⟨at_, level, held, L⟩ := s
  obtain ⟨aat, alv, ahd, L2⟩ := A
  obtain ⟨-, hz1, hz2⟩ := hAe
  unfold St.v Pol.v at *
  dsimp only at *
  subst hz1 hz2 r5
  have HRT := Go.Lib.hid hrt
  have HAV := Go.Lib.hid hav
  have HSM := Go.Lib.hid hsum
  have HLOG := Go.Lib.hid hlog
  clear hrt hav hsum hlog hlen hn1
  generalize hS2 : sumL L2 = S2 at *
  clear hS2
  go_enter Try.func21, Try.ntmps21
  go_wp2_with fail
  refine (HRT.out _ (log_bl HLOG.out (bl_alloc (bl_alloc (bl_alloc (bl_alloc (bl_refl _) _) _) _) _))).mono ?_
  rintro e w1 ⟨rfl, hb⟩
  have hB : Below w.heap.size w w1 := bl_then (bl_alloc (bl_alloc (bl_alloc (bl_alloc (bl_refl _) _) _) _) _) hb
  have c0 := bl_cell (v := .int .i64 k) hb (show World.cell? _ ⟨w.heap.size, 0, none⟩ = _ by go_simp)
  have c1 := bl_cell (v := .int .i64 l) hb (show World.cell? _ ⟨w.heap.size, 1, none⟩ = _ by go_simp)
  have c2 := bl_cell (v := .int .i64 d) hb (show World.cell? _ ⟨w.heap.size, 2, none⟩ = _ by go_simp)
  have c3 := bl_cell (v := .int .i64 b) hb (show World.cell? _ ⟨w.heap.size, 3, none⟩ = _ by go_simp)
  have c4 := bl_cell (v := .int .i64 cc) hb (show World.cell? _ ⟨w.heap.size, 4, none⟩ = _ by go_simp)
  have c5 := bl_cell (v := .bool o) hb (show World.cell? _ ⟨w.heap.size, 5, none⟩ = _ by go_simp)
  have c6 := bl_cell (v := .int .i64 at_) hb (show World.cell? _ ⟨w.heap.size + 1, 0, none⟩ = _ by go_simp)
  have c7 := bl_cell (v := .int .i64 0) hb (show World.cell? _ ⟨w.heap.size + 1, 1, none⟩ = _ by go_simp)
  have c8 := bl_cell (v := .int .i64 ahd) hb (show World.cell? _ ⟨w.heap.size + 1, 2, none⟩ = _ by go_simp)
  have c9 := bl_cell (v := .slice a n c) hb (show World.cell? _ ⟨w.heap.size + 1, 3, none⟩ = _ by go_simp)
  have c10 := bl_cell (v := .int .i64 2) hb (show World.cell? _ ⟨w.heap.size + 1 + 1, 0, none⟩ = _ by go_simp)
  have c11 := bl_cell (v := .int .i64 anow) hb (show World.cell? _ ⟨w.heap.size + 1 + 1, 1, none⟩ = _ by go_simp)
  have c12 := bl_cell (v := .int .i64 acost) hb (show World.cell? _ ⟨w.heap.size + 1 + 1, 2, none⟩ = _ by go_simp)
  have hR : ResB w1 (w.heap.size + 1 + 1 + 1) := res_bl (res_new _ _ _ _ _ _ (by simp)) hb
  have hQ : ResB w1 (w.heap.size + 1) := res_bl (res_bl (res_new (w.alloc _) _ _ _ _ _ (by simp)) (bl_alloc (bl_alloc (bl_refl _) _) _)) hb
  have hlg1 := log_bl HLOG.out hB
  clear hb HRT HLOG
  go_wp2_with fail
  refine (clone_all _ _ _ _ _ hlg1 (by have := HX.out.1; omega)).mono ?_
  rintro e w2 ⟨v1, rfl, hown1, hb⟩
  obtain ⟨a1, cp1, rfl, hlog1⟩ := own_log hown1
  have d0 := bl_cell hb c0
  have d1 := bl_cell hb c1
  have d2 := bl_cell hb c2
  have d3 := bl_cell hb c3
  have d4 := bl_cell hb c4
  have d5 := bl_cell hb c5
  have d6 := bl_cell hb c6
  have d7 := bl_cell hb c7
  have d8 := bl_cell hb c8
  have d9 := bl_cell hb c9
  have d10 := bl_cell hb c10
  have d11 := bl_cell hb c11
  have d12 := bl_cell hb c12
  have dR := res_bl hR hb
  have dQ := res_bl hQ hb
  have dB := bl_then hB hb
  have hlt1 := res_lt hR
  have fz := (dQ 3 (by omega)).1
  clear hR hQ hB hb hlg1 c0 c1 c2 c3 c4 c5 c6 c7 c8 c9 c10 c11 c12
  go_wp2_with fail
  have hown1' := own_far hown1 ⟨w.heap.size + 1, 3, none⟩ (.slice a1 n cp1) (own_above hown1 (by dsimp only; omega))
  refine (HAV.out _ _ _ (own_at hown1')).mono ?_
  rintro e w3 ⟨⟨v2, m2, rfl, hown2⟩, hb⟩
  obtain ⟨a2, cp2, rfl, hlog2⟩ := own_log hown2
  have c0 := bl_cell hb (far_set d0 ⟨w.heap.size + 1, 3, none⟩ (.slice a1 n cp1) (by dsimp only; omega))
  have c1 := bl_cell hb (far_set d1 ⟨w.heap.size + 1, 3, none⟩ (.slice a1 n cp1) (by dsimp only; omega))
  have c2 := bl_cell hb (far_set d2 ⟨w.heap.size + 1, 3, none⟩ (.slice a1 n cp1) (by dsimp only; omega))
  have c3 := bl_cell hb (far_set d3 ⟨w.heap.size + 1, 3, none⟩ (.slice a1 n cp1) (by dsimp only; omega))
  have c4 := bl_cell hb (far_set d4 ⟨w.heap.size + 1, 3, none⟩ (.slice a1 n cp1) (by dsimp only; omega))
  have c5 := bl_cell hb (far_set d5 ⟨w.heap.size + 1, 3, none⟩ (.slice a1 n cp1) (by dsimp only; omega))
  have c6 := bl_cell hb (set_other (a := ⟨w.heap.size + 1, 3, none⟩) d6 (.slice a1 n cp1) (by simp))
  have c7 := bl_cell hb (set_other (a := ⟨w.heap.size + 1, 3, none⟩) d7 (.slice a1 n cp1) (by simp))
  have c8 := bl_cell hb (set_other (a := ⟨w.heap.size + 1, 3, none⟩) d8 (.slice a1 n cp1) (by simp))
  have c9 : w3.cell? ⟨w.heap.size + 1, 3, none⟩ = some (.slice a1 n cp1) := bl_cell hb (World.cell?_setCell_same' _ _ _ (by rw [d9]; rfl))
  have c10 := bl_cell hb (far_set d10 ⟨w.heap.size + 1, 3, none⟩ (.slice a1 n cp1) (by dsimp only; omega))
  have c11 := bl_cell hb (far_set d11 ⟨w.heap.size + 1, 3, none⟩ (.slice a1 n cp1) (by dsimp only; omega))
  have c12 := bl_cell hb (far_set d12 ⟨w.heap.size + 1, 3, none⟩ (.slice a1 n cp1) (by dsimp only; omega))
  have hR := res_bl (res_set dR ⟨w.heap.size + 1, 3, none⟩ (.slice a1 n cp1)) hb
  have hB := bl_then (bl_set dB (a := ⟨w.heap.size + 1, 3, none⟩) (by dsimp only; omega) (.slice a1 n cp1)) hb
  have hO1 := own_bl hown1' hb
  have hlt2 := res_lt (res_set dR ⟨w.heap.size + 1, 3, none⟩ (.slice a1 n cp1))
  have hle3 := hb.size
  have HV2 := Go.Lib.hid (World.ownsRow.lt hown2)
  have hle1 := hlt1
  generalize (w2.setCell ⟨w.heap.size + 1, 3, none⟩ (.slice a1 n cp1)).heap.size = base2 at *
  clear hb dR dQ dB hown1 hown1' hlog1 hlog2 HAV d0 d1 d2 d3 d4 d5 d6 d7 d8 d9 d10 d11 d12
  dsimp only
  go_wp2_with fail
  refine wp_abs (S0 := fun X => X.cell? ⟨w.heap.size, 0, none⟩ = some (.int .i64 k) ∧ X.cell? ⟨w.heap.size, 1, none⟩ = some (.int .i64 l) ∧ X.cell? ⟨w.heap.size, 2, none⟩ = some (.int .i64 d) ∧ X.cell? ⟨w.heap.size, 3, none⟩ = some (.int .i64 b) ∧ X.cell? ⟨w.heap.size, 4, none⟩ = some (.int .i64 cc) ∧ X.cell? ⟨w.heap.size, 5, none⟩ = some (.bool o) ∧ X.cell? ⟨w.heap.size + 1, 0, none⟩ = some (.int .i64 at_) ∧ X.cell? ⟨w.heap.size + 1, 1, none⟩ = some (.int .i64 0) ∧ X.cell? ⟨w.heap.size + 1, 2, none⟩ = some (.int .i64 ahd) ∧ X.cell? ⟨w.heap.size + 1, 3, none⟩ = some (.slice a1 n cp1) ∧ X.cell? ⟨w.heap.size + 1 + 1, 0, none⟩ = some (.int .i64 2) ∧ X.cell? ⟨w.heap.size + 1 + 1, 1, none⟩ = some (.int .i64 anow) ∧ X.cell? ⟨w.heap.size + 1 + 1, 2, none⟩ = some (.int .i64 acost) ∧ X.cell? ⟨w3.heap.size, 0, none⟩ = some (.int .i64 aat) ∧ X.cell? ⟨w3.heap.size, 1, none⟩ = some (.int .i64 0) ∧ X.cell? ⟨w3.heap.size, 2, none⟩ = some (.int .i64 ahd) ∧ X.cell? ⟨w3.heap.size, 3, none⟩ = some (.slice a2 m2 cp2) ∧ ResB X (w.heap.size + 1 + 1 + 1) ∧ ResB X w3.heap.size ∧ OwnLog X w1.heap.size (.slice a1 n cp1) n L ∧ OwnLog X base2 (.slice a2 m2 cp2) m2 L2 ∧ Below w.heap.size w X) ⟨bl_cell (bl_alloc (bl_refl _) _) c0, bl_cell (bl_alloc (bl_refl _) _) c1, bl_cell (bl_alloc (bl_refl _) _) c2, bl_cell (bl_alloc (bl_refl _) _) c3, bl_cell (bl_alloc (bl_refl _) _) c4, bl_cell (bl_alloc (bl_refl _) _) c5, bl_cell (bl_alloc (bl_refl _) _) c6, bl_cell (bl_alloc (bl_refl _) _) c7, bl_cell (bl_alloc (bl_refl _) _) c8, bl_cell (bl_alloc (bl_refl _) _) c9, bl_cell (bl_alloc (bl_refl _) _) c10, bl_cell (bl_alloc (bl_refl _) _) c11, bl_cell (bl_alloc (bl_refl _) _) c12, by go_simp, by go_simp, by go_simp, by go_simp, res_bl hR (bl_alloc (bl_refl _) _), res_new _ _ _ _ _ _ rfl, World.ownsRow.alloc hO1 _, World.ownsRow.alloc hown2 _, bl_alloc hB _⟩ ?_
  clear hR hO1 hown2 hB c0 c1 c2 c3 c4 c5 c6 c7 c8 c9 c10 c11 c12
  generalize w3.heap.size = nb at *
  rintro X ⟨c0, c1, c2, c3, c4, c5, c6, c7, c8, c9, c10, c11, c12, x0, x1, x2, x3, hR, hN, hO1, hO2, hB⟩
  refine wp_region_held_drew (S := fun w' => w'.cell? ⟨w.heap.size, 0, none⟩ = some (.int .i64 k) ∧ w'.cell? ⟨w.heap.size, 1, none⟩ = some (.int .i64 l) ∧ w'.cell? ⟨w.heap.size, 2, none⟩ = some (.int .i64 d) ∧ w'.cell? ⟨w.heap.size, 3, none⟩ = some (.int .i64 b) ∧ w'.cell? ⟨w.heap.size, 4, none⟩ = some (.int .i64 cc) ∧ w'.cell? ⟨w.heap.size, 5, none⟩ = some (.bool o) ∧ w'.cell? ⟨w.heap.size + 1, 0, none⟩ = some (.int .i64 at_) ∧ w'.cell? ⟨w.heap.size + 1, 1, none⟩ = some (.int .i64 0) ∧ w'.cell? ⟨w.heap.size + 1, 2, none⟩ = some (.int .i64 ahd) ∧ w'.cell? ⟨w.heap.size + 1, 3, none⟩ = some (.slice a1 n cp1) ∧ w'.cell? ⟨w.heap.size + 1 + 1, 0, none⟩ = some (.int .i64 2) ∧ w'.cell? ⟨w.heap.size + 1 + 1, 1, none⟩ = some (.int .i64 anow) ∧ w'.cell? ⟨w.heap.size + 1 + 1, 2, none⟩ = some (.int .i64 acost) ∧ w'.cell? ⟨nb, 0, none⟩ = some (.int .i64 aat) ∧ w'.cell? ⟨nb, 1, none⟩ = some (.int .i64 0) ∧ w'.cell? ⟨nb, 2, none⟩ = some (.int .i64 ahd) ∧ w'.cell? ⟨nb, 3, none⟩ = some (.slice a2 m2 cp2) ∧ ResB w' (w.heap.size + 1 + 1 + 1) ∧ ResB w' nb ∧ OwnLog w' w1.heap.size (.slice a1 n cp1) n L ∧ OwnLog w' base2 (.slice a2 m2 cp2) m2 L2 ∧ Below w.heap.size w w') (by kernel_rfl) ?_ (fun hHeld => ?_)
  · exact ⟨c0, c1, c2, c3, c4, c5, c6, c7, c8, c9, c10, c11, c12, x0, x1, x2, x3, hR, hN, hO1, hO2, bl_drew hB⟩
  try simp only [Act.put, List.setIfInBounds_toArray, List.set_cons_zero, List.set_cons_succ]
  (refine tk (i := 0) rfl rfl hHeld ?_)
  (refine tk (i := 1) rfl rfl hHeld ?_)
  (refine tk (i := 2) rfl rfl hHeld ?_)
  (refine tk (i := 3) rfl rfl hHeld ?_)
  (refine tk (i := 4) rfl rfl hHeld ?_)
  (refine tk (i := 5) rfl rfl hHeld ?_)
  (refine tk (i := 6) rfl rfl hHeld ?_)
  (refine callH (i := 7) rfl hHeld (fun W hW K hK => ?_); clear hHeld; (try dsimp only at hW); obtain ⟨h0, h1, h2, h3, h4, h5, h6, h7, h8, h9, h10, h11, h12, y0, y1, y2, y3, hr', hn', ho1', ho2', hB'⟩ := hW; go_simp; refine (HSM.out _ _ _ _ (own_at ho2')).mono ?_; rintro e w9 ⟨rfl, hb⟩; go_wp2_with fail; refine hK.out _ _ ?_ (fun hHeld => ?_); (focus ((try dsimp only); exact ⟨bl_cell hb h0, bl_cell hb h1, bl_cell hb h2, bl_cell hb h3, bl_cell hb h4, bl_cell hb h5, bl_cell hb h6, bl_cell hb h7, bl_cell hb h8, bl_cell hb h9, bl_cell hb h10, bl_cell hb h11, bl_cell hb h12, bl_cell hb y0, bl_cell hb y1, bl_cell hb y2, bl_cell hb y3, res_bl hr' hb, res_bl hn' hb, own_bl ho1' hb, own_bl ho2' hb, bl_then hB' hb⟩)); clear hK K; try simp only [Act.put, List.setIfInBounds_toArray, List.set_cons_zero, List.set_cons_succ])
  (refine tk (i := 8) rfl rfl hHeld ?_)
  (refine tk (i := 9) rfl rfl hHeld ?_)
  refine wpAnyH_done (by kernel_rfl) ?_ _
  refine then_abs (F := fun X => X.cell? ⟨w.heap.size, 0, none⟩ = some (.int .i64 k) ∧ X.cell? ⟨w.heap.size, 1, none⟩ = some (.int .i64 l) ∧ X.cell? ⟨w.heap.size, 2, none⟩ = some (.int .i64 d) ∧ X.cell? ⟨w.heap.size, 3, none⟩ = some (.int .i64 b) ∧ X.cell? ⟨w.heap.size, 4, none⟩ = some (.int .i64 cc) ∧ X.cell? ⟨w.heap.size, 5, none⟩ = some (.bool o) ∧ X.cell? ⟨w.heap.size + 1, 0, none⟩ = some (.int .i64 at_) ∧ X.cell? ⟨w.heap.size + 1, 1, none⟩ = some (.int .i64 0) ∧ X.cell? ⟨w.heap.size + 1, 2, none⟩ = some (.int .i64 ahd) ∧ X.cell? ⟨w.heap.size + 1, 3, none⟩ = some (.slice a1 n cp1) ∧ X.cell? ⟨w.heap.size + 1 + 1, 0, none⟩ = some (.int .i64 2) ∧ X.cell? ⟨w.heap.size + 1 + 1, 1, none⟩ = some (.int .i64 anow) ∧ X.cell? ⟨w.heap.size + 1 + 1, 2, none⟩ = some (.int .i64 acost) ∧ X.cell? ⟨nb, 0, none⟩ = some (.int .i64 aat) ∧ X.cell? ⟨nb, 1, none⟩ = some (.int .i64 0) ∧ X.cell? ⟨nb, 2, none⟩ = some (.int .i64 ahd) ∧ X.cell? ⟨nb, 3, none⟩ = some (.slice a2 m2 cp2) ∧ ResB X (w.heap.size + 1 + 1 + 1) ∧ ResB X nb ∧ OwnLog X w1.heap.size (.slice a1 n cp1) n L ∧ OwnLog X base2 (.slice a2 m2 cp2) m2 L2 ∧ Below w.heap.size w X) hHeld ?_
  clear hHeld hR hN hO1 hO2 hB c0 c1 c2 c3 c4 c5 c6 c7 c8 c9 c10 c11 c12 x0 x1 x2 x3
  rintro Y ⟨c0, c1, c2, c3, c4, c5, c6, c7, c8, c9, c10, c11, c12, x0, x1, x2, x3, hR, hN, hO1, hO2, hE⟩
  obtain ⟨F0, F1, F2, F3, U0, U1, U2, U3, I0, I1, I2, I3⟩ := res_all hR
  have hz2 := (hN 2 (by omega)).1
  have n0 : ¬ nb = w.heap.size := by omega
  have m0' : ¬ w.heap.size = nb := by omega
  have n1 : ¬ nb = w.heap.size + 1 := by omega
  have m1' : ¬ w.heap.size + 1 = nb := by omega
  have n2 : ¬ nb = w.heap.size + 1 + 1 := by omega
  have m2' : ¬ w.heap.size + 1 + 1 = nb := by omega
  have n3 : ¬ nb = w.heap.size + 1 + 1 + 1 := by omega
  have m3' : ¬ w.heap.size + 1 + 1 + 1 = nb := by omega
  repeat' (first | go_skip | go_guarded | go_step | go_upon)
  (try simp only [Exit.inBlock, Exit.then])
  refine bodyPost_ret (results_state2 rfl _ _ (by rfl) (set4r hR)) rfl ⟨⟨_, _, by first | rfl | simp, own_mono (own_far4 hO1 (own_above hO1 (by omega))) (by omega)⟩, bl4 hE (by omega)⟩

set_option maxHeartbeats 2000000 in
set_option maxRecDepth 100000 in
theorem wdo_over3 (p : Pol) (s : St) (a : Option Addr) (n c : Nat) (anow acost : Int) (A : St) (w : World) (h : rightL p s) (hlog : LogAt w a n c s.log) (hA : A = advL p s anow) (e1 : 1 ≤ acost) (e2 : ¬ acost ≤ s.held) :
    Calls Try.prog 21 #[p.v, s.v a n c, .agg #[.int .i64 3, .int .i64 anow, .int .i64 acost]] w fun e w' => StOwn2 (s, false) w.heap.size e w' ∧ Below w.heap.size w w' := by
  have hrt := fun W hW => wright_any p s a n c W hW
  rw [decide_eq_true h] at hrt
  have hav := fun a1 c1 W hW => wadv_any p s a1 n c1 anow W hW
  have hall := risen_all h.2.2.2.2.2.2.1
  have hsub := live_sub p.period (up s.at_ (clampT anow)) s.log
  have hssum := live_sum p.period (up s.at_ (clampT anow)) s.log (fun e he => by have := (hall e he).1; omega)
  have hAe : A.log = live p.period (up s.at_ (clampT anow)) s.log ∧ A.level = 0 ∧ A.held = s.held := by rw [hA]; unfold advL; rw [if_pos h]; exact ⟨rfl, rfl, rfl⟩
  rw [← hA] at hav
  rw [← hAe.1] at hsub hssum
  obtain ⟨⟨q0, q1, q2, q3, q4, q5, q6, q7⟩, r1, r2, r3, r4, r5, r6, r7, r8⟩ := h
  have hlen := hlog.1
  have hsb := sumL_bound A.log 1048576 (fun e he => by have := hall e (hsub.1 e he); omega)
  have hn1 : n ≤ 100 := by omega
  have hent : ∀ e ∈ A.log, 0 ≤ e.2 ∧ e.2 ≤ 1048576 := fun e he => by have := hall e (hsub.1 e he); omega
  have hw1 : IntKind.i64.wrap (p.limit - s.held) = p.limit - s.held := IntWalk.i64_in _ (by omega)
  have hw2 : IntKind.i64.wrap (p.limit - s.held - sumL A.log) = p.limit - s.held - sumL A.log := IntWalk.i64_in _ (by omega)
  have hsum := fun a2 m2 c2 W (hW : LogAt W a2 m2 c2 A.log) => sum_any a2 m2 c2 A.log W hW (by have := hW.1; have := hsub.2; omega) hent
  have HX := Go.Lib.hid (And.intro hn1 (And.intro hent (And.intro hsub.2 hlen)))
  clear hall hsb hsub hssum hent hA r1 r2 r3 r4 r6 r7 r8 q0 q1 q2 q3 q4 q5 q6 q7
  obtain ⟨k, l, d, b, cc, o⟩ := p
  obtain ⟨at_, level, held, L⟩ := s
  obtain ⟨aat, alv, ahd, L2⟩ := A
  obtain ⟨-, hz1, hz2⟩ := hAe
  unfold St.v Pol.v at *
  dsimp only at *
  subst hz1 hz2 r5
  have HRT := Go.Lib.hid hrt
  have HAV := Go.Lib.hid hav
  have HSM := Go.Lib.hid hsum
  have HLOG := Go.Lib.hid hlog
  clear hrt hav hsum hlog hlen hn1
  generalize hS2 : sumL L2 = S2 at *
  clear hS2
  go_enter Try.func21, Try.ntmps21
  go_wp2_with fail
  refine (HRT.out _ (log_bl HLOG.out (bl_alloc (bl_alloc (bl_alloc (bl_alloc (bl_refl _) _) _) _) _))).mono ?_
  rintro e w1 ⟨rfl, hb⟩
  have hB : Below w.heap.size w w1 := bl_then (bl_alloc (bl_alloc (bl_alloc (bl_alloc (bl_refl _) _) _) _) _) hb
  have c0 := bl_cell (v := .int .i64 k) hb (show World.cell? _ ⟨w.heap.size, 0, none⟩ = _ by go_simp)
  have c1 := bl_cell (v := .int .i64 l) hb (show World.cell? _ ⟨w.heap.size, 1, none⟩ = _ by go_simp)
  have c2 := bl_cell (v := .int .i64 d) hb (show World.cell? _ ⟨w.heap.size, 2, none⟩ = _ by go_simp)
  have c3 := bl_cell (v := .int .i64 b) hb (show World.cell? _ ⟨w.heap.size, 3, none⟩ = _ by go_simp)
  have c4 := bl_cell (v := .int .i64 cc) hb (show World.cell? _ ⟨w.heap.size, 4, none⟩ = _ by go_simp)
  have c5 := bl_cell (v := .bool o) hb (show World.cell? _ ⟨w.heap.size, 5, none⟩ = _ by go_simp)
  have c6 := bl_cell (v := .int .i64 at_) hb (show World.cell? _ ⟨w.heap.size + 1, 0, none⟩ = _ by go_simp)
  have c7 := bl_cell (v := .int .i64 0) hb (show World.cell? _ ⟨w.heap.size + 1, 1, none⟩ = _ by go_simp)
  have c8 := bl_cell (v := .int .i64 ahd) hb (show World.cell? _ ⟨w.heap.size + 1, 2, none⟩ = _ by go_simp)
  have c9 := bl_cell (v := .slice a n c) hb (show World.cell? _ ⟨w.heap.size + 1, 3, none⟩ = _ by go_simp)
  have c10 := bl_cell (v := .int .i64 3) hb (show World.cell? _ ⟨w.heap.size + 1 + 1, 0, none⟩ = _ by go_simp)
  have c11 := bl_cell (v := .int .i64 anow) hb (show World.cell? _ ⟨w.heap.size + 1 + 1, 1, none⟩ = _ by go_simp)
  have c12 := bl_cell (v := .int .i64 acost) hb (show World.cell? _ ⟨w.heap.size + 1 + 1, 2, none⟩ = _ by go_simp)
  have hR : ResB w1 (w.heap.size + 1 + 1 + 1) := res_bl (res_new _ _ _ _ _ _ (by simp)) hb
  have hQ : ResB w1 (w.heap.size + 1) := res_bl (res_bl (res_new (w.alloc _) _ _ _ _ _ (by simp)) (bl_alloc (bl_alloc (bl_refl _) _) _)) hb
  have hlg1 := log_bl HLOG.out hB
  clear hb HRT HLOG
  go_wp2_with fail
  refine (clone_all _ _ _ _ _ hlg1 (by have := HX.out.1; omega)).mono ?_
  rintro e w2 ⟨v1, rfl, hown1, hb⟩
  obtain ⟨a1, cp1, rfl, hlog1⟩ := own_log hown1
  have d0 := bl_cell hb c0
  have d1 := bl_cell hb c1
  have d2 := bl_cell hb c2
  have d3 := bl_cell hb c3
  have d4 := bl_cell hb c4
  have d5 := bl_cell hb c5
  have d6 := bl_cell hb c6
  have d7 := bl_cell hb c7
  have d8 := bl_cell hb c8
  have d9 := bl_cell hb c9
  have d10 := bl_cell hb c10
  have d11 := bl_cell hb c11
  have d12 := bl_cell hb c12
  have dR := res_bl hR hb
  have dQ := res_bl hQ hb
  have dB := bl_then hB hb
  have hlt1 := res_lt hR
  have fz := (dQ 3 (by omega)).1
  clear hR hQ hB hb hlg1 c0 c1 c2 c3 c4 c5 c6 c7 c8 c9 c10 c11 c12
  go_wp2_with fail
  have hown1' := own_far hown1 ⟨w.heap.size + 1, 3, none⟩ (.slice a1 n cp1) (own_above hown1 (by dsimp only; omega))
  refine (HAV.out _ _ _ (own_at hown1')).mono ?_
  rintro e w3 ⟨⟨v2, m2, rfl, hown2⟩, hb⟩
  obtain ⟨a2, cp2, rfl, hlog2⟩ := own_log hown2
  have c0 := bl_cell hb (far_set d0 ⟨w.heap.size + 1, 3, none⟩ (.slice a1 n cp1) (by dsimp only; omega))
  have c1 := bl_cell hb (far_set d1 ⟨w.heap.size + 1, 3, none⟩ (.slice a1 n cp1) (by dsimp only; omega))
  have c2 := bl_cell hb (far_set d2 ⟨w.heap.size + 1, 3, none⟩ (.slice a1 n cp1) (by dsimp only; omega))
  have c3 := bl_cell hb (far_set d3 ⟨w.heap.size + 1, 3, none⟩ (.slice a1 n cp1) (by dsimp only; omega))
  have c4 := bl_cell hb (far_set d4 ⟨w.heap.size + 1, 3, none⟩ (.slice a1 n cp1) (by dsimp only; omega))
  have c5 := bl_cell hb (far_set d5 ⟨w.heap.size + 1, 3, none⟩ (.slice a1 n cp1) (by dsimp only; omega))
  have c6 := bl_cell hb (set_other (a := ⟨w.heap.size + 1, 3, none⟩) d6 (.slice a1 n cp1) (by simp))
  have c7 := bl_cell hb (set_other (a := ⟨w.heap.size + 1, 3, none⟩) d7 (.slice a1 n cp1) (by simp))
  have c8 := bl_cell hb (set_other (a := ⟨w.heap.size + 1, 3, none⟩) d8 (.slice a1 n cp1) (by simp))
  have c9 : w3.cell? ⟨w.heap.size + 1, 3, none⟩ = some (.slice a1 n cp1) := bl_cell hb (World.cell?_setCell_same' _ _ _ (by rw [d9]; rfl))
  have c10 := bl_cell hb (far_set d10 ⟨w.heap.size + 1, 3, none⟩ (.slice a1 n cp1) (by dsimp only; omega))
  have c11 := bl_cell hb (far_set d11 ⟨w.heap.size + 1, 3, none⟩ (.slice a1 n cp1) (by dsimp only; omega))
  have c12 := bl_cell hb (far_set d12 ⟨w.heap.size + 1, 3, none⟩ (.slice a1 n cp1) (by dsimp only; omega))
  have hR := res_bl (res_set dR ⟨w.heap.size + 1, 3, none⟩ (.slice a1 n cp1)) hb
  have hB := bl_then (bl_set dB (a := ⟨w.heap.size + 1, 3, none⟩) (by dsimp only; omega) (.slice a1 n cp1)) hb
  have hO1 := own_bl hown1' hb
  have hlt2 := res_lt (res_set dR ⟨w.heap.size + 1, 3, none⟩ (.slice a1 n cp1))
  have hle3 := hb.size
  have HV2 := Go.Lib.hid (World.ownsRow.lt hown2)
  have hle1 := hlt1
  generalize (w2.setCell ⟨w.heap.size + 1, 3, none⟩ (.slice a1 n cp1)).heap.size = base2 at *
  clear hb dR dQ dB hown1 hown1' hlog1 hlog2 HAV d0 d1 d2 d3 d4 d5 d6 d7 d8 d9 d10 d11 d12
  dsimp only
  go_wp2_with fail
  refine wp_abs (S0 := fun X => X.cell? ⟨w.heap.size, 0, none⟩ = some (.int .i64 k) ∧ X.cell? ⟨w.heap.size, 1, none⟩ = some (.int .i64 l) ∧ X.cell? ⟨w.heap.size, 2, none⟩ = some (.int .i64 d) ∧ X.cell? ⟨w.heap.size, 3, none⟩ = some (.int .i64 b) ∧ X.cell? ⟨w.heap.size, 4, none⟩ = some (.int .i64 cc) ∧ X.cell? ⟨w.heap.size, 5, none⟩ = some (.bool o) ∧ X.cell? ⟨w.heap.size + 1, 0, none⟩ = some (.int .i64 at_) ∧ X.cell? ⟨w.heap.size + 1, 1, none⟩ = some (.int .i64 0) ∧ X.cell? ⟨w.heap.size + 1, 2, none⟩ = some (.int .i64 ahd) ∧ X.cell? ⟨w.heap.size + 1, 3, none⟩ = some (.slice a1 n cp1) ∧ X.cell? ⟨w.heap.size + 1 + 1, 0, none⟩ = some (.int .i64 3) ∧ X.cell? ⟨w.heap.size + 1 + 1, 1, none⟩ = some (.int .i64 anow) ∧ X.cell? ⟨w.heap.size + 1 + 1, 2, none⟩ = some (.int .i64 acost) ∧ X.cell? ⟨w3.heap.size, 0, none⟩ = some (.int .i64 aat) ∧ X.cell? ⟨w3.heap.size, 1, none⟩ = some (.int .i64 0) ∧ X.cell? ⟨w3.heap.size, 2, none⟩ = some (.int .i64 ahd) ∧ X.cell? ⟨w3.heap.size, 3, none⟩ = some (.slice a2 m2 cp2) ∧ ResB X (w.heap.size + 1 + 1 + 1) ∧ ResB X w3.heap.size ∧ OwnLog X w1.heap.size (.slice a1 n cp1) n L ∧ OwnLog X base2 (.slice a2 m2 cp2) m2 L2 ∧ Below w.heap.size w X) ⟨bl_cell (bl_alloc (bl_refl _) _) c0, bl_cell (bl_alloc (bl_refl _) _) c1, bl_cell (bl_alloc (bl_refl _) _) c2, bl_cell (bl_alloc (bl_refl _) _) c3, bl_cell (bl_alloc (bl_refl _) _) c4, bl_cell (bl_alloc (bl_refl _) _) c5, bl_cell (bl_alloc (bl_refl _) _) c6, bl_cell (bl_alloc (bl_refl _) _) c7, bl_cell (bl_alloc (bl_refl _) _) c8, bl_cell (bl_alloc (bl_refl _) _) c9, bl_cell (bl_alloc (bl_refl _) _) c10, bl_cell (bl_alloc (bl_refl _) _) c11, bl_cell (bl_alloc (bl_refl _) _) c12, by go_simp, by go_simp, by go_simp, by go_simp, res_bl hR (bl_alloc (bl_refl _) _), res_new _ _ _ _ _ _ rfl, World.ownsRow.alloc hO1 _, World.ownsRow.alloc hown2 _, bl_alloc hB _⟩ ?_
  clear hR hO1 hown2 hB c0 c1 c2 c3 c4 c5 c6 c7 c8 c9 c10 c11 c12
  generalize w3.heap.size = nb at *
  rintro X ⟨c0, c1, c2, c3, c4, c5, c6, c7, c8, c9, c10, c11, c12, x0, x1, x2, x3, hR, hN, hO1, hO2, hB⟩
  refine wp_region_held_drew (S := fun w' => w'.cell? ⟨w.heap.size, 0, none⟩ = some (.int .i64 k) ∧ w'.cell? ⟨w.heap.size, 1, none⟩ = some (.int .i64 l) ∧ w'.cell? ⟨w.heap.size, 2, none⟩ = some (.int .i64 d) ∧ w'.cell? ⟨w.heap.size, 3, none⟩ = some (.int .i64 b) ∧ w'.cell? ⟨w.heap.size, 4, none⟩ = some (.int .i64 cc) ∧ w'.cell? ⟨w.heap.size, 5, none⟩ = some (.bool o) ∧ w'.cell? ⟨w.heap.size + 1, 0, none⟩ = some (.int .i64 at_) ∧ w'.cell? ⟨w.heap.size + 1, 1, none⟩ = some (.int .i64 0) ∧ w'.cell? ⟨w.heap.size + 1, 2, none⟩ = some (.int .i64 ahd) ∧ w'.cell? ⟨w.heap.size + 1, 3, none⟩ = some (.slice a1 n cp1) ∧ w'.cell? ⟨w.heap.size + 1 + 1, 0, none⟩ = some (.int .i64 3) ∧ w'.cell? ⟨w.heap.size + 1 + 1, 1, none⟩ = some (.int .i64 anow) ∧ w'.cell? ⟨w.heap.size + 1 + 1, 2, none⟩ = some (.int .i64 acost) ∧ w'.cell? ⟨nb, 0, none⟩ = some (.int .i64 aat) ∧ w'.cell? ⟨nb, 1, none⟩ = some (.int .i64 0) ∧ w'.cell? ⟨nb, 2, none⟩ = some (.int .i64 ahd) ∧ w'.cell? ⟨nb, 3, none⟩ = some (.slice a2 m2 cp2) ∧ ResB w' (w.heap.size + 1 + 1 + 1) ∧ ResB w' nb ∧ OwnLog w' w1.heap.size (.slice a1 n cp1) n L ∧ OwnLog w' base2 (.slice a2 m2 cp2) m2 L2 ∧ Below w.heap.size w w') (by kernel_rfl) ?_ (fun hHeld => ?_)
  · exact ⟨c0, c1, c2, c3, c4, c5, c6, c7, c8, c9, c10, c11, c12, x0, x1, x2, x3, hR, hN, hO1, hO2, bl_drew hB⟩
  try simp only [Act.put, List.setIfInBounds_toArray, List.set_cons_zero, List.set_cons_succ]
  (refine tk (i := 0) rfl rfl hHeld ?_)
  (refine tk (i := 1) rfl rfl hHeld ?_)
  (refine tk (i := 2) rfl rfl hHeld ?_)
  (refine tk (i := 3) rfl rfl hHeld ?_)
  (refine tk (i := 4) rfl rfl hHeld ?_)
  (refine tk (i := 5) rfl rfl hHeld ?_)
  (refine tk (i := 6) rfl rfl hHeld ?_)
  (refine callH (i := 7) rfl hHeld (fun W hW K hK => ?_); clear hHeld; (try dsimp only at hW); obtain ⟨h0, h1, h2, h3, h4, h5, h6, h7, h8, h9, h10, h11, h12, y0, y1, y2, y3, hr', hn', ho1', ho2', hB'⟩ := hW; go_simp; refine (HSM.out _ _ _ _ (own_at ho2')).mono ?_; rintro e w9 ⟨rfl, hb⟩; go_wp2_with fail; refine hK.out _ _ ?_ (fun hHeld => ?_); (focus ((try dsimp only); exact ⟨bl_cell hb h0, bl_cell hb h1, bl_cell hb h2, bl_cell hb h3, bl_cell hb h4, bl_cell hb h5, bl_cell hb h6, bl_cell hb h7, bl_cell hb h8, bl_cell hb h9, bl_cell hb h10, bl_cell hb h11, bl_cell hb h12, bl_cell hb y0, bl_cell hb y1, bl_cell hb y2, bl_cell hb y3, res_bl hr' hb, res_bl hn' hb, own_bl ho1' hb, own_bl ho2' hb, bl_then hB' hb⟩)); clear hK K; try simp only [Act.put, List.setIfInBounds_toArray, List.set_cons_zero, List.set_cons_succ])
  (refine tk (i := 8) rfl rfl hHeld ?_)
  (refine tk (i := 9) rfl rfl hHeld ?_)
  refine wpAnyH_done (by kernel_rfl) ?_ _
  refine then_abs (F := fun X => X.cell? ⟨w.heap.size, 0, none⟩ = some (.int .i64 k) ∧ X.cell? ⟨w.heap.size, 1, none⟩ = some (.int .i64 l) ∧ X.cell? ⟨w.heap.size, 2, none⟩ = some (.int .i64 d) ∧ X.cell? ⟨w.heap.size, 3, none⟩ = some (.int .i64 b) ∧ X.cell? ⟨w.heap.size, 4, none⟩ = some (.int .i64 cc) ∧ X.cell? ⟨w.heap.size, 5, none⟩ = some (.bool o) ∧ X.cell? ⟨w.heap.size + 1, 0, none⟩ = some (.int .i64 at_) ∧ X.cell? ⟨w.heap.size + 1, 1, none⟩ = some (.int .i64 0) ∧ X.cell? ⟨w.heap.size + 1, 2, none⟩ = some (.int .i64 ahd) ∧ X.cell? ⟨w.heap.size + 1, 3, none⟩ = some (.slice a1 n cp1) ∧ X.cell? ⟨w.heap.size + 1 + 1, 0, none⟩ = some (.int .i64 3) ∧ X.cell? ⟨w.heap.size + 1 + 1, 1, none⟩ = some (.int .i64 anow) ∧ X.cell? ⟨w.heap.size + 1 + 1, 2, none⟩ = some (.int .i64 acost) ∧ X.cell? ⟨nb, 0, none⟩ = some (.int .i64 aat) ∧ X.cell? ⟨nb, 1, none⟩ = some (.int .i64 0) ∧ X.cell? ⟨nb, 2, none⟩ = some (.int .i64 ahd) ∧ X.cell? ⟨nb, 3, none⟩ = some (.slice a2 m2 cp2) ∧ ResB X (w.heap.size + 1 + 1 + 1) ∧ ResB X nb ∧ OwnLog X w1.heap.size (.slice a1 n cp1) n L ∧ OwnLog X base2 (.slice a2 m2 cp2) m2 L2 ∧ Below w.heap.size w X) hHeld ?_
  clear hHeld hR hN hO1 hO2 hB c0 c1 c2 c3 c4 c5 c6 c7 c8 c9 c10 c11 c12 x0 x1 x2 x3
  rintro Y ⟨c0, c1, c2, c3, c4, c5, c6, c7, c8, c9, c10, c11, c12, x0, x1, x2, x3, hR, hN, hO1, hO2, hE⟩
  obtain ⟨F0, F1, F2, F3, U0, U1, U2, U3, I0, I1, I2, I3⟩ := res_all hR
  have hz2 := (hN 2 (by omega)).1
  have n0 : ¬ nb = w.heap.size := by omega
  have m0' : ¬ w.heap.size = nb := by omega
  have n1 : ¬ nb = w.heap.size + 1 := by omega
  have m1' : ¬ w.heap.size + 1 = nb := by omega
  have n2 : ¬ nb = w.heap.size + 1 + 1 := by omega
  have m2' : ¬ w.heap.size + 1 + 1 = nb := by omega
  have n3 : ¬ nb = w.heap.size + 1 + 1 + 1 := by omega
  have m3' : ¬ w.heap.size + 1 + 1 + 1 = nb := by omega
  repeat' (first | go_skip | go_guarded | go_step | go_upon)
  (try simp only [Exit.inBlock, Exit.then])
  refine bodyPost_ret (results_state2 rfl _ _ (by rfl) (set4r hR)) rfl ⟨⟨_, _, by first | rfl | simp, own_mono (own_far4 hO1 (own_above hO1 (by omega))) (by omega)⟩, bl4 hE (by omega)⟩

set_option maxHeartbeats 2000000 in
set_option maxRecDepth 100000 in
theorem wdo_over4 (p : Pol) (s : St) (a : Option Addr) (n c : Nat) (anow acost : Int) (A : St) (w : World) (h : rightL p s) (hlog : LogAt w a n c s.log) (hA : A = advL p s anow) (e1 : 1 ≤ acost) (e2 : ¬ acost ≤ s.held) :
    Calls Try.prog 21 #[p.v, s.v a n c, .agg #[.int .i64 4, .int .i64 anow, .int .i64 acost]] w fun e w' => StOwn2 (s, false) w.heap.size e w' ∧ Below w.heap.size w w' := by
  have hrt := fun W hW => wright_any p s a n c W hW
  rw [decide_eq_true h] at hrt
  have hav := fun a1 c1 W hW => wadv_any p s a1 n c1 anow W hW
  have hall := risen_all h.2.2.2.2.2.2.1
  have hsub := live_sub p.period (up s.at_ (clampT anow)) s.log
  have hssum := live_sum p.period (up s.at_ (clampT anow)) s.log (fun e he => by have := (hall e he).1; omega)
  have hAe : A.log = live p.period (up s.at_ (clampT anow)) s.log ∧ A.level = 0 ∧ A.held = s.held := by rw [hA]; unfold advL; rw [if_pos h]; exact ⟨rfl, rfl, rfl⟩
  rw [← hA] at hav
  rw [← hAe.1] at hsub hssum
  obtain ⟨⟨q0, q1, q2, q3, q4, q5, q6, q7⟩, r1, r2, r3, r4, r5, r6, r7, r8⟩ := h
  have hlen := hlog.1
  have hsb := sumL_bound A.log 1048576 (fun e he => by have := hall e (hsub.1 e he); omega)
  have hn1 : n ≤ 100 := by omega
  have hent : ∀ e ∈ A.log, 0 ≤ e.2 ∧ e.2 ≤ 1048576 := fun e he => by have := hall e (hsub.1 e he); omega
  have hw1 : IntKind.i64.wrap (p.limit - s.held) = p.limit - s.held := IntWalk.i64_in _ (by omega)
  have hw2 : IntKind.i64.wrap (p.limit - s.held - sumL A.log) = p.limit - s.held - sumL A.log := IntWalk.i64_in _ (by omega)
  have hsum := fun a2 m2 c2 W (hW : LogAt W a2 m2 c2 A.log) => sum_any a2 m2 c2 A.log W hW (by have := hW.1; have := hsub.2; omega) hent
  have HX := Go.Lib.hid (And.intro hn1 (And.intro hent (And.intro hsub.2 hlen)))
  clear hall hsb hsub hssum hent hA r1 r2 r3 r4 r6 r7 r8 q0 q1 q2 q3 q4 q5 q6 q7
  obtain ⟨k, l, d, b, cc, o⟩ := p
  obtain ⟨at_, level, held, L⟩ := s
  obtain ⟨aat, alv, ahd, L2⟩ := A
  obtain ⟨-, hz1, hz2⟩ := hAe
  unfold St.v Pol.v at *
  dsimp only at *
  subst hz1 hz2 r5
  have HRT := Go.Lib.hid hrt
  have HAV := Go.Lib.hid hav
  have HSM := Go.Lib.hid hsum
  have HLOG := Go.Lib.hid hlog
  clear hrt hav hsum hlog hlen hn1
  generalize hS2 : sumL L2 = S2 at *
  clear hS2
  go_enter Try.func21, Try.ntmps21
  go_wp2_with fail
  refine (HRT.out _ (log_bl HLOG.out (bl_alloc (bl_alloc (bl_alloc (bl_alloc (bl_refl _) _) _) _) _))).mono ?_
  rintro e w1 ⟨rfl, hb⟩
  have hB : Below w.heap.size w w1 := bl_then (bl_alloc (bl_alloc (bl_alloc (bl_alloc (bl_refl _) _) _) _) _) hb
  have c0 := bl_cell (v := .int .i64 k) hb (show World.cell? _ ⟨w.heap.size, 0, none⟩ = _ by go_simp)
  have c1 := bl_cell (v := .int .i64 l) hb (show World.cell? _ ⟨w.heap.size, 1, none⟩ = _ by go_simp)
  have c2 := bl_cell (v := .int .i64 d) hb (show World.cell? _ ⟨w.heap.size, 2, none⟩ = _ by go_simp)
  have c3 := bl_cell (v := .int .i64 b) hb (show World.cell? _ ⟨w.heap.size, 3, none⟩ = _ by go_simp)
  have c4 := bl_cell (v := .int .i64 cc) hb (show World.cell? _ ⟨w.heap.size, 4, none⟩ = _ by go_simp)
  have c5 := bl_cell (v := .bool o) hb (show World.cell? _ ⟨w.heap.size, 5, none⟩ = _ by go_simp)
  have c6 := bl_cell (v := .int .i64 at_) hb (show World.cell? _ ⟨w.heap.size + 1, 0, none⟩ = _ by go_simp)
  have c7 := bl_cell (v := .int .i64 0) hb (show World.cell? _ ⟨w.heap.size + 1, 1, none⟩ = _ by go_simp)
  have c8 := bl_cell (v := .int .i64 ahd) hb (show World.cell? _ ⟨w.heap.size + 1, 2, none⟩ = _ by go_simp)
  have c9 := bl_cell (v := .slice a n c) hb (show World.cell? _ ⟨w.heap.size + 1, 3, none⟩ = _ by go_simp)
  have c10 := bl_cell (v := .int .i64 4) hb (show World.cell? _ ⟨w.heap.size + 1 + 1, 0, none⟩ = _ by go_simp)
  have c11 := bl_cell (v := .int .i64 anow) hb (show World.cell? _ ⟨w.heap.size + 1 + 1, 1, none⟩ = _ by go_simp)
  have c12 := bl_cell (v := .int .i64 acost) hb (show World.cell? _ ⟨w.heap.size + 1 + 1, 2, none⟩ = _ by go_simp)
  have hR : ResB w1 (w.heap.size + 1 + 1 + 1) := res_bl (res_new _ _ _ _ _ _ (by simp)) hb
  have hQ : ResB w1 (w.heap.size + 1) := res_bl (res_bl (res_new (w.alloc _) _ _ _ _ _ (by simp)) (bl_alloc (bl_alloc (bl_refl _) _) _)) hb
  have hlg1 := log_bl HLOG.out hB
  clear hb HRT HLOG
  go_wp2_with fail
  refine (clone_all _ _ _ _ _ hlg1 (by have := HX.out.1; omega)).mono ?_
  rintro e w2 ⟨v1, rfl, hown1, hb⟩
  obtain ⟨a1, cp1, rfl, hlog1⟩ := own_log hown1
  have d0 := bl_cell hb c0
  have d1 := bl_cell hb c1
  have d2 := bl_cell hb c2
  have d3 := bl_cell hb c3
  have d4 := bl_cell hb c4
  have d5 := bl_cell hb c5
  have d6 := bl_cell hb c6
  have d7 := bl_cell hb c7
  have d8 := bl_cell hb c8
  have d9 := bl_cell hb c9
  have d10 := bl_cell hb c10
  have d11 := bl_cell hb c11
  have d12 := bl_cell hb c12
  have dR := res_bl hR hb
  have dQ := res_bl hQ hb
  have dB := bl_then hB hb
  have hlt1 := res_lt hR
  have fz := (dQ 3 (by omega)).1
  clear hR hQ hB hb hlg1 c0 c1 c2 c3 c4 c5 c6 c7 c8 c9 c10 c11 c12
  go_wp2_with fail
  have hown1' := own_far hown1 ⟨w.heap.size + 1, 3, none⟩ (.slice a1 n cp1) (own_above hown1 (by dsimp only; omega))
  refine (HAV.out _ _ _ (own_at hown1')).mono ?_
  rintro e w3 ⟨⟨v2, m2, rfl, hown2⟩, hb⟩
  obtain ⟨a2, cp2, rfl, hlog2⟩ := own_log hown2
  have c0 := bl_cell hb (far_set d0 ⟨w.heap.size + 1, 3, none⟩ (.slice a1 n cp1) (by dsimp only; omega))
  have c1 := bl_cell hb (far_set d1 ⟨w.heap.size + 1, 3, none⟩ (.slice a1 n cp1) (by dsimp only; omega))
  have c2 := bl_cell hb (far_set d2 ⟨w.heap.size + 1, 3, none⟩ (.slice a1 n cp1) (by dsimp only; omega))
  have c3 := bl_cell hb (far_set d3 ⟨w.heap.size + 1, 3, none⟩ (.slice a1 n cp1) (by dsimp only; omega))
  have c4 := bl_cell hb (far_set d4 ⟨w.heap.size + 1, 3, none⟩ (.slice a1 n cp1) (by dsimp only; omega))
  have c5 := bl_cell hb (far_set d5 ⟨w.heap.size + 1, 3, none⟩ (.slice a1 n cp1) (by dsimp only; omega))
  have c6 := bl_cell hb (set_other (a := ⟨w.heap.size + 1, 3, none⟩) d6 (.slice a1 n cp1) (by simp))
  have c7 := bl_cell hb (set_other (a := ⟨w.heap.size + 1, 3, none⟩) d7 (.slice a1 n cp1) (by simp))
  have c8 := bl_cell hb (set_other (a := ⟨w.heap.size + 1, 3, none⟩) d8 (.slice a1 n cp1) (by simp))
  have c9 : w3.cell? ⟨w.heap.size + 1, 3, none⟩ = some (.slice a1 n cp1) := bl_cell hb (World.cell?_setCell_same' _ _ _ (by rw [d9]; rfl))
  have c10 := bl_cell hb (far_set d10 ⟨w.heap.size + 1, 3, none⟩ (.slice a1 n cp1) (by dsimp only; omega))
  have c11 := bl_cell hb (far_set d11 ⟨w.heap.size + 1, 3, none⟩ (.slice a1 n cp1) (by dsimp only; omega))
  have c12 := bl_cell hb (far_set d12 ⟨w.heap.size + 1, 3, none⟩ (.slice a1 n cp1) (by dsimp only; omega))
  have hR := res_bl (res_set dR ⟨w.heap.size + 1, 3, none⟩ (.slice a1 n cp1)) hb
  have hB := bl_then (bl_set dB (a := ⟨w.heap.size + 1, 3, none⟩) (by dsimp only; omega) (.slice a1 n cp1)) hb
  have hO1 := own_bl hown1' hb
  have hlt2 := res_lt (res_set dR ⟨w.heap.size + 1, 3, none⟩ (.slice a1 n cp1))
  have hle3 := hb.size
  have HV2 := Go.Lib.hid (World.ownsRow.lt hown2)
  have hle1 := hlt1
  generalize (w2.setCell ⟨w.heap.size + 1, 3, none⟩ (.slice a1 n cp1)).heap.size = base2 at *
  clear hb dR dQ dB hown1 hown1' hlog1 hlog2 HAV d0 d1 d2 d3 d4 d5 d6 d7 d8 d9 d10 d11 d12
  dsimp only
  go_wp2_with fail
  refine wp_abs (S0 := fun X => X.cell? ⟨w.heap.size, 0, none⟩ = some (.int .i64 k) ∧ X.cell? ⟨w.heap.size, 1, none⟩ = some (.int .i64 l) ∧ X.cell? ⟨w.heap.size, 2, none⟩ = some (.int .i64 d) ∧ X.cell? ⟨w.heap.size, 3, none⟩ = some (.int .i64 b) ∧ X.cell? ⟨w.heap.size, 4, none⟩ = some (.int .i64 cc) ∧ X.cell? ⟨w.heap.size, 5, none⟩ = some (.bool o) ∧ X.cell? ⟨w.heap.size + 1, 0, none⟩ = some (.int .i64 at_) ∧ X.cell? ⟨w.heap.size + 1, 1, none⟩ = some (.int .i64 0) ∧ X.cell? ⟨w.heap.size + 1, 2, none⟩ = some (.int .i64 ahd) ∧ X.cell? ⟨w.heap.size + 1, 3, none⟩ = some (.slice a1 n cp1) ∧ X.cell? ⟨w.heap.size + 1 + 1, 0, none⟩ = some (.int .i64 4) ∧ X.cell? ⟨w.heap.size + 1 + 1, 1, none⟩ = some (.int .i64 anow) ∧ X.cell? ⟨w.heap.size + 1 + 1, 2, none⟩ = some (.int .i64 acost) ∧ X.cell? ⟨w3.heap.size, 0, none⟩ = some (.int .i64 aat) ∧ X.cell? ⟨w3.heap.size, 1, none⟩ = some (.int .i64 0) ∧ X.cell? ⟨w3.heap.size, 2, none⟩ = some (.int .i64 ahd) ∧ X.cell? ⟨w3.heap.size, 3, none⟩ = some (.slice a2 m2 cp2) ∧ ResB X (w.heap.size + 1 + 1 + 1) ∧ ResB X w3.heap.size ∧ OwnLog X w1.heap.size (.slice a1 n cp1) n L ∧ OwnLog X base2 (.slice a2 m2 cp2) m2 L2 ∧ Below w.heap.size w X) ⟨bl_cell (bl_alloc (bl_refl _) _) c0, bl_cell (bl_alloc (bl_refl _) _) c1, bl_cell (bl_alloc (bl_refl _) _) c2, bl_cell (bl_alloc (bl_refl _) _) c3, bl_cell (bl_alloc (bl_refl _) _) c4, bl_cell (bl_alloc (bl_refl _) _) c5, bl_cell (bl_alloc (bl_refl _) _) c6, bl_cell (bl_alloc (bl_refl _) _) c7, bl_cell (bl_alloc (bl_refl _) _) c8, bl_cell (bl_alloc (bl_refl _) _) c9, bl_cell (bl_alloc (bl_refl _) _) c10, bl_cell (bl_alloc (bl_refl _) _) c11, bl_cell (bl_alloc (bl_refl _) _) c12, by go_simp, by go_simp, by go_simp, by go_simp, res_bl hR (bl_alloc (bl_refl _) _), res_new _ _ _ _ _ _ rfl, World.ownsRow.alloc hO1 _, World.ownsRow.alloc hown2 _, bl_alloc hB _⟩ ?_
  clear hR hO1 hown2 hB c0 c1 c2 c3 c4 c5 c6 c7 c8 c9 c10 c11 c12
  generalize w3.heap.size = nb at *
  rintro X ⟨c0, c1, c2, c3, c4, c5, c6, c7, c8, c9, c10, c11, c12, x0, x1, x2, x3, hR, hN, hO1, hO2, hB⟩
  refine wp_region_held_drew (S := fun w' => w'.cell? ⟨w.heap.size, 0, none⟩ = some (.int .i64 k) ∧ w'.cell? ⟨w.heap.size, 1, none⟩ = some (.int .i64 l) ∧ w'.cell? ⟨w.heap.size, 2, none⟩ = some (.int .i64 d) ∧ w'.cell? ⟨w.heap.size, 3, none⟩ = some (.int .i64 b) ∧ w'.cell? ⟨w.heap.size, 4, none⟩ = some (.int .i64 cc) ∧ w'.cell? ⟨w.heap.size, 5, none⟩ = some (.bool o) ∧ w'.cell? ⟨w.heap.size + 1, 0, none⟩ = some (.int .i64 at_) ∧ w'.cell? ⟨w.heap.size + 1, 1, none⟩ = some (.int .i64 0) ∧ w'.cell? ⟨w.heap.size + 1, 2, none⟩ = some (.int .i64 ahd) ∧ w'.cell? ⟨w.heap.size + 1, 3, none⟩ = some (.slice a1 n cp1) ∧ w'.cell? ⟨w.heap.size + 1 + 1, 0, none⟩ = some (.int .i64 4) ∧ w'.cell? ⟨w.heap.size + 1 + 1, 1, none⟩ = some (.int .i64 anow) ∧ w'.cell? ⟨w.heap.size + 1 + 1, 2, none⟩ = some (.int .i64 acost) ∧ w'.cell? ⟨nb, 0, none⟩ = some (.int .i64 aat) ∧ w'.cell? ⟨nb, 1, none⟩ = some (.int .i64 0) ∧ w'.cell? ⟨nb, 2, none⟩ = some (.int .i64 ahd) ∧ w'.cell? ⟨nb, 3, none⟩ = some (.slice a2 m2 cp2) ∧ ResB w' (w.heap.size + 1 + 1 + 1) ∧ ResB w' nb ∧ OwnLog w' w1.heap.size (.slice a1 n cp1) n L ∧ OwnLog w' base2 (.slice a2 m2 cp2) m2 L2 ∧ Below w.heap.size w w') (by kernel_rfl) ?_ (fun hHeld => ?_)
  · exact ⟨c0, c1, c2, c3, c4, c5, c6, c7, c8, c9, c10, c11, c12, x0, x1, x2, x3, hR, hN, hO1, hO2, bl_drew hB⟩
  try simp only [Act.put, List.setIfInBounds_toArray, List.set_cons_zero, List.set_cons_succ]
  (refine tk (i := 0) rfl rfl hHeld ?_)
  (refine tk (i := 1) rfl rfl hHeld ?_)
  (refine tk (i := 2) rfl rfl hHeld ?_)
  (refine tk (i := 3) rfl rfl hHeld ?_)
  (refine tk (i := 4) rfl rfl hHeld ?_)
  (refine tk (i := 5) rfl rfl hHeld ?_)
  (refine tk (i := 6) rfl rfl hHeld ?_)
  (refine callH (i := 7) rfl hHeld (fun W hW K hK => ?_); clear hHeld; (try dsimp only at hW); obtain ⟨h0, h1, h2, h3, h4, h5, h6, h7, h8, h9, h10, h11, h12, y0, y1, y2, y3, hr', hn', ho1', ho2', hB'⟩ := hW; go_simp; refine (HSM.out _ _ _ _ (own_at ho2')).mono ?_; rintro e w9 ⟨rfl, hb⟩; go_wp2_with fail; refine hK.out _ _ ?_ (fun hHeld => ?_); (focus ((try dsimp only); exact ⟨bl_cell hb h0, bl_cell hb h1, bl_cell hb h2, bl_cell hb h3, bl_cell hb h4, bl_cell hb h5, bl_cell hb h6, bl_cell hb h7, bl_cell hb h8, bl_cell hb h9, bl_cell hb h10, bl_cell hb h11, bl_cell hb h12, bl_cell hb y0, bl_cell hb y1, bl_cell hb y2, bl_cell hb y3, res_bl hr' hb, res_bl hn' hb, own_bl ho1' hb, own_bl ho2' hb, bl_then hB' hb⟩)); clear hK K; try simp only [Act.put, List.setIfInBounds_toArray, List.set_cons_zero, List.set_cons_succ])
  (refine tk (i := 8) rfl rfl hHeld ?_)
  (refine tk (i := 9) rfl rfl hHeld ?_)
  refine wpAnyH_done (by kernel_rfl) ?_ _
  refine then_abs (F := fun X => X.cell? ⟨w.heap.size, 0, none⟩ = some (.int .i64 k) ∧ X.cell? ⟨w.heap.size, 1, none⟩ = some (.int .i64 l) ∧ X.cell? ⟨w.heap.size, 2, none⟩ = some (.int .i64 d) ∧ X.cell? ⟨w.heap.size, 3, none⟩ = some (.int .i64 b) ∧ X.cell? ⟨w.heap.size, 4, none⟩ = some (.int .i64 cc) ∧ X.cell? ⟨w.heap.size, 5, none⟩ = some (.bool o) ∧ X.cell? ⟨w.heap.size + 1, 0, none⟩ = some (.int .i64 at_) ∧ X.cell? ⟨w.heap.size + 1, 1, none⟩ = some (.int .i64 0) ∧ X.cell? ⟨w.heap.size + 1, 2, none⟩ = some (.int .i64 ahd) ∧ X.cell? ⟨w.heap.size + 1, 3, none⟩ = some (.slice a1 n cp1) ∧ X.cell? ⟨w.heap.size + 1 + 1, 0, none⟩ = some (.int .i64 4) ∧ X.cell? ⟨w.heap.size + 1 + 1, 1, none⟩ = some (.int .i64 anow) ∧ X.cell? ⟨w.heap.size + 1 + 1, 2, none⟩ = some (.int .i64 acost) ∧ X.cell? ⟨nb, 0, none⟩ = some (.int .i64 aat) ∧ X.cell? ⟨nb, 1, none⟩ = some (.int .i64 0) ∧ X.cell? ⟨nb, 2, none⟩ = some (.int .i64 ahd) ∧ X.cell? ⟨nb, 3, none⟩ = some (.slice a2 m2 cp2) ∧ ResB X (w.heap.size + 1 + 1 + 1) ∧ ResB X nb ∧ OwnLog X w1.heap.size (.slice a1 n cp1) n L ∧ OwnLog X base2 (.slice a2 m2 cp2) m2 L2 ∧ Below w.heap.size w X) hHeld ?_
  clear hHeld hR hN hO1 hO2 hB c0 c1 c2 c3 c4 c5 c6 c7 c8 c9 c10 c11 c12 x0 x1 x2 x3
  rintro Y ⟨c0, c1, c2, c3, c4, c5, c6, c7, c8, c9, c10, c11, c12, x0, x1, x2, x3, hR, hN, hO1, hO2, hE⟩
  obtain ⟨F0, F1, F2, F3, U0, U1, U2, U3, I0, I1, I2, I3⟩ := res_all hR
  have hz2 := (hN 2 (by omega)).1
  have n0 : ¬ nb = w.heap.size := by omega
  have m0' : ¬ w.heap.size = nb := by omega
  have n1 : ¬ nb = w.heap.size + 1 := by omega
  have m1' : ¬ w.heap.size + 1 = nb := by omega
  have n2 : ¬ nb = w.heap.size + 1 + 1 := by omega
  have m2' : ¬ w.heap.size + 1 + 1 = nb := by omega
  have n3 : ¬ nb = w.heap.size + 1 + 1 + 1 := by omega
  have m3' : ¬ w.heap.size + 1 + 1 + 1 = nb := by omega
  repeat' (first | go_skip | go_guarded | go_step | go_upon)
  (try simp only [Exit.inBlock, Exit.then])
  refine bodyPost_ret (results_state2 rfl _ _ (by rfl) (set4r hR)) rfl ⟨⟨_, _, by first | rfl | simp, own_mono (own_far4 hO1 (own_above hO1 (by omega))) (by omega)⟩, bl4 hE (by omega)⟩

set_option maxHeartbeats 2000000 in
set_option maxRecDepth 100000 in
theorem wdo_kind (p : Pol) (s : St) (a : Option Addr) (n c : Nat) (anow acost : Int) (ak : Int) (A : St) (w : World) (h : rightL p s) (hlog : LogAt w a n c s.log) (hA : A = advL p s anow) (e1 : 1 ≤ acost) (k1 : ¬ ak = 1) (k2 : ¬ ak = 2) (k3 : ¬ ak = 3) (k4 : ¬ ak = 4) :
    Calls Try.prog 21 #[p.v, s.v a n c, .agg #[.int .i64 ak, .int .i64 anow, .int .i64 acost]] w fun e w' => StOwn2 (s, false) w.heap.size e w' ∧ Below w.heap.size w w' := by
  have hrt := fun W hW => wright_any p s a n c W hW
  rw [decide_eq_true h] at hrt
  have hav := fun a1 c1 W hW => wadv_any p s a1 n c1 anow W hW
  have hall := risen_all h.2.2.2.2.2.2.1
  have hsub := live_sub p.period (up s.at_ (clampT anow)) s.log
  have hssum := live_sum p.period (up s.at_ (clampT anow)) s.log (fun e he => by have := (hall e he).1; omega)
  have hAe : A.log = live p.period (up s.at_ (clampT anow)) s.log ∧ A.level = 0 ∧ A.held = s.held := by rw [hA]; unfold advL; rw [if_pos h]; exact ⟨rfl, rfl, rfl⟩
  rw [← hA] at hav
  rw [← hAe.1] at hsub hssum
  obtain ⟨⟨q0, q1, q2, q3, q4, q5, q6, q7⟩, r1, r2, r3, r4, r5, r6, r7, r8⟩ := h
  have hlen := hlog.1
  have hsb := sumL_bound A.log 1048576 (fun e he => by have := hall e (hsub.1 e he); omega)
  have hn1 : n ≤ 100 := by omega
  have hent : ∀ e ∈ A.log, 0 ≤ e.2 ∧ e.2 ≤ 1048576 := fun e he => by have := hall e (hsub.1 e he); omega
  have hw1 : IntKind.i64.wrap (p.limit - s.held) = p.limit - s.held := IntWalk.i64_in _ (by omega)
  have hw2 : IntKind.i64.wrap (p.limit - s.held - sumL A.log) = p.limit - s.held - sumL A.log := IntWalk.i64_in _ (by omega)
  have hsum := fun a2 m2 c2 W (hW : LogAt W a2 m2 c2 A.log) => sum_any a2 m2 c2 A.log W hW (by have := hW.1; have := hsub.2; omega) hent
  have HX := Go.Lib.hid (And.intro hn1 (And.intro hent (And.intro hsub.2 hlen)))
  clear hall hsb hsub hssum hent hA r1 r2 r3 r4 r6 r7 r8 q0 q1 q2 q3 q4 q5 q6 q7
  obtain ⟨k, l, d, b, cc, o⟩ := p
  obtain ⟨at_, level, held, L⟩ := s
  obtain ⟨aat, alv, ahd, L2⟩ := A
  obtain ⟨-, hz1, hz2⟩ := hAe
  unfold St.v Pol.v at *
  dsimp only at *
  subst hz1 hz2 r5
  have HRT := Go.Lib.hid hrt
  have HAV := Go.Lib.hid hav
  have HSM := Go.Lib.hid hsum
  have HLOG := Go.Lib.hid hlog
  clear hrt hav hsum hlog hlen hn1
  generalize hS2 : sumL L2 = S2 at *
  clear hS2
  go_enter Try.func21, Try.ntmps21
  go_wp2_with fail
  refine (HRT.out _ (log_bl HLOG.out (bl_alloc (bl_alloc (bl_alloc (bl_alloc (bl_refl _) _) _) _) _))).mono ?_
  rintro e w1 ⟨rfl, hb⟩
  have hB : Below w.heap.size w w1 := bl_then (bl_alloc (bl_alloc (bl_alloc (bl_alloc (bl_refl _) _) _) _) _) hb
  have c0 := bl_cell (v := .int .i64 k) hb (show World.cell? _ ⟨w.heap.size, 0, none⟩ = _ by go_simp)
  have c1 := bl_cell (v := .int .i64 l) hb (show World.cell? _ ⟨w.heap.size, 1, none⟩ = _ by go_simp)
  have c2 := bl_cell (v := .int .i64 d) hb (show World.cell? _ ⟨w.heap.size, 2, none⟩ = _ by go_simp)
  have c3 := bl_cell (v := .int .i64 b) hb (show World.cell? _ ⟨w.heap.size, 3, none⟩ = _ by go_simp)
  have c4 := bl_cell (v := .int .i64 cc) hb (show World.cell? _ ⟨w.heap.size, 4, none⟩ = _ by go_simp)
  have c5 := bl_cell (v := .bool o) hb (show World.cell? _ ⟨w.heap.size, 5, none⟩ = _ by go_simp)
  have c6 := bl_cell (v := .int .i64 at_) hb (show World.cell? _ ⟨w.heap.size + 1, 0, none⟩ = _ by go_simp)
  have c7 := bl_cell (v := .int .i64 0) hb (show World.cell? _ ⟨w.heap.size + 1, 1, none⟩ = _ by go_simp)
  have c8 := bl_cell (v := .int .i64 ahd) hb (show World.cell? _ ⟨w.heap.size + 1, 2, none⟩ = _ by go_simp)
  have c9 := bl_cell (v := .slice a n c) hb (show World.cell? _ ⟨w.heap.size + 1, 3, none⟩ = _ by go_simp)
  have c10 := bl_cell (v := .int .i64 ak) hb (show World.cell? _ ⟨w.heap.size + 1 + 1, 0, none⟩ = _ by go_simp)
  have c11 := bl_cell (v := .int .i64 anow) hb (show World.cell? _ ⟨w.heap.size + 1 + 1, 1, none⟩ = _ by go_simp)
  have c12 := bl_cell (v := .int .i64 acost) hb (show World.cell? _ ⟨w.heap.size + 1 + 1, 2, none⟩ = _ by go_simp)
  have hR : ResB w1 (w.heap.size + 1 + 1 + 1) := res_bl (res_new _ _ _ _ _ _ (by simp)) hb
  have hQ : ResB w1 (w.heap.size + 1) := res_bl (res_bl (res_new (w.alloc _) _ _ _ _ _ (by simp)) (bl_alloc (bl_alloc (bl_refl _) _) _)) hb
  have hlg1 := log_bl HLOG.out hB
  clear hb HRT HLOG
  go_wp2_with fail
  refine (clone_all _ _ _ _ _ hlg1 (by have := HX.out.1; omega)).mono ?_
  rintro e w2 ⟨v1, rfl, hown1, hb⟩
  obtain ⟨a1, cp1, rfl, hlog1⟩ := own_log hown1
  have d0 := bl_cell hb c0
  have d1 := bl_cell hb c1
  have d2 := bl_cell hb c2
  have d3 := bl_cell hb c3
  have d4 := bl_cell hb c4
  have d5 := bl_cell hb c5
  have d6 := bl_cell hb c6
  have d7 := bl_cell hb c7
  have d8 := bl_cell hb c8
  have d9 := bl_cell hb c9
  have d10 := bl_cell hb c10
  have d11 := bl_cell hb c11
  have d12 := bl_cell hb c12
  have dR := res_bl hR hb
  have dQ := res_bl hQ hb
  have dB := bl_then hB hb
  have hlt1 := res_lt hR
  have fz := (dQ 3 (by omega)).1
  clear hR hQ hB hb hlg1 c0 c1 c2 c3 c4 c5 c6 c7 c8 c9 c10 c11 c12
  go_wp2_with fail
  have hown1' := own_far hown1 ⟨w.heap.size + 1, 3, none⟩ (.slice a1 n cp1) (own_above hown1 (by dsimp only; omega))
  refine (HAV.out _ _ _ (own_at hown1')).mono ?_
  rintro e w3 ⟨⟨v2, m2, rfl, hown2⟩, hb⟩
  obtain ⟨a2, cp2, rfl, hlog2⟩ := own_log hown2
  have c0 := bl_cell hb (far_set d0 ⟨w.heap.size + 1, 3, none⟩ (.slice a1 n cp1) (by dsimp only; omega))
  have c1 := bl_cell hb (far_set d1 ⟨w.heap.size + 1, 3, none⟩ (.slice a1 n cp1) (by dsimp only; omega))
  have c2 := bl_cell hb (far_set d2 ⟨w.heap.size + 1, 3, none⟩ (.slice a1 n cp1) (by dsimp only; omega))
  have c3 := bl_cell hb (far_set d3 ⟨w.heap.size + 1, 3, none⟩ (.slice a1 n cp1) (by dsimp only; omega))
  have c4 := bl_cell hb (far_set d4 ⟨w.heap.size + 1, 3, none⟩ (.slice a1 n cp1) (by dsimp only; omega))
  have c5 := bl_cell hb (far_set d5 ⟨w.heap.size + 1, 3, none⟩ (.slice a1 n cp1) (by dsimp only; omega))
  have c6 := bl_cell hb (set_other (a := ⟨w.heap.size + 1, 3, none⟩) d6 (.slice a1 n cp1) (by simp))
  have c7 := bl_cell hb (set_other (a := ⟨w.heap.size + 1, 3, none⟩) d7 (.slice a1 n cp1) (by simp))
  have c8 := bl_cell hb (set_other (a := ⟨w.heap.size + 1, 3, none⟩) d8 (.slice a1 n cp1) (by simp))
  have c9 : w3.cell? ⟨w.heap.size + 1, 3, none⟩ = some (.slice a1 n cp1) := bl_cell hb (World.cell?_setCell_same' _ _ _ (by rw [d9]; rfl))
  have c10 := bl_cell hb (far_set d10 ⟨w.heap.size + 1, 3, none⟩ (.slice a1 n cp1) (by dsimp only; omega))
  have c11 := bl_cell hb (far_set d11 ⟨w.heap.size + 1, 3, none⟩ (.slice a1 n cp1) (by dsimp only; omega))
  have c12 := bl_cell hb (far_set d12 ⟨w.heap.size + 1, 3, none⟩ (.slice a1 n cp1) (by dsimp only; omega))
  have hR := res_bl (res_set dR ⟨w.heap.size + 1, 3, none⟩ (.slice a1 n cp1)) hb
  have hB := bl_then (bl_set dB (a := ⟨w.heap.size + 1, 3, none⟩) (by dsimp only; omega) (.slice a1 n cp1)) hb
  have hO1 := own_bl hown1' hb
  have hlt2 := res_lt (res_set dR ⟨w.heap.size + 1, 3, none⟩ (.slice a1 n cp1))
  have hle3 := hb.size
  have HV2 := Go.Lib.hid (World.ownsRow.lt hown2)
  have hle1 := hlt1
  generalize (w2.setCell ⟨w.heap.size + 1, 3, none⟩ (.slice a1 n cp1)).heap.size = base2 at *
  clear hb dR dQ dB hown1 hown1' hlog1 hlog2 HAV d0 d1 d2 d3 d4 d5 d6 d7 d8 d9 d10 d11 d12
  dsimp only
  go_wp2_with fail
  refine wp_abs (S0 := fun X => X.cell? ⟨w.heap.size, 0, none⟩ = some (.int .i64 k) ∧ X.cell? ⟨w.heap.size, 1, none⟩ = some (.int .i64 l) ∧ X.cell? ⟨w.heap.size, 2, none⟩ = some (.int .i64 d) ∧ X.cell? ⟨w.heap.size, 3, none⟩ = some (.int .i64 b) ∧ X.cell? ⟨w.heap.size, 4, none⟩ = some (.int .i64 cc) ∧ X.cell? ⟨w.heap.size, 5, none⟩ = some (.bool o) ∧ X.cell? ⟨w.heap.size + 1, 0, none⟩ = some (.int .i64 at_) ∧ X.cell? ⟨w.heap.size + 1, 1, none⟩ = some (.int .i64 0) ∧ X.cell? ⟨w.heap.size + 1, 2, none⟩ = some (.int .i64 ahd) ∧ X.cell? ⟨w.heap.size + 1, 3, none⟩ = some (.slice a1 n cp1) ∧ X.cell? ⟨w.heap.size + 1 + 1, 0, none⟩ = some (.int .i64 ak) ∧ X.cell? ⟨w.heap.size + 1 + 1, 1, none⟩ = some (.int .i64 anow) ∧ X.cell? ⟨w.heap.size + 1 + 1, 2, none⟩ = some (.int .i64 acost) ∧ X.cell? ⟨w3.heap.size, 0, none⟩ = some (.int .i64 aat) ∧ X.cell? ⟨w3.heap.size, 1, none⟩ = some (.int .i64 0) ∧ X.cell? ⟨w3.heap.size, 2, none⟩ = some (.int .i64 ahd) ∧ X.cell? ⟨w3.heap.size, 3, none⟩ = some (.slice a2 m2 cp2) ∧ ResB X (w.heap.size + 1 + 1 + 1) ∧ ResB X w3.heap.size ∧ OwnLog X w1.heap.size (.slice a1 n cp1) n L ∧ OwnLog X base2 (.slice a2 m2 cp2) m2 L2 ∧ Below w.heap.size w X) ⟨bl_cell (bl_alloc (bl_refl _) _) c0, bl_cell (bl_alloc (bl_refl _) _) c1, bl_cell (bl_alloc (bl_refl _) _) c2, bl_cell (bl_alloc (bl_refl _) _) c3, bl_cell (bl_alloc (bl_refl _) _) c4, bl_cell (bl_alloc (bl_refl _) _) c5, bl_cell (bl_alloc (bl_refl _) _) c6, bl_cell (bl_alloc (bl_refl _) _) c7, bl_cell (bl_alloc (bl_refl _) _) c8, bl_cell (bl_alloc (bl_refl _) _) c9, bl_cell (bl_alloc (bl_refl _) _) c10, bl_cell (bl_alloc (bl_refl _) _) c11, bl_cell (bl_alloc (bl_refl _) _) c12, by go_simp, by go_simp, by go_simp, by go_simp, res_bl hR (bl_alloc (bl_refl _) _), res_new _ _ _ _ _ _ rfl, World.ownsRow.alloc hO1 _, World.ownsRow.alloc hown2 _, bl_alloc hB _⟩ ?_
  clear hR hO1 hown2 hB c0 c1 c2 c3 c4 c5 c6 c7 c8 c9 c10 c11 c12
  generalize w3.heap.size = nb at *
  rintro X ⟨c0, c1, c2, c3, c4, c5, c6, c7, c8, c9, c10, c11, c12, x0, x1, x2, x3, hR, hN, hO1, hO2, hB⟩
  refine wp_region_held_drew (S := fun w' => w'.cell? ⟨w.heap.size, 0, none⟩ = some (.int .i64 k) ∧ w'.cell? ⟨w.heap.size, 1, none⟩ = some (.int .i64 l) ∧ w'.cell? ⟨w.heap.size, 2, none⟩ = some (.int .i64 d) ∧ w'.cell? ⟨w.heap.size, 3, none⟩ = some (.int .i64 b) ∧ w'.cell? ⟨w.heap.size, 4, none⟩ = some (.int .i64 cc) ∧ w'.cell? ⟨w.heap.size, 5, none⟩ = some (.bool o) ∧ w'.cell? ⟨w.heap.size + 1, 0, none⟩ = some (.int .i64 at_) ∧ w'.cell? ⟨w.heap.size + 1, 1, none⟩ = some (.int .i64 0) ∧ w'.cell? ⟨w.heap.size + 1, 2, none⟩ = some (.int .i64 ahd) ∧ w'.cell? ⟨w.heap.size + 1, 3, none⟩ = some (.slice a1 n cp1) ∧ w'.cell? ⟨w.heap.size + 1 + 1, 0, none⟩ = some (.int .i64 ak) ∧ w'.cell? ⟨w.heap.size + 1 + 1, 1, none⟩ = some (.int .i64 anow) ∧ w'.cell? ⟨w.heap.size + 1 + 1, 2, none⟩ = some (.int .i64 acost) ∧ w'.cell? ⟨nb, 0, none⟩ = some (.int .i64 aat) ∧ w'.cell? ⟨nb, 1, none⟩ = some (.int .i64 0) ∧ w'.cell? ⟨nb, 2, none⟩ = some (.int .i64 ahd) ∧ w'.cell? ⟨nb, 3, none⟩ = some (.slice a2 m2 cp2) ∧ ResB w' (w.heap.size + 1 + 1 + 1) ∧ ResB w' nb ∧ OwnLog w' w1.heap.size (.slice a1 n cp1) n L ∧ OwnLog w' base2 (.slice a2 m2 cp2) m2 L2 ∧ Below w.heap.size w w') (by kernel_rfl) ?_ (fun hHeld => ?_)
  · exact ⟨c0, c1, c2, c3, c4, c5, c6, c7, c8, c9, c10, c11, c12, x0, x1, x2, x3, hR, hN, hO1, hO2, bl_drew hB⟩
  try simp only [Act.put, List.setIfInBounds_toArray, List.set_cons_zero, List.set_cons_succ]
  (refine tk (i := 0) rfl rfl hHeld ?_)
  (refine tk (i := 1) rfl rfl hHeld ?_)
  (refine tk (i := 2) rfl rfl hHeld ?_)
  (refine tk (i := 3) rfl rfl hHeld ?_)
  (refine tk (i := 4) rfl rfl hHeld ?_)
  (refine tk (i := 5) rfl rfl hHeld ?_)
  (refine tk (i := 6) rfl rfl hHeld ?_)
  (refine callH (i := 7) rfl hHeld (fun W hW K hK => ?_); clear hHeld; (try dsimp only at hW); obtain ⟨h0, h1, h2, h3, h4, h5, h6, h7, h8, h9, h10, h11, h12, y0, y1, y2, y3, hr', hn', ho1', ho2', hB'⟩ := hW; go_simp; refine (HSM.out _ _ _ _ (own_at ho2')).mono ?_; rintro e w9 ⟨rfl, hb⟩; go_wp2_with fail; refine hK.out _ _ ?_ (fun hHeld => ?_); (focus ((try dsimp only); exact ⟨bl_cell hb h0, bl_cell hb h1, bl_cell hb h2, bl_cell hb h3, bl_cell hb h4, bl_cell hb h5, bl_cell hb h6, bl_cell hb h7, bl_cell hb h8, bl_cell hb h9, bl_cell hb h10, bl_cell hb h11, bl_cell hb h12, bl_cell hb y0, bl_cell hb y1, bl_cell hb y2, bl_cell hb y3, res_bl hr' hb, res_bl hn' hb, own_bl ho1' hb, own_bl ho2' hb, bl_then hB' hb⟩)); clear hK K; try simp only [Act.put, List.setIfInBounds_toArray, List.set_cons_zero, List.set_cons_succ])
  (refine tk (i := 8) rfl rfl hHeld ?_)
  (refine tk (i := 9) rfl rfl hHeld ?_)
  refine wpAnyH_done (by kernel_rfl) ?_ _
  refine then_abs (F := fun X => X.cell? ⟨w.heap.size, 0, none⟩ = some (.int .i64 k) ∧ X.cell? ⟨w.heap.size, 1, none⟩ = some (.int .i64 l) ∧ X.cell? ⟨w.heap.size, 2, none⟩ = some (.int .i64 d) ∧ X.cell? ⟨w.heap.size, 3, none⟩ = some (.int .i64 b) ∧ X.cell? ⟨w.heap.size, 4, none⟩ = some (.int .i64 cc) ∧ X.cell? ⟨w.heap.size, 5, none⟩ = some (.bool o) ∧ X.cell? ⟨w.heap.size + 1, 0, none⟩ = some (.int .i64 at_) ∧ X.cell? ⟨w.heap.size + 1, 1, none⟩ = some (.int .i64 0) ∧ X.cell? ⟨w.heap.size + 1, 2, none⟩ = some (.int .i64 ahd) ∧ X.cell? ⟨w.heap.size + 1, 3, none⟩ = some (.slice a1 n cp1) ∧ X.cell? ⟨w.heap.size + 1 + 1, 0, none⟩ = some (.int .i64 ak) ∧ X.cell? ⟨w.heap.size + 1 + 1, 1, none⟩ = some (.int .i64 anow) ∧ X.cell? ⟨w.heap.size + 1 + 1, 2, none⟩ = some (.int .i64 acost) ∧ X.cell? ⟨nb, 0, none⟩ = some (.int .i64 aat) ∧ X.cell? ⟨nb, 1, none⟩ = some (.int .i64 0) ∧ X.cell? ⟨nb, 2, none⟩ = some (.int .i64 ahd) ∧ X.cell? ⟨nb, 3, none⟩ = some (.slice a2 m2 cp2) ∧ ResB X (w.heap.size + 1 + 1 + 1) ∧ ResB X nb ∧ OwnLog X w1.heap.size (.slice a1 n cp1) n L ∧ OwnLog X base2 (.slice a2 m2 cp2) m2 L2 ∧ Below w.heap.size w X) hHeld ?_
  clear hHeld hR hN hO1 hO2 hB c0 c1 c2 c3 c4 c5 c6 c7 c8 c9 c10 c11 c12 x0 x1 x2 x3
  rintro Y ⟨c0, c1, c2, c3, c4, c5, c6, c7, c8, c9, c10, c11, c12, x0, x1, x2, x3, hR, hN, hO1, hO2, hE⟩
  obtain ⟨F0, F1, F2, F3, U0, U1, U2, U3, I0, I1, I2, I3⟩ := res_all hR
  have hz2 := (hN 2 (by omega)).1
  have n0 : ¬ nb = w.heap.size := by omega
  have m0' : ¬ w.heap.size = nb := by omega
  have n1 : ¬ nb = w.heap.size + 1 := by omega
  have m1' : ¬ w.heap.size + 1 = nb := by omega
  have n2 : ¬ nb = w.heap.size + 1 + 1 := by omega
  have m2' : ¬ w.heap.size + 1 + 1 = nb := by omega
  have n3 : ¬ nb = w.heap.size + 1 + 1 + 1 := by omega
  have m3' : ¬ w.heap.size + 1 + 1 + 1 = nb := by omega
  repeat' (first | go_skip | go_guarded | go_step | go_upon)
  (try simp only [Exit.inBlock, Exit.then])
  refine bodyPost_ret (results_state2 rfl _ _ (by rfl) (set4r hR)) rfl ⟨⟨_, _, by first | rfl | simp, own_mono (own_far4 hO1 (own_above hO1 (by omega))) (by omega)⟩, bl4 hE (by omega)⟩

end Go.Proofs.Ythinbjknkjpdjaa

namespace Go.Proofs.Ythinbjknkjpdjaa
open Go.RowKit
set_option linter.unusedVariables false
set_option linter.unusedSimpArgs false

def Ac.v (a : Ac) : Value := .agg #[.int .i64 a.kind, .int .i64 a.now, .int .i64 a.cost]
/-- Where a log that is told comes from: it is empty, or that which was handed in, or a new one. -/
def Src (a0 : Option Addr) (n0 : Nat) (w : World) (a : Option Addr) (n : Nat) : Prop := n = 0 ∨ (a = a0 ∧ n = n0) ∨ ∀ ad, a = some ad → w.heap.size ≤ ad.block
/-- A state, and whether it was done. -/
def PostSB (a0 : Option Addr) (n0 : Nat) (r : St × Bool) (w : World) (e : Ending) (w' : World) : Prop := ∃ (a : Option Addr) (n c : Nat), e = .returned (.tuple #[r.1.v a n c, .bool r.2]) ∧ LogAt w' a n c r.1.log ∧ Src a0 n0 w a n ∧ Below w.heap.size w w'
/-- A state. -/
def PostS (a0 : Option Addr) (n0 : Nat) (s : St) (w : World) (e : Ending) (w' : World) : Prop := ∃ (a : Option Addr) (n c : Nat), e = .returned (s.v a n c) ∧ LogAt w' a n c s.log ∧ Src a0 n0 w a n ∧ Below w.heap.size w w'
theorem own_src {w w' : World} {a0 a : Option Addr} {n0 n c : Nat} {L : List (Int × Int)} (h : OwnLog w' w.heap.size (.slice a n c) n L) : Src a0 n0 w a n :=
  .inr (.inr (fun ad e => by subst e; exact (World.ownsRow.lt h _ rfl).1))
theorem sb_none {a0 : Option Addr} {n0 : Nat} {w w' : World} {e : Ending} (h : e = .returned (.tuple #[.agg #[.int .i64 0, .int .i64 0, .int .i64 0, .slice none 0 0], .bool false]) ∧ Below w.heap.size w w') : PostSB a0 n0 (St.none, false) w e w' :=
  ⟨none, 0, 0, h.1, log_nil _ _ _ (by omega), .inl rfl, h.2⟩
theorem sb_same {w w' : World} {e : Ending} {s : St} {a : Option Addr} {n c : Nat} (hl : LogAt w a n c s.log) (h : e = .returned (.tuple #[s.v a n c, .bool false]) ∧ Below w.heap.size w w') : PostSB a n (s, false) w e w' :=
  ⟨a, n, c, h.1, log_bl hl h.2, .inr (.inl ⟨rfl, rfl⟩), h.2⟩
theorem sb_own {a0 : Option Addr} {n0 : Nat} {w w' : World} {e : Ending} {r : St × Bool} (h : StOwn2 r w.heap.size e w' ∧ Below w.heap.size w w') : PostSB a0 n0 r w e w' := by
  obtain ⟨⟨v, m, he, ho⟩, hb⟩ := h
  obtain ⟨a, c, rfl, hl⟩ := own_log ho
  exact ⟨a, m, c, he, hl, own_src ho, hb⟩
theorem s_own {a0 : Option Addr} {n0 : Nat} {w w' : World} {e : Ending} {s : St} (h : StOwn s w.heap.size e w' ∧ Below w.heap.size w w') : PostS a0 n0 s w e w' := by
  obtain ⟨⟨v, m, he, ho⟩, hb⟩ := h
  obtain ⟨a, c, rfl, hl⟩ := own_log ho
  exact ⟨a, m, c, he, hl, own_src ho, hb⟩
theorem s_none {a0 : Option Addr} {n0 : Nat} {w w' : World} {e : Ending} {s : St} (hs : s.log = []) (h : e = .returned (s.v none 0 0) ∧ Below w.heap.size w w') : PostS a0 n0 s w e w' :=
  ⟨none, 0, 0, h.1, by rw [hs]; exact log_nil _ _ _ (by omega), .inl rfl, h.2⟩

theorem bdo_all (p : Pol) (s : St) (a : Option Addr) (n c : Nat) (x : Ac) (w : World) (hl : LogAt w a n c s.log) : Calls Try.prog 17 #[p.v, s.v a n c, x.v] w (PostSB a n (doB p s x) w) := by
  obtain ⟨k, nw, co⟩ := x
  unfold Ac.v doB
  dsimp only
  by_cases h : rightB p s
  · rw [if_pos h]
    have hn0 : n = 0 := by rw [← hl.1, h.2.2.2.2.2.2.2]; rfl
    by_cases hk : k = 1 ∨ k = 2 ∨ k = 3 ∨ k = 4
    · by_cases h1 : co < 1
      · rw [if_pos (.inl h1)]
        exact (bdo_less p s a n c hl.1 k nw co w h hk h1).mono fun e w' hh => sb_same hl hh
      · by_cases h2 : p.burst < co
        · rw [if_pos (.inr (.inl h2))]
          exact (bdo_more p s a n c hl.1 k nw co w h hk h1 h2).mono fun e w' hh => sb_same hl hh
        · subst hn0
          have key : ∀ kk : Int, Calls Try.prog 17 #[p.v, s.v a 0 c, .agg #[.int .i64 kk, .int .i64 nw, .int .i64 co]] w (fun e w' =>
              e = .returned (.tuple #[if (actB p (advB p s nw) ⟨kk, nw, co⟩).2 then (actB p (advB p s nw) ⟨kk, nw, co⟩).1.v none 0 0 else s.v a 0 c, .bool (actB p (advB p s nw) ⟨kk, nw, co⟩).2]) ∧ Below w.heap.size w w') →
              Calls Try.prog 17 #[p.v, s.v a 0 c, .agg #[.int .i64 kk, .int .i64 nw, .int .i64 co]] w (PostSB a 0 (if co < 1 ∨ p.burst < co ∨ (actB p (advB p s nw) ⟨kk, nw, co⟩).2 = false then (s, false) else actB p (advB p s nw) ⟨kk, nw, co⟩) w) := fun kk hc => by
            refine hc.mono fun e w' hh => ?_
            cases hg : (actB p (advB p s nw) ⟨kk, nw, co⟩).2
            · rw [if_pos (.inr (.inr rfl))]
              rw [hg] at hh
              exact sb_same hl hh
            · rw [if_neg (by rintro (z | z | z); exact h1 z; exact h2 z; cases z)]
              rw [hg] at hh
              refine ⟨none, 0, 0, ?_, ?_, .inl rfl, hh.2⟩
              · rw [hh.1, hg]; rfl
              · have e1 : (actB p (advB p s nw) ⟨kk, nw, co⟩).1.log = [] := by
                  have e2 : (advB p s nw).log = [] := by unfold advB; rw [if_pos h]
                  unfold actB
                  repeat' split
                  all_goals exact e2
                rw [e1]
                exact log_nil _ _ _ (by omega)
          rcases hk with rfl | rfl | rfl | rfl
          · exact key 1 (bdo_1 p s a c nw co w h (by omega) (by omega))
          · exact key 2 (bdo_2 p s a c nw co w h (by omega) (by omega))
          · exact key 3 (bdo_3 p s a c nw co w h (by omega) (by omega))
          · exact key 4 (bdo_4 p s a c nw co w h (by omega) (by omega))
    · have e1 : (actB p (advB p s nw) ⟨k, nw, co⟩).2 = false := by
        unfold actB
        dsimp only
        rw [if_neg (fun z => hk (.inl z)), if_neg (fun z => hk (.inr (.inl z))), if_neg (fun z => hk (.inr (.inr (.inl z)))), if_neg (fun z => hk (.inr (.inr (.inr z))))]
      rw [if_pos (.inr (.inr e1))]
      exact (bdo_kind p s a n c hl.1 k nw co w h hk).mono fun e w' hh => sb_same hl hh
  · rw [if_neg h]
    exact (bdo_no p s a n c hl.1 k nw co w h).mono fun e w' hh => sb_none hh
end Go.Proofs.Ythinbjknkjpdjaa

namespace Go.Proofs.Ythinbjknkjpdjaa
open Go.RowKit
set_option linter.unusedVariables false
set_option linter.unusedSimpArgs false

theorem gdo_all (p : Pol) (s : St) (a : Option Addr) (n c : Nat) (x : Ac) (w : World) (hl : LogAt w a n c s.log) : Calls Try.prog 19 #[p.v, s.v a n c, x.v] w (PostSB a n (doG p s x) w) := by
  obtain ⟨k, nw, co⟩ := x
  unfold Ac.v doG
  dsimp only
  by_cases h : rightG p s
  · rw [if_pos h]
    have hn0 : n = 0 := by rw [← hl.1, h.2.2.2.2.2.2.2]; rfl
    by_cases hc : 1 ≤ co ∧ co ≤ p.burst
    · subst hn0
      have hlog : (advG p s nw).log = [] := by unfold advG; rw [if_pos h]
      have key : ∀ (kk : Int) (bad : Bool), (1 ≤ kk ∧ kk ≤ 4) → (bad = true ↔ ((actG p (advG p s nw) ⟨kk, nw, co⟩).held < 0 ∨ p.burst * p.period < (actG p (advG p s nw) ⟨kk, nw, co⟩).level)) →
          (actG p (advG p s nw) ⟨kk, nw, co⟩).log = [] →
          Calls Try.prog 19 #[p.v, s.v a 0 c, .agg #[.int .i64 kk, .int .i64 nw, .int .i64 co]] w (fun e w' =>
            e = .returned (.tuple #[if bad then s.v a 0 c else (actG p (advG p s nw) ⟨kk, nw, co⟩).v none 0 0, .bool (!bad)]) ∧ Below w.heap.size w w') →
          Calls Try.prog 19 #[p.v, s.v a 0 c, .agg #[.int .i64 kk, .int .i64 nw, .int .i64 co]] w (PostSB a 0 (if co < 1 ∨ p.burst < co ∨ kk < 1 ∨ 4 < kk ∨ (actG p (advG p s nw) ⟨kk, nw, co⟩).held < 0 ∨ p.burst * p.period < (actG p (advG p s nw) ⟨kk, nw, co⟩).level then (s, false) else (actG p (advG p s nw) ⟨kk, nw, co⟩, true)) w) := fun kk bad hkk hb hlg hcl => by
        refine hcl.mono fun e w' hh => ?_
        cases bad
        · rw [if_neg (by rintro (z | z | z | z | z | z) <;> first | omega | exact absurd (hb.2 (.inl z)) (by decide) | exact absurd (hb.2 (.inr z)) (by decide))]
          exact ⟨none, 0, 0, hh.1, by rw [hlg]; exact log_nil _ _ _ (by omega), .inl rfl, hh.2⟩
        · have hz := hb.1 rfl
          rw [if_pos (.inr (.inr (.inr (.inr hz))))]
          exact sb_same hl hh
      by_cases hk1 : k = 1
      · subst hk1
        exact key 1 (decide ((advG p s nw).held < 0 ∨ p.burst * p.period < (advG p s nw).level + co * p.period)) ⟨by omega, by omega⟩ (by rw [decide_eq_true_eq]; exact Iff.rfl) hlog (gdo_1 p s a c nw co _ w h hc.1 hc.2 rfl _ (by rw [decide_eq_true_eq]))
      by_cases hk2 : k = 2
      · subst hk2
        exact key 2 (decide ((advG p s nw).held + co < 0 ∨ p.burst * p.period < (advG p s nw).level + co * p.period)) ⟨by omega, by omega⟩ (by rw [decide_eq_true_eq]; exact Iff.rfl) hlog (gdo_2 p s a c nw co _ w h hc.1 hc.2 rfl _ (by rw [decide_eq_true_eq]))
      by_cases hk3 : k = 3
      · subst hk3
        exact key 3 (decide ((advG p s nw).held - co < 0 ∨ p.burst * p.period < (advG p s nw).level - co * p.period)) ⟨by omega, by omega⟩ (by rw [decide_eq_true_eq]; exact Iff.rfl) hlog (gdo_3 p s a c nw co _ w h hc.1 hc.2 rfl _ (by rw [decide_eq_true_eq]))
      by_cases hk4 : k = 4
      · subst hk4
        exact key 4 (decide ((advG p s nw).held - co < 0 ∨ p.burst * p.period < (advG p s nw).level)) ⟨by omega, by omega⟩ (by rw [decide_eq_true_eq]; exact Iff.rfl) hlog (gdo_4 p s a c nw co _ w h hc.1 hc.2 rfl _ (by rw [decide_eq_true_eq]))
      · rw [if_pos (by omega)]
        exact (gdo_5 p s a c nw co k _ w h hc.1 hc.2 rfl hk1 hk2 hk3 hk4).mono fun e w' hh => sb_same hl hh
    · rw [if_pos (by omega)]
      exact (gdo_cost p s a n c k nw co w hl.1 h hc).mono fun e w' hh => sb_same hl hh
  · rw [if_neg h]
    exact (gdo_no p s a n c k nw co w hl.1 h).mono fun e w' hh => sb_none hh

theorem cdo_all (p : Pol) (s : St) (a : Option Addr) (n c : Nat) (x : Ac) (w : World) (hl : LogAt w a n c s.log) : Calls Try.prog 23 #[p.v, s.v a n c, x.v] w (PostSB a n (doC p s x) w) := by
  obtain ⟨k, nw, co⟩ := x
  unfold Ac.v doC
  dsimp only
  by_cases h : rightC p s
  · rw [if_pos h]
    have hn0 : n = 0 := by rw [← hl.1, h.2.2.2.2.2.2.2.2]; rfl
    subst hn0
    have hlog : (advC p s nw).log = [] := by unfold advC; rw [if_pos h]
    have hheld : (advC p s nw).held = s.held := by unfold advC; rw [if_pos h]
    have fin : ∀ (bad : Bool) (t : St) {e : Ending} {w' : World}, t.log = [] → (e = .returned (.tuple #[if bad then s.v a 0 c else t.v none 0 0, .bool (!bad)]) ∧ Below w.heap.size w w') → PostSB a 0 (if bad then (s, false) else (t, true)) w e w' := fun bad t e w' ht hh => by
      cases bad
      · exact ⟨none, 0, 0, hh.1, by show LogAt _ _ _ _ t.log; rw [ht]; exact log_nil _ _ _ (by omega), .inl rfl, hh.2⟩
      · exact sb_same hl hh
    have e4 : ∀ (bad : Bool) (r : St × Bool) {t : St}, ((if bad then (s, false) else (t, true)) = r) → ∀ {e : Ending} {w' : World}, PostSB a 0 (if bad then (s, false) else (t, true)) w e w' → PostSB a 0 r w e w' := fun bad r t hr e w' hh => hr ▸ hh
    by_cases hk1 : k = 1
    · subst hk1
      refine (cdo_1 p s a c nw co _ w h rfl (decide (co < 1 ∨ p.limit - (advC p s nw).held - (advC p s nw).level < co)) (by rw [decide_eq_true_eq])).mono fun e w' hh => e4 _ _ ?_ (fin _ ⟨(advC p s nw).at_, (advC p s nw).level + co, (advC p s nw).held, []⟩ rfl hh)
      clear hh fin e4
      rw [hheld]
      by_cases hB : co < 1 ∨ p.limit - s.held - (advC p s nw).level < co
      · rw [if_pos (decide_eq_true hB)]
        by_cases h1 : co < 1
        · simp [h1]
        · have h2 : ¬ co ≤ p.limit - s.held - (advC p s nw).level := by omega
          simp [h1, h2]
      · rw [if_neg (by rw [decide_eq_true_eq]; exact hB)]
        have h1 : ¬ co < 1 := by omega
        have h2 : co ≤ p.limit - s.held - (advC p s nw).level := by omega
        simp [h1, h2, hlog, hheld]
    by_cases hk2 : k = 2
    · subst hk2
      refine (cdo_2 p s a c nw co _ w h rfl (decide (co < 1 ∨ p.limit - (advC p s nw).held - (advC p s nw).level < co)) (by rw [decide_eq_true_eq])).mono fun e w' hh => e4 _ _ ?_ (fin _ ⟨(advC p s nw).at_, (advC p s nw).level, (advC p s nw).held + co, []⟩ rfl hh)
      clear hh fin e4
      rw [hheld]
      by_cases hB : co < 1 ∨ p.limit - s.held - (advC p s nw).level < co
      · rw [if_pos (decide_eq_true hB)]
        by_cases h1 : co < 1
        · simp [h1]
        · have h2 : ¬ co ≤ p.limit - s.held - (advC p s nw).level := by omega
          simp [h1, h2]
      · rw [if_neg (by rw [decide_eq_true_eq]; exact hB)]
        have h1 : ¬ co < 1 := by omega
        have h2 : co ≤ p.limit - s.held - (advC p s nw).level := by omega
        simp [h1, h2, hlog, hheld]
    by_cases hk3 : k = 3
    · subst hk3
      refine (cdo_3 p s a c nw co _ w h rfl (decide (co < 1 ∨ (advC p s nw).held < co)) (by rw [decide_eq_true_eq])).mono fun e w' hh => e4 _ _ ?_ (fin _ ⟨(advC p s nw).at_, (advC p s nw).level, (advC p s nw).held - co, []⟩ rfl hh)
      clear hh fin e4
      rw [hheld]
      by_cases hB : co < 1 ∨ s.held < co
      · rw [if_pos (decide_eq_true hB)]
        by_cases h1 : co < 1
        · simp [h1]
        · have h2 : ¬ co ≤ s.held := by omega
          simp [h1, h2]
      · rw [if_neg (by rw [decide_eq_true_eq]; exact hB)]
        have h1 : ¬ co < 1 := by omega
        have h2 : co ≤ s.held := by omega
        simp [h1, h2, hlog, hheld]
    by_cases hk4 : k = 4
    · subst hk4
      refine (cdo_4 p s a c nw co _ w h rfl (decide (co < 1 ∨ (advC p s nw).held < co)) (by rw [decide_eq_true_eq])).mono fun e w' hh => e4 _ _ ?_ (fin _ ⟨(advC p s nw).at_, (advC p s nw).level + co, (advC p s nw).held - co, []⟩ rfl hh)
      clear hh fin e4
      rw [hheld]
      by_cases hB : co < 1 ∨ s.held < co
      · rw [if_pos (decide_eq_true hB)]
        by_cases h1 : co < 1
        · simp [h1]
        · have h2 : ¬ co ≤ s.held := by omega
          simp [h1, h2]
      · rw [if_neg (by rw [decide_eq_true_eq]; exact hB)]
        have h1 : ¬ co < 1 := by omega
        have h2 : co ≤ s.held := by omega
        simp [h1, h2, hlog, hheld]
    · have e5 : (if co < 1 then (s, false)
          else if k = 1 ∧ co ≤ p.limit - s.held - (advC p s nw).level then ({ advC p s nw with level := (advC p s nw).level + co }, true)
          else if k = 2 ∧ co ≤ p.limit - s.held - (advC p s nw).level then ({ advC p s nw with held := s.held + co }, true)
          else if k = 3 ∧ co ≤ s.held then ({ advC p s nw with held := s.held - co }, true)
          else if k = 4 ∧ co ≤ s.held then ({ advC p s nw with held := s.held - co, level := (advC p s nw).level + co }, true)
          else (s, false)) = (s, false) := by
        rw [if_neg (fun z : k = 1 ∧ _ => hk1 z.1), if_neg (fun z : k = 2 ∧ _ => hk2 z.1), if_neg (fun z : k = 3 ∧ _ => hk3 z.1), if_neg (fun z : k = 4 ∧ _ => hk4 z.1)]
        split <;> rfl
      rw [e5]
      exact (cdo_5 p s a c nw co k _ w h rfl hk1 hk2 hk3 hk4).mono fun e w' hh => sb_same hl hh
  · rw [if_neg h]
    exact (cdo_no p s a n c k nw co w hl.1 h).mono fun e w' hh => sb_none hh

theorem wdo_all (p : Pol) (s : St) (a : Option Addr) (n c : Nat) (x : Ac) (w : World) (hl : LogAt w a n c s.log) : Calls Try.prog 21 #[p.v, s.v a n c, x.v] w (PostSB a n (doL p s x) w) := by
  obtain ⟨k, nw, co⟩ := x
  unfold Ac.v doL
  dsimp only
  by_cases h : rightL p s
  · rw [if_pos h]
    by_cases h1 : 1 ≤ co
    · by_cases hk1 : k = 1
      · subst hk1
        by_cases h2 : co ≤ p.limit - s.held - sumL (advL p s nw).log
        · rw [if_pos ⟨h1, rfl, h2⟩]
          exact (wdo_take p s a n c nw co _ w h hl rfl h1 h2).mono fun e w' hh => sb_own hh
        · rw [if_neg (fun z => h2 z.2.2), if_neg (fun z => absurd z.2.1 (by decide)), if_neg (fun z => absurd z.2.1 (by decide)), if_neg (fun z => absurd z.2.1 (by decide))]
          exact (wdo_full1 p s a n c nw co _ w h hl rfl h1 h2).mono fun e w' hh => sb_own hh
      rw [if_neg (fun z => hk1 z.2.1)]
      by_cases hk2 : k = 2
      · subst hk2
        by_cases h2 : co ≤ p.limit - s.held - sumL (advL p s nw).log
        · rw [if_pos ⟨h1, rfl, h2⟩]
          exact (wdo_hold p s a n c nw co _ w h hl rfl h1 h2).mono fun e w' hh => sb_own hh
        · rw [if_neg (fun z => h2 z.2.2), if_neg (fun z => absurd z.2.1 (by decide)), if_neg (fun z => absurd z.2.1 (by decide))]
          exact (wdo_full2 p s a n c nw co _ w h hl rfl h1 h2).mono fun e w' hh => sb_own hh
      rw [if_neg (fun z => hk2 z.2.1)]
      by_cases hk3 : k = 3
      · subst hk3
        by_cases h2 : co ≤ s.held
        · rw [if_pos ⟨h1, rfl, h2⟩]
          exact (wdo_release p s a n c nw co _ w h hl rfl h1 h2).mono fun e w' hh => sb_own hh
        · rw [if_neg (fun z => h2 z.2.2), if_neg (fun z => absurd z.2.1 (by decide))]
          exact (wdo_over3 p s a n c nw co _ w h hl rfl h1 h2).mono fun e w' hh => sb_own hh
      rw [if_neg (fun z => hk3 z.2.1)]
      by_cases hk4 : k = 4
      · subst hk4
        by_cases h2 : co ≤ s.held
        · rw [if_pos ⟨h1, rfl, h2⟩]
          exact (wdo_commit p s a n c nw co _ w h hl rfl h1 h2).mono fun e w' hh => sb_own hh
        · rw [if_neg (fun z => h2 z.2.2)]
          exact (wdo_over4 p s a n c nw co _ w h hl rfl h1 h2).mono fun e w' hh => sb_own hh
      · rw [if_neg (fun z => hk4 z.2.1)]
        exact (wdo_kind p s a n c nw co k _ w h hl rfl h1 hk1 hk2 hk3 hk4).mono fun e w' hh => sb_own hh
    · rw [if_neg (fun z => h1 z.1), if_neg (fun z => h1 z.1), if_neg (fun z => h1 z.1), if_neg (fun z => h1 z.1)]
      exact (wdo_less p s a n c nw co k _ w h hl rfl h1).mono fun e w' hh => sb_own hh
  · rw [if_neg h]
    exact (wdo_no p s a n c k nw co w hl h).mono fun e w' hh => sb_none hh
end Go.Proofs.Ythinbjknkjpdjaa

namespace Go.Proofs.Ythinbjknkjpdjaa
open Go.RowKit
set_option linter.unusedVariables false
set_option linter.unusedSimpArgs false

def fv (f : Nat) : Value := .func (.func f) #[] #[]
def kernB : Array Value := #[fv 18, fv 65, fv 39, fv 40, fv 66, fv 17, fv 67, fv 68]
def kernG : Array Value := #[fv 20, fv 53, fv 41, fv 43, fv 54, fv 19, fv 55, fv 56]
def kernL : Array Value := #[fv 22, fv 57, fv 44, fv 46, fv 58, fv 21, fv 59, fv 60]
def kernC : Array Value := #[fv 24, fv 61, fv 49, fv 50, fv 62, fv 23, fv 63, fv 64]
def kern (k : Int) : Array Value := if k = 2 then kernG else if k = 3 then kernL else if k = 4 then kernC else kernB

set_option maxHeartbeats 1000000 in
set_option maxRecDepth 100000 in
theorem of_any (p : Pol) (w : World) : Calls Try.prog 37 #[p.v] w fun e w' => e = .returned (.iface 76 (.agg (kern p.kind))) ∧ Below w.heap.size w w' := by
  obtain ⟨k, l, d, b, cc, o⟩ := p
  unfold Pol.v
  dsimp only
  unfold kern
  by_cases h2 : k = 2
  · subst h2
    go_enter Try.func37, Try.ntmps37
    go_wp2_with fail
    go_ret
    exact ⟨rfl, bl_alloc (bl_refl _) _⟩
  rw [if_neg h2]
  by_cases h3 : k = 3
  · subst h3
    go_enter Try.func37, Try.ntmps37
    go_wp2_with fail
    go_ret
    exact ⟨rfl, bl_alloc (bl_refl _) _⟩
  rw [if_neg h3]
  by_cases h4 : k = 4
  · subst h4
    go_enter Try.func37, Try.ntmps37
    go_wp2_with fail
    go_ret
    exact ⟨rfl, bl_alloc (bl_refl _) _⟩
  · rw [if_neg h4]
    go_enter Try.func37, Try.ntmps37
    go_wp2_with fail
    go_ret
    exact ⟨rfl, bl_alloc (bl_refl _) _⟩
end Go.Proofs.Ythinbjknkjpdjaa

namespace Go.Proofs.Ythinbjknkjpdjaa
open Go.RowKit
set_option linter.unusedVariables false
set_option linter.unusedSimpArgs false

def Enters (g : Nat) : Prop := ∀ args w, (callFunc g args).run Try.prog w = .ok (.enter g args) w

set_option maxHeartbeats 1000000 in
set_option maxRecDepth 100000 in
theorem made_check (g : Nat) (eg : Enters g) (f1 f2 f3 f4 f5 f6 f7 : Value) (p : Pol) (r : Int) (hc : ∀ w, Calls Try.prog g #[p.v] w fun e w' => e = .returned (.int .i64 r) ∧ Below w.heap.size w w') (w : World) :
    Calls Try.prog 112 #[.agg #[fv g, f1, f2, f3, f4, f5, f6, f7], p.v] w fun e w' => e = .returned (.int .i64 r) ∧ Below w.heap.size w w' := by
  obtain ⟨k, l, d, b, cc, o⟩ := p
  unfold Pol.v at *
  unfold fv
  unfold Enters at eg
  dsimp only at *
  have HC := Go.Lib.hid hc
  clear hc
  go_enter Try.func112, Try.ntmps112
  go_wp2_with fail
  refine (HC.out _).mono ?_
  rintro e w1 ⟨rfl, hb⟩
  go_wp2_with fail
  go_ret
  exact ⟨rfl, bl_then (bl_alloc (bl_alloc (bl_refl _) _) _) hb⟩

theorem meth_check (x : Array Value) (w : World) : (method 60 76 (.agg x) "tapster/limiter.check").run Try.prog w = .ok (112, .agg x) w := by kernel_rfl
def chkP (p : Pol) : Int := if p.kind = 2 then chkG p else if p.kind = 3 then chkL p else if p.kind = 4 then chkC p else chkB p
theorem kern_check (p : Pol) (w : World) : Calls Try.prog 112 #[.agg (kern p.kind), p.v] w fun e w' => e = .returned (.int .i64 (chkP p)) ∧ Below w.heap.size w w' := by
  unfold kern chkP
  by_cases h2 : p.kind = 2
  · rw [if_pos h2, if_pos h2]; exact made_check _ (fun _ _ => by kernel_rfl) _ _ _ _ _ _ _ p _ (gcheck_any p) w
  rw [if_neg h2, if_neg h2]
  by_cases h3 : p.kind = 3
  · rw [if_pos h3, if_pos h3]; exact made_check _ (fun _ _ => by kernel_rfl) _ _ _ _ _ _ _ p _ (wcheck_any p) w
  rw [if_neg h3, if_neg h3]
  by_cases h4 : p.kind = 4
  · rw [if_pos h4, if_pos h4]; exact made_check _ (fun _ _ => by kernel_rfl) _ _ _ _ _ _ _ p _ (ccheck_any p) w
  · rw [if_neg h4, if_neg h4]; exact made_check _ (fun _ _ => by kernel_rfl) _ _ _ _ _ _ _ p _ (bcheck_any p) w
end Go.Proofs.Ythinbjknkjpdjaa

namespace Go.Proofs.Ythinbjknkjpdjaa
open Go.RowKit
set_option linter.unusedVariables false
set_option linter.unusedSimpArgs false

set_option maxHeartbeats 1000000 in
set_option maxRecDepth 100000 in
theorem lcheck_any (p : Pol) (w : World) : Calls Try.prog 25 #[p.v] w fun e w' => e = .returned (.int .i64 (chkP p)) ∧ Below w.heap.size w w' := by
  have hof := of_any p
  have hkc := kern_check p
  have hme := meth_check
  generalize kern p.kind = KV at *
  generalize chkP p = R at *
  obtain ⟨k, l, d, b, cc, o⟩ := p
  unfold Pol.v at *
  dsimp only at *
  have HOF := Go.Lib.hid hof
  have HKC := Go.Lib.hid hkc
  clear hof hkc
  go_enter Try.func25, Try.ntmps25
  go_wp2_with fail
  refine wp_abs (S0 := fun w' => w'.cell? ⟨w.heap.size, 0, none⟩ = some (.int .i64 k) ∧ w'.cell? ⟨w.heap.size, 1, none⟩ = some (.int .i64 l) ∧ w'.cell? ⟨w.heap.size, 2, none⟩ = some (.int .i64 d) ∧ w'.cell? ⟨w.heap.size, 3, none⟩ = some (.int .i64 b) ∧ w'.cell? ⟨w.heap.size, 4, none⟩ = some (.int .i64 cc) ∧ w'.cell? ⟨w.heap.size, 5, none⟩ = some (.bool o) ∧ Below w.heap.size w w') ⟨by go_simp, by go_simp, by go_simp, by go_simp, by go_simp, by go_simp, bl_alloc (bl_refl _) _⟩ ?_
  rintro W ⟨c0, c1, c2, c3, c4, c5, hB⟩
  refine wp_region_held_drew (S := fun w' => w'.cell? ⟨w.heap.size, 0, none⟩ = some (.int .i64 k) ∧ w'.cell? ⟨w.heap.size, 1, none⟩ = some (.int .i64 l) ∧ w'.cell? ⟨w.heap.size, 2, none⟩ = some (.int .i64 d) ∧ w'.cell? ⟨w.heap.size, 3, none⟩ = some (.int .i64 b) ∧ w'.cell? ⟨w.heap.size, 4, none⟩ = some (.int .i64 cc) ∧ w'.cell? ⟨w.heap.size, 5, none⟩ = some (.bool o) ∧ Below w.heap.size w w') (by kernel_rfl) ?_ (fun hHeld => ?_)
  · exact ⟨c0, c1, c2, c3, c4, c5, bl_drew hB⟩
  try simp only [Act.put, List.setIfInBounds_toArray, List.set_cons_zero, List.set_cons_succ]
  all_goals ((refine tk (i := 0) rfl rfl hHeld ?_))
  all_goals ((refine tk (i := 2) rfl rfl hHeld ?_))
  all_goals ((refine callH (i := 1) rfl hHeld (fun W hW K hK => ?_); clear hHeld; (try dsimp only at hW); go_simp; refine (HOF.out _).mono ?_; rintro e w1 ⟨rfl, hb⟩; go_wp2_with fail; refine hK.out _ _ ?_ (fun hHeld => ?_); (focus ((try dsimp only); (obtain ⟨h0, h1, h2, h3, h4, h5, hB'⟩ := hW; exact ⟨bl_cell hb h0, bl_cell hb h1, bl_cell hb h2, bl_cell hb h3, bl_cell hb h4, bl_cell hb h5, bl_then hB' hb⟩))); clear hK K; try simp only [Act.put, List.setIfInBounds_toArray, List.set_cons_zero, List.set_cons_succ]))
  all_goals ((refine callH (i := 3) rfl hHeld (fun W hW K hK => ?_); clear hHeld; (try dsimp only at hW); go_simp; refine (HKC.out _).mono ?_; rintro e w1 ⟨rfl, hb⟩; go_wp2_with fail; refine hK.out _ _ ?_ (fun hHeld => ?_); (focus ((try dsimp only); (obtain ⟨h0, h1, h2, h3, h4, h5, hB'⟩ := hW; exact ⟨bl_cell hb h0, bl_cell hb h1, bl_cell hb h2, bl_cell hb h3, bl_cell hb h4, bl_cell hb h5, bl_then hB' hb⟩))); clear hK K; try simp only [Act.put, List.setIfInBounds_toArray, List.set_cons_zero, List.set_cons_succ]))
  all_goals ((refine tk (i := 4) rfl rfl hHeld ?_))
  all_goals (refine wpAnyH_done (by kernel_rfl) ?_ _)
  obtain ⟨-, -, -, -, -, -, hE⟩ := hHeld
  repeat' (first | go_skip | go_guarded | go_step | go_upon)
  go_ret
  exact ⟨rfl, hE⟩
end Go.Proofs.Ythinbjknkjpdjaa

namespace Go.Proofs.Ythinbjknkjpdjaa
open Go.RowKit
set_option linter.unusedVariables false
set_option linter.unusedSimpArgs false

theorem log_set4 {w : World} {a : Option Addr} {n c b : Nat} {L : List (Int × Int)} {v0 v1 v2 v3 : Value} (h : LogAt w a n c L) (hne : ∀ ad, a = some ad → n ≠ 0 → ad.block ≠ b) :
    LogAt ((((w.setCell ⟨b, 0, none⟩ v0).setCell ⟨b, 1, none⟩ v1).setCell ⟨b, 2, none⟩ v2).setCell ⟨b, 3, none⟩ v3) a n c L :=
  ⟨h.1, h.2.1, h.2.2.1, fun i hi => by
    obtain ⟨bb, off, e, h1, h2⟩ := h.2.2.2 i hi
    have hb : b ≠ bb := fun x => hne _ e (by omega) x.symm
    exact ⟨bb, off, e, far4 h1 hb, far4 h2 hb⟩⟩
theorem log_lt {w : World} {a : Option Addr} {n c : Nat} {L : List (Int × Int)} (h : LogAt w a n c L) : ∀ ad, a = some ad → n ≠ 0 → ad.block < w.heap.size := fun ad e hn => by
  obtain ⟨bb, off, e', h1, -⟩ := h.2.2.2 0 (by omega)
  rw [e] at e'
  injection e' with e'
  subst e'
  exact World.block_lt_of_cell? w _ h1
theorem src_ne {w w1 : World} {a0 a : Option Addr} {n0 n c0 b : Nat} {L0 : List (Int × Int)} (h0 : LogAt w a0 n0 c0 L0) (h : Src a0 n0 w1 a n) (h1 : w.heap.size ≤ b) (h2 : b < w1.heap.size) : ∀ ad, a = some ad → n ≠ 0 → ad.block ≠ b := fun ad e hn => by
  rcases h with h | ⟨rfl, rfl⟩ | h
  · exact absurd h hn
  · have := log_lt h0 ad e hn
    omega
  · have := h ad e
    omega
theorem src_out {w w1 : World} {a0 a : Option Addr} {n0 n : Nat} (h : Src a0 n0 w1 a n) (hs : w.heap.size ≤ w1.heap.size) : Src a0 n0 w a n := by
  rcases h with h | h | h
  · exact .inl h
  · exact .inr (.inl h)
  · exact .inr (.inr fun ad e => Nat.le_trans hs (h ad e))

set_option maxHeartbeats 1000000 in
set_option maxRecDepth 100000 in
theorem made_do (g : Nat) (eg : Enters g) (f0 f1 f2 f3 f4 f6 f7 : Value) (p : Pol) (s : St) (a : Option Addr) (n c : Nat) (x : Ac) (R : St × Bool) (hc : ∀ w, LogAt w a n c s.log → Calls Try.prog g #[p.v, s.v a n c, x.v] w (PostSB a n R w)) (w : World) (hl : LogAt w a n c s.log) :
    Calls Try.prog 113 #[.agg #[f0, f1, f2, f3, f4, fv g, f6, f7], p.v, s.v a n c, x.v] w (PostSB a n R w) := by
  obtain ⟨k, l, d, b, cc, o⟩ := p
  obtain ⟨at_, level, held, L⟩ := s
  obtain ⟨ak, anow, acost⟩ := x
  obtain ⟨⟨rat, rlv, rhd, rL⟩, rok⟩ := R
  unfold Ac.v St.v Pol.v at *
  unfold fv
  unfold Enters at eg
  dsimp only at *
  have HC := Go.Lib.hid hc
  have HL := Go.Lib.hid hl
  clear hc hl
  go_enter Try.func113, Try.ntmps113
  go_wp2_with fail
  refine (HC.out _ (log_bl HL.out (bl_alloc (bl_alloc (bl_alloc (bl_alloc (bl_alloc (bl_refl _) _) _) _) _) _))).mono ?_
  rintro e w1 ⟨a9, n9, c9, rfl, hl9, hs9, hb⟩
  have hB : Below w.heap.size w w1 := bl_then (bl_alloc (bl_alloc (bl_alloc (bl_alloc (bl_alloc (bl_refl _) _) _) _) _) _) hb
  have hR : ResB w1 (w.heap.size + 1 + 1 + 1 + 1) := res_bl (res_new _ _ _ _ _ _ (by simp)) hb
  have hne := src_ne (b := w.heap.size + 1 + 1 + 1 + 1) HL.out hs9 (by omega) (by simp)
  have hso := src_out (w := w) hs9 (by simp; omega)
  obtain ⟨f0', f1', f2', f3', u0, u1, u2, u3, i0, i1, i2, i3⟩ := res_all hR
  have HNE := Go.Lib.hid hne
  have HSO := Go.Lib.hid hso
  have HL9 := Go.Lib.hid hl9
  clear hb HC HL hne hso hs9 hl9
  unfold St.v
  dsimp only
  go_wp2_with fail
  (try simp only [Exit.inBlock, Exit.then])
  refine bodyPost_ret (results_state2 rfl _ _ (by rfl) (set4r hR)) rfl ⟨a9, n9, c9, rfl, log_set4 HL9.out HNE.out, HSO.out, bl4 hB (by omega)⟩

set_option maxHeartbeats 1000000 in
set_option maxRecDepth 100000 in
theorem made_start (g : Nat) (eg : Enters g) (f0 f2 f3 f4 f5 f6 f7 : Value) (p : Pol) (now : Int) (s : St) (hc : ∀ w, Calls Try.prog g #[p.v, .int .i64 now] w fun e w' => e = .returned (s.v none 0 0) ∧ Below w.heap.size w w') (w : World) :
    Calls Try.prog 117 #[.agg #[f0, fv g, f2, f3, f4, f5, f6, f7], p.v, .int .i64 now] w fun e w' => e = .returned (s.v none 0 0) ∧ Below w.heap.size w w' := by
  obtain ⟨k, l, d, b, cc, o⟩ := p
  obtain ⟨at_, level, held, L⟩ := s
  unfold St.v Pol.v at *
  unfold fv
  unfold Enters at eg
  dsimp only at *
  have HC := Go.Lib.hid hc
  clear hc
  go_enter Try.func117, Try.ntmps117
  go_wp2_with fail
  refine (HC.out _).mono ?_
  rintro e w1 ⟨rfl, hb⟩
  have hB : Below w.heap.size w w1 := bl_then (bl_alloc (bl_alloc (bl_alloc (bl_refl _) _) _) _) hb
  have hR : ResB w1 (w.heap.size + 1 + 1) := res_bl (res_new _ _ _ _ _ _ (by simp)) hb
  obtain ⟨f0', f1', f2', f3', u0, u1, u2, u3, i0, i1, i2, i3⟩ := res_all hR
  clear hb HC
  go_wp2_with fail
  (try simp only [Exit.inBlock, Exit.then])
  refine bodyPost_ret (results_state rfl _ _ (by rfl) (set4r hR)) rfl ⟨rfl, bl4 hB (by omega)⟩

set_option maxHeartbeats 1000000 in
set_option maxRecDepth 100000 in
theorem made_room (g : Nat) (eg : Enters g) (f0 f1 f2 f3 f5 f6 f7 : Value) (p : Pol) (s : St) (a : Option Addr) (n c : Nat) (now : Int) (R : Int) (hc : ∀ w, LogAt w a n c s.log → Calls Try.prog g #[p.v, s.v a n c, .int .i64 now] w fun e w' => e = .returned (.int .i64 R) ∧ Below w.heap.size w w') (w : World) (hl : LogAt w a n c s.log) :
    Calls Try.prog 116 #[.agg #[f0, f1, f2, f3, fv g, f5, f6, f7], p.v, s.v a n c, .int .i64 now] w fun e w' => e = .returned (.int .i64 R) ∧ Below w.heap.size w w' := by
  obtain ⟨k, l, d, b, cc, o⟩ := p
  obtain ⟨at_, level, held, L⟩ := s
  unfold St.v Pol.v at *
  unfold fv
  unfold Enters at eg
  dsimp only at *
  have HC := Go.Lib.hid hc
  have HL := Go.Lib.hid hl
  clear hc hl
  go_enter Try.func116, Try.ntmps116
  go_wp2_with fail
  refine (HC.out _ (log_bl HL.out (bl_alloc (bl_alloc (bl_alloc (bl_refl _) _) _) _))).mono ?_
  rintro e w1 ⟨rfl, hb⟩
  go_wp2_with fail
  go_ret
  exact ⟨rfl, bl_then (bl_alloc (bl_alloc (bl_alloc (bl_refl _) _) _) _) hb⟩
end Go.Proofs.Ythinbjknkjpdjaa

namespace Go.Proofs.Ythinbjknkjpdjaa
open Go.RowKit
set_option linter.unusedVariables false
set_option linter.unusedSimpArgs false

set_option maxHeartbeats 1000000 in
set_option maxRecDepth 100000 in
theorem bnew_any (p : Pol) (now : Int) (w : World) : Calls Try.prog 65 #[p.v, .int .i64 now] w fun e w' => e = .returned ((newB p now).v none 0 0) ∧ Below w.heap.size w w' := by
  obtain ⟨k, l, d, b, cc, o⟩ := p
  have hck := bcheck_any ⟨k, l, d, b, cc, o⟩
  unfold newB
  unfold Pol.v at *
  unfold St.v
  dsimp only at *
  by_cases h : okB ⟨k, l, d, b, cc, o⟩
  · rw [if_pos h]
    rw [show chkB ⟨k, l, d, b, cc, o⟩ = 0 from if_pos h] at hck
    have HCK := Go.Lib.hid hck
    have hcl := clamp_any now
    have hw2 : IntKind.i64.wrap (b * d) = b * d := by
      obtain ⟨q0, q1, q2, q3, q4, q5, q6, q7⟩ := h
      dsimp only at *
      have h2 : b * d ≤ 1152921504606846976 := prod_le (by omega) (by omega) (by omega)
      have h3 : 0 ≤ b * d := Int.mul_nonneg (by omega) (by omega)
      exact IntWalk.i64_in _ (by omega)
    clear h hck
    dsimp only
    generalize clampT now = T at *
    have HCL := Go.Lib.hid hcl
    clear hcl
    go_enter Try.func65, Try.ntmps65
    go_wp2_with fail
    refine (HCK.out _).mono ?_
    rintro e w1 ⟨rfl, hb⟩
    have hB : Below w.heap.size w w1 := bl_then (bl_alloc (bl_alloc (bl_refl _) _) _) hb
    have c0 := bl_cell (v := .int .i64 k) hb (show World.cell? _ ⟨w.heap.size, 0, none⟩ = _ by go_simp)
    have c1 := bl_cell (v := .int .i64 l) hb (show World.cell? _ ⟨w.heap.size, 1, none⟩ = _ by go_simp)
    have c2 := bl_cell (v := .int .i64 d) hb (show World.cell? _ ⟨w.heap.size, 2, none⟩ = _ by go_simp)
    have c3 := bl_cell (v := .int .i64 b) hb (show World.cell? _ ⟨w.heap.size, 3, none⟩ = _ by go_simp)
    have c4 := bl_cell (v := .int .i64 cc) hb (show World.cell? _ ⟨w.heap.size, 4, none⟩ = _ by go_simp)
    have c5 := bl_cell (v := .bool o) hb (show World.cell? _ ⟨w.heap.size, 5, none⟩ = _ by go_simp)
    have hR : ResB w1 (w.heap.size + 1) := res_bl (res_new _ _ _ _ _ _ (by simp)) hb
    clear hb HCK
    go_wp2_with fail
    refine wp_region_held_drew (S := fun w' => w'.cell? ⟨w.heap.size, 0, none⟩ = some (.int .i64 k) ∧ w'.cell? ⟨w.heap.size, 1, none⟩ = some (.int .i64 l) ∧ w'.cell? ⟨w.heap.size, 2, none⟩ = some (.int .i64 d) ∧ w'.cell? ⟨w.heap.size, 3, none⟩ = some (.int .i64 b) ∧ w'.cell? ⟨w.heap.size, 4, none⟩ = some (.int .i64 cc) ∧ w'.cell? ⟨w.heap.size, 5, none⟩ = some (.bool o) ∧ ResB w' (w.heap.size + 1) ∧ Below w.heap.size w w') (by kernel_rfl) ?_ (fun hHeld => ?_)
    · exact ⟨c0, c1, c2, c3, c4, c5, hR, bl_drew hB⟩
    try simp only [Act.put, List.setIfInBounds_toArray, List.set_cons_zero, List.set_cons_succ]
    all_goals ((refine tk (i := 0) rfl rfl hHeld ?_))
    all_goals ((refine tk (i := 2) rfl rfl hHeld ?_))
    all_goals ((refine tk (i := 3) rfl rfl hHeld ?_))
    all_goals ((refine tk (i := 4) rfl rfl hHeld ?_))
    all_goals ((refine tk (i := 5) rfl rfl hHeld ?_))
    all_goals ((refine tk (i := 6) rfl rfl hHeld ?_))
    all_goals ((refine callH (i := 1) rfl hHeld (fun W hW K hK => ?_); clear hHeld; (try dsimp only at hW); go_simp; refine (HCL.out _).mono ?_; rintro e w1 ⟨rfl, rfl⟩; go_wp2_with fail; refine hK.out _ _ ?_ (fun hHeld => ?_); (focus ((try dsimp only); exact hW)); clear hK K; try simp only [Act.put, List.setIfInBounds_toArray, List.set_cons_zero, List.set_cons_succ]))
    all_goals ((refine tk (i := 7) rfl rfl hHeld ?_))
    all_goals ((refine callH (i := 8) rfl hHeld (fun W hW K hK => ?_); clear hHeld; (try dsimp only at hW); obtain ⟨h0, h1, h2, h3, h4, h5, hr', hB'⟩ := hW; obtain ⟨f0, f1, f2, f3, u0, u1, u2, u3, i0, i1, i2, i3⟩ := res_all hr'; go_simp; refine hK.out _ _ ?_ (fun hHeld => ?_); (focus ((try dsimp only); (have e0 : w.heap.size + 1 ≠ w.heap.size := (by omega); exact ⟨far4 h0 e0, far4 h1 e0, far4 h2 e0, far4 h3 e0, far4 h4 e0, far4 h5 e0, res4 hr', bl4 hB' (by omega)⟩))); clear hK K; try simp only [Act.put, List.setIfInBounds_toArray, List.set_cons_zero, List.set_cons_succ]))
    all_goals (refine wpAnyH_done (by kernel_rfl) ?_ _)
    obtain ⟨-, -, -, -, -, -, -, hE⟩ := hHeld
    go_wp2
    (try simp only [Exit.inBlock, Exit.then])
    refine bodyPost_ret (results_state rfl _ _ (by rfl) (set4 _ _ _ _ i0 i1 i2 i3)) rfl ⟨by first | rfl | simp, hE⟩
  · rw [if_neg h]
    rw [show chkB ⟨k, l, d, b, cc, o⟩ = 2 from if_neg h] at hck
    have HCK := Go.Lib.hid hck
    clear hck h
    unfold St.none
    go_enter Try.func65, Try.ntmps65
    go_wp2_with fail
    refine (HCK.out _).mono ?_
    rintro e w1 ⟨rfl, hb⟩
    have hB : Below w.heap.size w w1 := bl_then (bl_alloc (bl_alloc (bl_refl _) _) _) hb
    have hR : ResB w1 (w.heap.size + 1) := res_bl (res_new _ _ _ _ _ _ (by simp)) hb
    obtain ⟨f0, f1, f2, f3, u0, u1, u2, u3, i0, i1, i2, i3⟩ := res_all hR
    clear hb HCK
    go_wp2
    (try simp only [Exit.inBlock, Exit.then])
    refine bodyPost_ret (results_state rfl _ _ (by rfl) (set4 _ _ _ _ i0 i1 i2 i3)) rfl ⟨by first | rfl | simp, bl4 hB (by omega)⟩
end Go.Proofs.Ythinbjknkjpdjaa

namespace Go.Proofs.Ythinbjknkjpdjaa
open Go.RowKit
set_option linter.unusedVariables false
set_option linter.unusedSimpArgs false

set_option maxHeartbeats 1000000 in
set_option maxRecDepth 100000 in
theorem gnew_any (p : Pol) (now : Int) (w : World) : Calls Try.prog 53 #[p.v, .int .i64 now] w fun e w' => e = .returned ((newG p now).v none 0 0) ∧ Below w.heap.size w w' := by
  have hck := gcheck_any p
  unfold newG
  by_cases h : okG p
  · rw [if_pos h]
    rw [show chkG p = 0 from if_pos h] at hck
    clear h
    obtain ⟨k, l, d, b, cc, o⟩ := p
    have hcl := clamp_any now
    unfold St.v Pol.v at *
    dsimp only at *
    generalize clampT now = T at *
    have HCK := Go.Lib.hid hck
    have HCL := Go.Lib.hid hcl
    clear hcl hck
    go_enter Try.func53, Try.ntmps53
    go_wp2_with fail
    refine (HCK.out _).mono ?_
    rintro e w1 ⟨rfl, hb⟩
    have hB : Below w.heap.size w w1 := bl_then (bl_alloc (bl_alloc (bl_refl _) _) _) hb
    have c0 := bl_cell (v := .int .i64 k) hb (show World.cell? _ ⟨w.heap.size, 0, none⟩ = _ by go_simp)
    have c1 := bl_cell (v := .int .i64 l) hb (show World.cell? _ ⟨w.heap.size, 1, none⟩ = _ by go_simp)
    have c2 := bl_cell (v := .int .i64 d) hb (show World.cell? _ ⟨w.heap.size, 2, none⟩ = _ by go_simp)
    have c3 := bl_cell (v := .int .i64 b) hb (show World.cell? _ ⟨w.heap.size, 3, none⟩ = _ by go_simp)
    have c4 := bl_cell (v := .int .i64 cc) hb (show World.cell? _ ⟨w.heap.size, 4, none⟩ = _ by go_simp)
    have c5 := bl_cell (v := .bool o) hb (show World.cell? _ ⟨w.heap.size, 5, none⟩ = _ by go_simp)
    have hR : ResB w1 (w.heap.size + 1) := res_bl (res_new _ _ _ _ _ _ (by simp)) hb
    clear hb HCK
    go_wp2_with fail
    refine (HCL.out _).mono ?_
    rintro e w2 ⟨rfl, rfl⟩
    obtain ⟨f0, f1, f2, f3, u0, u1, u2, u3, i0, i1, i2, i3⟩ := res_all hR
    go_wp2_with fail
    (try simp only [Exit.inBlock, Exit.then])
    refine bodyPost_ret (results_state rfl _ _ (by rfl) (set4 _ _ _ _ i0 i1 i2 i3)) rfl ⟨by first | rfl | simp, bl4 hB (by omega)⟩
  · rw [if_neg h]
    rw [show chkG p = 2 from if_neg h] at hck
    clear h
    unfold St.v Pol.v at *
    have HCK := Go.Lib.hid hck
    clear hck
    unfold St.none
    go_enter Try.func53, Try.ntmps53
    go_wp2_with fail
    refine (HCK.out _).mono ?_
    rintro e w1 ⟨rfl, hb⟩
    have hB : Below w.heap.size w w1 := bl_then (bl_alloc (bl_alloc (bl_refl _) _) _) hb
    have hR : ResB w1 (w.heap.size + 1) := res_bl (res_new _ _ _ _ _ _ (by simp)) hb
    obtain ⟨f0, f1, f2, f3, u0, u1, u2, u3, i0, i1, i2, i3⟩ := res_all hR
    clear hb HCK
    go_wp2_with fail
    (try simp only [Exit.inBlock, Exit.then])
    refine bodyPost_ret (results_state rfl _ _ (by rfl) (set4 _ _ _ _ i0 i1 i2 i3)) rfl ⟨by first | rfl | simp, bl4 hB (by omega)⟩
end Go.Proofs.Ythinbjknkjpdjaa

namespace Go.Proofs.Ythinbjknkjpdjaa
open Go.RowKit
set_option linter.unusedVariables false
set_option linter.unusedSimpArgs false

set_option maxHeartbeats 1000000 in
set_option maxRecDepth 100000 in
theorem cnew_any (p : Pol) (now : Int) (w : World) : Calls Try.prog 61 #[p.v, .int .i64 now] w fun e w' => e = .returned ((newC p now).v none 0 0) ∧ Below w.heap.size w w' := by
  have hck := ccheck_any p
  unfold newC
  by_cases h : okC p
  · rw [if_pos h]
    rw [show chkC p = 0 from if_pos h] at hck
    clear h
    obtain ⟨k, l, d, b, cc, o⟩ := p
    have hcl := clamp_any now
    unfold St.v Pol.v at *
    dsimp only at *
    generalize clampT now = T at *
    have HCK := Go.Lib.hid hck
    have HCL := Go.Lib.hid hcl
    clear hcl hck
    go_enter Try.func61, Try.ntmps61
    go_wp2_with fail
    refine (HCK.out _).mono ?_
    rintro e w1 ⟨rfl, hb⟩
    have hB : Below w.heap.size w w1 := bl_then (bl_alloc (bl_alloc (bl_refl _) _) _) hb
    have c0 := bl_cell (v := .int .i64 k) hb (show World.cell? _ ⟨w.heap.size, 0, none⟩ = _ by go_simp)
    have c1 := bl_cell (v := .int .i64 l) hb (show World.cell? _ ⟨w.heap.size, 1, none⟩ = _ by go_simp)
    have c2 := bl_cell (v := .int .i64 d) hb (show World.cell? _ ⟨w.heap.size, 2, none⟩ = _ by go_simp)
    have c3 := bl_cell (v := .int .i64 b) hb (show World.cell? _ ⟨w.heap.size, 3, none⟩ = _ by go_simp)
    have c4 := bl_cell (v := .int .i64 cc) hb (show World.cell? _ ⟨w.heap.size, 4, none⟩ = _ by go_simp)
    have c5 := bl_cell (v := .bool o) hb (show World.cell? _ ⟨w.heap.size, 5, none⟩ = _ by go_simp)
    have hR : ResB w1 (w.heap.size + 1) := res_bl (res_new _ _ _ _ _ _ (by simp)) hb
    clear hb HCK
    go_wp2_with fail
    refine (HCL.out _).mono ?_
    rintro e w2 ⟨rfl, rfl⟩
    obtain ⟨f0, f1, f2, f3, u0, u1, u2, u3, i0, i1, i2, i3⟩ := res_all hR
    go_wp2_with fail
    (try simp only [Exit.inBlock, Exit.then])
    refine bodyPost_ret (results_state rfl _ _ (by rfl) (set4 _ _ _ _ i0 i1 i2 i3)) rfl ⟨by first | rfl | simp, bl4 hB (by omega)⟩
  · rw [if_neg h]
    rw [show chkC p = 2 from if_neg h] at hck
    clear h
    unfold St.v Pol.v at *
    have HCK := Go.Lib.hid hck
    clear hck
    unfold St.none
    go_enter Try.func61, Try.ntmps61
    go_wp2_with fail
    refine (HCK.out _).mono ?_
    rintro e w1 ⟨rfl, hb⟩
    have hB : Below w.heap.size w w1 := bl_then (bl_alloc (bl_alloc (bl_refl _) _) _) hb
    have hR : ResB w1 (w.heap.size + 1) := res_bl (res_new _ _ _ _ _ _ (by simp)) hb
    obtain ⟨f0, f1, f2, f3, u0, u1, u2, u3, i0, i1, i2, i3⟩ := res_all hR
    clear hb HCK
    go_wp2_with fail
    (try simp only [Exit.inBlock, Exit.then])
    refine bodyPost_ret (results_state rfl _ _ (by rfl) (set4 _ _ _ _ i0 i1 i2 i3)) rfl ⟨by first | rfl | simp, bl4 hB (by omega)⟩
end Go.Proofs.Ythinbjknkjpdjaa

namespace Go.Proofs.Ythinbjknkjpdjaa
open Go.RowKit
set_option linter.unusedVariables false
set_option linter.unusedSimpArgs false

set_option maxHeartbeats 1000000 in
set_option maxRecDepth 100000 in
theorem wnew_any (p : Pol) (now : Int) (w : World) : Calls Try.prog 57 #[p.v, .int .i64 now] w fun e w' => e = .returned ((newL p now).v none 0 0) ∧ Below w.heap.size w w' := by
  have hck := wcheck_any p
  unfold newL
  by_cases h : okL p
  · rw [if_pos h]
    rw [show chkL p = 0 from if_pos h] at hck
    clear h
    obtain ⟨k, l, d, b, cc, o⟩ := p
    have hcl := clamp_any now
    unfold St.v Pol.v at *
    dsimp only at *
    generalize clampT now = T at *
    have HCK := Go.Lib.hid hck
    have HCL := Go.Lib.hid hcl
    clear hcl hck
    go_enter Try.func57, Try.ntmps57
    go_wp2_with fail
    refine (HCK.out _).mono ?_
    rintro e w1 ⟨rfl, hb⟩
    have hB : Below w.heap.size w w1 := bl_then (bl_alloc (bl_alloc (bl_refl _) _) _) hb
    have c0 := bl_cell (v := .int .i64 k) hb (show World.cell? _ ⟨w.heap.size, 0, none⟩ = _ by go_simp)
    have c1 := bl_cell (v := .int .i64 l) hb (show World.cell? _ ⟨w.heap.size, 1, none⟩ = _ by go_simp)
    have c2 := bl_cell (v := .int .i64 d) hb (show World.cell? _ ⟨w.heap.size, 2, none⟩ = _ by go_simp)
    have c3 := bl_cell (v := .int .i64 b) hb (show World.cell? _ ⟨w.heap.size, 3, none⟩ = _ by go_simp)
    have c4 := bl_cell (v := .int .i64 cc) hb (show World.cell? _ ⟨w.heap.size, 4, none⟩ = _ by go_simp)
    have c5 := bl_cell (v := .bool o) hb (show World.cell? _ ⟨w.heap.size, 5, none⟩ = _ by go_simp)
    have hR : ResB w1 (w.heap.size + 1) := res_bl (res_new _ _ _ _ _ _ (by simp)) hb
    clear hb HCK
    go_wp2_with fail
    refine (HCL.out _).mono ?_
    rintro e w2 ⟨rfl, rfl⟩
    obtain ⟨f0, f1, f2, f3, u0, u1, u2, u3, i0, i1, i2, i3⟩ := res_all hR
    go_wp2_with fail
    (try simp only [Exit.inBlock, Exit.then])
    refine bodyPost_ret (results_state rfl _ _ (by rfl) (set4 _ _ _ _ i0 i1 i2 i3)) rfl ⟨by first | rfl | simp, bl4 hB (by omega)⟩
  · rw [if_neg h]
    rw [show chkL p = 2 from if_neg h] at hck
    clear h
    unfold St.v Pol.v at *
    have HCK := Go.Lib.hid hck
    clear hck
    unfold St.none
    go_enter Try.func57, Try.ntmps57
    go_wp2_with fail
    refine (HCK.out _).mono ?_
    rintro e w1 ⟨rfl, hb⟩
    have hB : Below w.heap.size w w1 := bl_then (bl_alloc (bl_alloc (bl_refl _) _) _) hb
    have hR : ResB w1 (w.heap.size + 1) := res_bl (res_new _ _ _ _ _ _ (by simp)) hb
    obtain ⟨f0, f1, f2, f3, u0, u1, u2, u3, i0, i1, i2, i3⟩ := res_all hR
    clear hb HCK
    go_wp2_with fail
    (try simp only [Exit.inBlock, Exit.then])
    refine bodyPost_ret (results_state rfl _ _ (by rfl) (set4 _ _ _ _ i0 i1 i2 i3)) rfl ⟨by first | rfl | simp, bl4 hB (by omega)⟩
end Go.Proofs.Ythinbjknkjpdjaa

namespace Go.Proofs.Ythinbjknkjpdjaa
open Go.RowKit
set_option linter.unusedVariables false
set_option linter.unusedSimpArgs false

set_option maxHeartbeats 1000000 in
set_option maxRecDepth 100000 in
theorem broom_any (p : Pol) (s : St) (a : Option Addr) (n c : Nat) (now : Int) (hn : s.log.length = n) (w : World) : Calls Try.prog 66 #[p.v, s.v a n c, .int .i64 now] w fun e w' => e = .returned (.int .i64 (roomB p s now)) ∧ Below w.heap.size w w' := by
  have hrt := bright_any p s a n c hn
  have hav := badv_any p s a n c now hn
  unfold roomB
  by_cases h : rightB p s
  · rw [if_pos h]
    rw [decide_eq_true h] at hrt
    have hpd : 1 ≤ p.period := h.1.2.2.2.1
    have hlv := advB_level p s now h
    have r7 := h.2.2.2.2.2.2.2
    rw [r7] at hn
    subst hn
    generalize advB p s now = A at *
    obtain ⟨aat, alv, ahd, alg⟩ := A
    clear h r7
    obtain ⟨k, l, d, b, cc, o⟩ := p
    obtain ⟨at_, level, held, lg⟩ := s
    unfold St.v Pol.v at *
    dsimp only [List.length_nil] at *
    have hq : Int.tdiv alv d = alv / d := Int.tdiv_eq_ediv_of_nonneg hlv.1
    have hq0 : ¬ d = 0 := by omega
    have hq1 : 0 ≤ alv / d := Int.ediv_nonneg hlv.1 (by omega)
    have hq2 : alv / d ≤ alv := Int.ediv_le_self _ hlv.1
    have hq3 : IntKind.i64.wrap (alv / d) = alv / d := IntWalk.i64_in _ (by omega)
    have HRT := Go.Lib.hid hrt
    have HAV := Go.Lib.hid hav
    clear hrt hav hlv hq1 hq2 hpd
    have FL := fld_level
    go_enter Try.func66, Try.ntmps66
    go_wp2_with fail
    refine (HRT.out _).mono ?_
    rintro e w1 ⟨rfl, hb⟩
    have hB : Below w.heap.size w w1 := bl_then (bl_alloc (bl_alloc (bl_refl _) _) _) hb
    have c0 := bl_cell (v := .int .i64 k) hb (show World.cell? _ ⟨w.heap.size, 0, none⟩ = _ by go_simp)
    have c1 := bl_cell (v := .int .i64 l) hb (show World.cell? _ ⟨w.heap.size, 1, none⟩ = _ by go_simp)
    have c2 := bl_cell (v := .int .i64 d) hb (show World.cell? _ ⟨w.heap.size, 2, none⟩ = _ by go_simp)
    have c3 := bl_cell (v := .int .i64 b) hb (show World.cell? _ ⟨w.heap.size, 3, none⟩ = _ by go_simp)
    have c4 := bl_cell (v := .int .i64 cc) hb (show World.cell? _ ⟨w.heap.size, 4, none⟩ = _ by go_simp)
    have c5 := bl_cell (v := .bool o) hb (show World.cell? _ ⟨w.heap.size, 5, none⟩ = _ by go_simp)
    have c6 := bl_cell (v := .int .i64 at_) hb (show World.cell? _ ⟨w.heap.size + 1, 0, none⟩ = _ by go_simp)
    have c7 := bl_cell (v := .int .i64 level) hb (show World.cell? _ ⟨w.heap.size + 1, 1, none⟩ = _ by go_simp)
    have c8 := bl_cell (v := .int .i64 held) hb (show World.cell? _ ⟨w.heap.size + 1, 2, none⟩ = _ by go_simp)
    have c9 := bl_cell (v := .slice a 0 c) hb (show World.cell? _ ⟨w.heap.size + 1, 3, none⟩ = _ by go_simp)
    clear hb HRT
    go_wp2_with fail
    refine wp_region_held_drew (S := fun w' => w'.cell? ⟨w.heap.size, 0, none⟩ = some (.int .i64 k) ∧ w'.cell? ⟨w.heap.size, 1, none⟩ = some (.int .i64 l) ∧ w'.cell? ⟨w.heap.size, 2, none⟩ = some (.int .i64 d) ∧ w'.cell? ⟨w.heap.size, 3, none⟩ = some (.int .i64 b) ∧ w'.cell? ⟨w.heap.size, 4, none⟩ = some (.int .i64 cc) ∧ w'.cell? ⟨w.heap.size, 5, none⟩ = some (.bool o) ∧ w'.cell? ⟨w.heap.size + 1, 0, none⟩ = some (.int .i64 at_) ∧ w'.cell? ⟨w.heap.size + 1, 1, none⟩ = some (.int .i64 level) ∧ w'.cell? ⟨w.heap.size + 1, 2, none⟩ = some (.int .i64 held) ∧ w'.cell? ⟨w.heap.size + 1, 3, none⟩ = some (.slice a 0 c) ∧ Below w.heap.size w w') (by kernel_rfl) ?_ (fun hHeld => ?_)
    · exact ⟨c0, c1, c2, c3, c4, c5, c6, c7, c8, c9, bl_drew hB⟩
    try simp only [Act.put, List.setIfInBounds_toArray, List.set_cons_zero, List.set_cons_succ]
    all_goals ((refine tk (i := 0) rfl rfl hHeld ?_))
    all_goals ((refine tk (i := 1) rfl rfl hHeld ?_))
    all_goals ((refine tk (i := 2) rfl rfl hHeld ?_))
    all_goals ((refine tk (i := 5) rfl rfl hHeld ?_))
    all_goals ((refine tk (i := 6) rfl rfl hHeld ?_))
    all_goals ((refine callH (i := 3) rfl hHeld (fun W hW K hK => ?_); clear hHeld; (try dsimp only at hW); go_simp; refine (HAV.out _).mono ?_; rintro e w1 ⟨rfl, hb⟩; go_wp2_with fail; refine hK.out _ _ ?_ (fun hHeld => ?_); (focus ((try dsimp only); (obtain ⟨h0, h1, h2, h3, h4, h5, h6, h7, h8, h9, hB'⟩ := hW; exact ⟨bl_cell hb h0, bl_cell hb h1, bl_cell hb h2, bl_cell hb h3, bl_cell hb h4, bl_cell hb h5, bl_cell hb h6, bl_cell hb h7, bl_cell hb h8, bl_cell hb h9, bl_then hB' hb⟩))); clear hK K; try simp only [Act.put, List.setIfInBounds_toArray, List.set_cons_zero, List.set_cons_succ]))
    all_goals ((refine tk (i := 4) rfl rfl hHeld ?_))
    all_goals ((refine tk (i := 7) rfl rfl hHeld ?_))
    all_goals ((refine tk (i := 8) rfl rfl hHeld ?_))
    all_goals (refine wpAnyH_done (by kernel_rfl) ?_ _)
    obtain ⟨-, -, -, -, -, -, -, -, -, -, hE⟩ := hHeld
    go_wp2
    go_ret
    exact ⟨rfl, hE⟩
  · rw [if_neg h]
    rw [decide_eq_false h] at hrt
    clear h hav
    unfold St.v Pol.v at *
    have HRT := Go.Lib.hid hrt
    clear hrt
    go_enter Try.func66, Try.ntmps66
    go_wp2_with fail
    refine (HRT.out _).mono ?_
    rintro e w1 ⟨rfl, hb⟩
    have hB : Below w.heap.size w w1 := bl_then (bl_alloc (bl_alloc (bl_refl _) _) _) hb
    clear hb HRT
    go_wp2
    go_ret
    exact ⟨rfl, hB⟩
end Go.Proofs.Ythinbjknkjpdjaa

namespace Go.Proofs.Ythinbjknkjpdjaa
open Go.RowKit
set_option linter.unusedVariables false
set_option linter.unusedSimpArgs false

set_option maxHeartbeats 1000000 in
set_option maxRecDepth 100000 in
theorem groom_any (p : Pol) (s : St) (a : Option Addr) (n c : Nat) (now : Int) (hn : s.log.length = n) (w : World) : Calls Try.prog 54 #[p.v, s.v a n c, .int .i64 now] w fun e w' => e = .returned (.int .i64 (roomG p s now)) ∧ Below w.heap.size w w' := by
  have hrt := gright_any p s a n c hn
  have hav := gadv_any p s a n c now hn
  unfold roomG
  by_cases h : rightG p s
  · rw [if_pos h]
    rw [decide_eq_true h] at hrt
    have hpd : 1 ≤ p.period := h.1.2.2.2.2.2.2.1
    have hlv := advG_level p s now h
    have r7 := h.2.2.2.2.2.2.2
    rw [r7] at hn
    subst hn
    generalize advG p s now = A at *
    obtain ⟨aat, alv, ahd, alg⟩ := A
    clear h r7
    obtain ⟨k, l, d, b, cc, o⟩ := p
    obtain ⟨at_, level, held, lg⟩ := s
    unfold St.v Pol.v at *
    dsimp only [List.length_nil] at *
    have hq : Int.tdiv (b * d - alv) d = (b * d - alv) / d := Int.tdiv_eq_ediv_of_nonneg (by omega)
    have hq0 : ¬ d = 0 := by omega
    have hq1 : 0 ≤ (b * d - alv) / d := Int.ediv_nonneg (by omega) (by omega)
    have hq2 : (b * d - alv) / d ≤ b * d - alv := Int.ediv_le_self _ (by omega)
    have hq3 : IntKind.i64.wrap ((b * d - alv) / d) = (b * d - alv) / d := IntWalk.i64_in _ (by omega)
    have hw1 : IntKind.i64.wrap (b * d) = b * d := IntWalk.i64_in _ (by omega)
    have hw2 : IntKind.i64.wrap (b * d - alv) = b * d - alv := IntWalk.i64_in _ (by omega)
    have HRT := Go.Lib.hid hrt
    have HAV := Go.Lib.hid hav
    clear hrt hav hlv hq1 hq2 hpd
    have FL := fld_level
    go_enter Try.func54, Try.ntmps54
    go_wp2_with fail
    refine (HRT.out _).mono ?_
    rintro e w1 ⟨rfl, hb⟩
    have hB : Below w.heap.size w w1 := bl_then (bl_alloc (bl_alloc (bl_refl _) _) _) hb
    have c0 := bl_cell (v := .int .i64 k) hb (show World.cell? _ ⟨w.heap.size, 0, none⟩ = _ by go_simp)
    have c1 := bl_cell (v := .int .i64 l) hb (show World.cell? _ ⟨w.heap.size, 1, none⟩ = _ by go_simp)
    have c2 := bl_cell (v := .int .i64 d) hb (show World.cell? _ ⟨w.heap.size, 2, none⟩ = _ by go_simp)
    have c3 := bl_cell (v := .int .i64 b) hb (show World.cell? _ ⟨w.heap.size, 3, none⟩ = _ by go_simp)
    have c4 := bl_cell (v := .int .i64 cc) hb (show World.cell? _ ⟨w.heap.size, 4, none⟩ = _ by go_simp)
    have c5 := bl_cell (v := .bool o) hb (show World.cell? _ ⟨w.heap.size, 5, none⟩ = _ by go_simp)
    have c6 := bl_cell (v := .int .i64 at_) hb (show World.cell? _ ⟨w.heap.size + 1, 0, none⟩ = _ by go_simp)
    have c7 := bl_cell (v := .int .i64 level) hb (show World.cell? _ ⟨w.heap.size + 1, 1, none⟩ = _ by go_simp)
    have c8 := bl_cell (v := .int .i64 held) hb (show World.cell? _ ⟨w.heap.size + 1, 2, none⟩ = _ by go_simp)
    have c9 := bl_cell (v := .slice a 0 c) hb (show World.cell? _ ⟨w.heap.size + 1, 3, none⟩ = _ by go_simp)
    clear hb HRT
    go_wp2_with fail
    refine wp_region_held_drew (S := fun w' => w'.cell? ⟨w.heap.size, 0, none⟩ = some (.int .i64 k) ∧ w'.cell? ⟨w.heap.size, 1, none⟩ = some (.int .i64 l) ∧ w'.cell? ⟨w.heap.size, 2, none⟩ = some (.int .i64 d) ∧ w'.cell? ⟨w.heap.size, 3, none⟩ = some (.int .i64 b) ∧ w'.cell? ⟨w.heap.size, 4, none⟩ = some (.int .i64 cc) ∧ w'.cell? ⟨w.heap.size, 5, none⟩ = some (.bool o) ∧ w'.cell? ⟨w.heap.size + 1, 0, none⟩ = some (.int .i64 at_) ∧ w'.cell? ⟨w.heap.size + 1, 1, none⟩ = some (.int .i64 level) ∧ w'.cell? ⟨w.heap.size + 1, 2, none⟩ = some (.int .i64 held) ∧ w'.cell? ⟨w.heap.size + 1, 3, none⟩ = some (.slice a 0 c) ∧ Below w.heap.size w w') (by kernel_rfl) ?_ (fun hHeld => ?_)
    · exact ⟨c0, c1, c2, c3, c4, c5, c6, c7, c8, c9, bl_drew hB⟩
    try simp only [Act.put, List.setIfInBounds_toArray, List.set_cons_zero, List.set_cons_succ]
    all_goals ((refine tk (i := 0) rfl rfl hHeld ?_))
    all_goals ((refine tk (i := 1) rfl rfl hHeld ?_))
    all_goals ((refine tk (i := 2) rfl rfl hHeld ?_))
    all_goals ((refine tk (i := 3) rfl rfl hHeld ?_))
    all_goals ((refine tk (i := 4) rfl rfl hHeld ?_))
    all_goals ((refine tk (i := 5) rfl rfl hHeld ?_))
    all_goals ((refine tk (i := 6) rfl rfl hHeld ?_))
    all_goals ((refine tk (i := 7) rfl rfl hHeld ?_))
    all_goals ((refine tk (i := 11) rfl rfl hHeld ?_))
    all_goals ((refine tk (i := 12) rfl rfl hHeld ?_))
    all_goals ((refine callH (i := 8) rfl hHeld (fun W hW K hK => ?_); clear hHeld; (try dsimp only at hW); go_simp; refine (HAV.out _).mono ?_; rintro e w1 ⟨rfl, hb⟩; go_wp2_with fail; refine hK.out _ _ ?_ (fun hHeld => ?_); (focus ((try dsimp only); (obtain ⟨h0, h1, h2, h3, h4, h5, h6, h7, h8, h9, hB'⟩ := hW; exact ⟨bl_cell hb h0, bl_cell hb h1, bl_cell hb h2, bl_cell hb h3, bl_cell hb h4, bl_cell hb h5, bl_cell hb h6, bl_cell hb h7, bl_cell hb h8, bl_cell hb h9, bl_then hB' hb⟩))); clear hK K; try simp only [Act.put, List.setIfInBounds_toArray, List.set_cons_zero, List.set_cons_succ]))
    all_goals ((refine tk (i := 9) rfl rfl hHeld ?_))
    all_goals ((refine tk (i := 10) rfl rfl hHeld ?_))
    all_goals ((refine tk (i := 13) rfl rfl hHeld ?_))
    all_goals ((refine tk (i := 14) rfl rfl hHeld ?_))
    all_goals (refine wpAnyH_done (by kernel_rfl) ?_ _)
    obtain ⟨-, -, -, -, -, -, -, -, -, -, hE⟩ := hHeld
    go_wp2_with fail
    go_ret
    exact ⟨rfl, hE⟩
  · rw [if_neg h]
    rw [decide_eq_false h] at hrt
    clear h hav
    unfold St.v Pol.v at *
    have HRT := Go.Lib.hid hrt
    clear hrt
    go_enter Try.func54, Try.ntmps54
    go_wp2_with fail
    refine (HRT.out _).mono ?_
    rintro e w1 ⟨rfl, hb⟩
    have hB : Below w.heap.size w w1 := bl_then (bl_alloc (bl_alloc (bl_refl _) _) _) hb
    clear hb HRT
    go_wp2
    go_ret
    exact ⟨rfl, hB⟩
end Go.Proofs.Ythinbjknkjpdjaa

namespace Go.Proofs.Ythinbjknkjpdjaa
open Go.RowKit
set_option linter.unusedVariables false
set_option linter.unusedSimpArgs false

set_option maxHeartbeats 1000000 in
set_option maxRecDepth 100000 in
theorem cnext_any (k l d b cc : Int) (o : Bool) (T : Int) (w : World) (hd : 1 ≤ d) (hD : d ≤ 1099511627776) (h0 : 0 ≤ T) : Calls Try.prog 83 #[.agg #[.int .i64 k, .int .i64 l, .int .i64 d, .int .i64 b, .int .i64 cc, .bool o], .int .i64 T] w fun e w' => e = .returned (.int .i64 (d - T % d)) ∧ Below w.heap.size w w' := by
  have hd0 : ¬ d = 0 := by omega
  have t1 : Int.tmod T d = T % d := Int.tmod_eq_emod_of_nonneg h0
  have t2 : 0 ≤ T % d := Int.emod_nonneg _ hd0
  have t3 : T % d < d := Int.emod_lt_of_pos _ (by omega)
  generalize T % d = M at *
  have t4 : IntKind.i64.wrap M = M := IntWalk.i64_in _ (by omega)
  have t5 : IntKind.i64.wrap (d - M) = d - M := IntWalk.i64_in _ (by omega)
  clear t2 t3 hd hD h0
  go_enter Try.func83, Try.ntmps83
  go_wp2_with fail
  refine wp_abs (S0 := fun w' => w'.cell? ⟨w.heap.size, 0, none⟩ = some (.int .i64 k) ∧ w'.cell? ⟨w.heap.size, 1, none⟩ = some (.int .i64 l) ∧ w'.cell? ⟨w.heap.size, 2, none⟩ = some (.int .i64 d) ∧ w'.cell? ⟨w.heap.size, 3, none⟩ = some (.int .i64 b) ∧ w'.cell? ⟨w.heap.size, 4, none⟩ = some (.int .i64 cc) ∧ w'.cell? ⟨w.heap.size, 5, none⟩ = some (.bool o) ∧ Below w.heap.size w w') ⟨by go_simp, by go_simp, by go_simp, by go_simp, by go_simp, by go_simp, bl_alloc (bl_refl _) _⟩ ?_
  rintro W ⟨c0, c1, c2, c3, c4, c5, hB⟩
  refine wp_region_held_drew (S := fun w' => w'.cell? ⟨w.heap.size, 0, none⟩ = some (.int .i64 k) ∧ w'.cell? ⟨w.heap.size, 1, none⟩ = some (.int .i64 l) ∧ w'.cell? ⟨w.heap.size, 2, none⟩ = some (.int .i64 d) ∧ w'.cell? ⟨w.heap.size, 3, none⟩ = some (.int .i64 b) ∧ w'.cell? ⟨w.heap.size, 4, none⟩ = some (.int .i64 cc) ∧ w'.cell? ⟨w.heap.size, 5, none⟩ = some (.bool o) ∧ Below w.heap.size w w') (by kernel_rfl) ?_ (fun hHeld => ?_)
  · exact ⟨c0, c1, c2, c3, c4, c5, bl_drew hB⟩
  try simp only [Act.put, List.setIfInBounds_toArray, List.set_cons_zero, List.set_cons_succ]
  all_goals ((refine tk (i := 0) rfl rfl hHeld ?_))
  all_goals ((refine tk (i := 1) rfl rfl hHeld ?_))
  all_goals ((refine tk (i := 2) rfl rfl hHeld ?_))
  all_goals ((refine tk (i := 3) rfl rfl hHeld ?_))
  all_goals ((refine tk (i := 4) rfl rfl hHeld ?_))
  all_goals ((refine tk (i := 5) rfl rfl hHeld ?_))
  all_goals ((refine tk (i := 6) rfl rfl hHeld ?_))
  all_goals ((refine tk (i := 7) rfl rfl hHeld ?_))
  all_goals (refine wpAnyH_done (by kernel_rfl) ?_ _)
  obtain ⟨-, -, -, -, -, -, hE⟩ := hHeld
  repeat' (first | go_skip | go_guarded | go_step | go_upon)
  go_ret
  exact ⟨rfl, hE⟩

set_option maxHeartbeats 1000000 in
set_option maxRecDepth 100000 in
theorem croom_any (p : Pol) (s : St) (a : Option Addr) (n c : Nat) (now : Int) (hn : s.log.length = n) (w : World) : Calls Try.prog 62 #[p.v, s.v a n c, .int .i64 now] w fun e w' => e = .returned (.int .i64 (roomC p s now)) ∧ Below w.heap.size w w' := by
  have hrt := cright_any p s a n c hn
  have hav := cadv_any p s a n c now hn
  unfold roomC
  by_cases h : rightC p s
  · rw [if_pos h]
    rw [decide_eq_true h] at hrt
    have hlv := advC_level p s now h
    obtain ⟨⟨q0, q1, q2, q3, q4, q5, q6⟩, r1, r2, r3, r4, r5, r6, r7, r8⟩ := h
    rw [r8] at hn
    subst hn
    generalize advC p s now = A at *
    obtain ⟨aat, alv, ahd, alg⟩ := A
    obtain ⟨k, l, d, b, cc, o⟩ := p
    obtain ⟨at_, level, held, lg⟩ := s
    unfold St.v Pol.v at *
    dsimp only [List.length_nil] at *
    have hw1 : IntKind.i64.wrap (l - held) = l - held := IntWalk.i64_in _ (by omega)
    have hw2 : IntKind.i64.wrap (l - held - alv) = l - held - alv := IntWalk.i64_in _ (by omega)
    have HRT := Go.Lib.hid hrt
    have HAV := Go.Lib.hid hav
    clear hrt hav hlv q0 q1 q2 q3 q4 q5 q6 r1 r2 r3 r4 r5 r6 r7 r8
    have FL := fld_level
    go_enter Try.func62, Try.ntmps62
    go_wp2_with fail
    refine (HRT.out _).mono ?_
    rintro e w1 ⟨rfl, hb⟩
    have hB : Below w.heap.size w w1 := bl_then (bl_alloc (bl_alloc (bl_refl _) _) _) hb
    have c0 := bl_cell (v := .int .i64 k) hb (show World.cell? _ ⟨w.heap.size, 0, none⟩ = _ by go_simp)
    have c1 := bl_cell (v := .int .i64 l) hb (show World.cell? _ ⟨w.heap.size, 1, none⟩ = _ by go_simp)
    have c2 := bl_cell (v := .int .i64 d) hb (show World.cell? _ ⟨w.heap.size, 2, none⟩ = _ by go_simp)
    have c3 := bl_cell (v := .int .i64 b) hb (show World.cell? _ ⟨w.heap.size, 3, none⟩ = _ by go_simp)
    have c4 := bl_cell (v := .int .i64 cc) hb (show World.cell? _ ⟨w.heap.size, 4, none⟩ = _ by go_simp)
    have c5 := bl_cell (v := .bool o) hb (show World.cell? _ ⟨w.heap.size, 5, none⟩ = _ by go_simp)
    have c6 := bl_cell (v := .int .i64 at_) hb (show World.cell? _ ⟨w.heap.size + 1, 0, none⟩ = _ by go_simp)
    have c7 := bl_cell (v := .int .i64 level) hb (show World.cell? _ ⟨w.heap.size + 1, 1, none⟩ = _ by go_simp)
    have c8 := bl_cell (v := .int .i64 held) hb (show World.cell? _ ⟨w.heap.size + 1, 2, none⟩ = _ by go_simp)
    have c9 := bl_cell (v := .slice a 0 c) hb (show World.cell? _ ⟨w.heap.size + 1, 3, none⟩ = _ by go_simp)
    clear hb HRT
    go_wp2_with fail
    refine wp_region_held_drew (S := fun w' => w'.cell? ⟨w.heap.size, 0, none⟩ = some (.int .i64 k) ∧ w'.cell? ⟨w.heap.size, 1, none⟩ = some (.int .i64 l) ∧ w'.cell? ⟨w.heap.size, 2, none⟩ = some (.int .i64 d) ∧ w'.cell? ⟨w.heap.size, 3, none⟩ = some (.int .i64 b) ∧ w'.cell? ⟨w.heap.size, 4, none⟩ = some (.int .i64 cc) ∧ w'.cell? ⟨w.heap.size, 5, none⟩ = some (.bool o) ∧ w'.cell? ⟨w.heap.size + 1, 0, none⟩ = some (.int .i64 at_) ∧ w'.cell? ⟨w.heap.size + 1, 1, none⟩ = some (.int .i64 level) ∧ w'.cell? ⟨w.heap.size + 1, 2, none⟩ = some (.int .i64 held) ∧ w'.cell? ⟨w.heap.size + 1, 3, none⟩ = some (.slice a 0 c) ∧ Below w.heap.size w w') (by kernel_rfl) ?_ (fun hHeld => ?_)
    · exact ⟨c0, c1, c2, c3, c4, c5, c6, c7, c8, c9, bl_drew hB⟩
    try simp only [Act.put, List.setIfInBounds_toArray, List.set_cons_zero, List.set_cons_succ]
    all_goals ((refine tk (i := 0) rfl rfl hHeld ?_))
    all_goals ((refine tk (i := 1) rfl rfl hHeld ?_))
    all_goals ((refine tk (i := 2) rfl rfl hHeld ?_))
    all_goals ((refine tk (i := 3) rfl rfl hHeld ?_))
    all_goals ((refine tk (i := 4) rfl rfl hHeld ?_))
    all_goals ((refine tk (i := 5) rfl rfl hHeld ?_))
    all_goals ((refine tk (i := 6) rfl rfl hHeld ?_))
    all_goals ((refine tk (i := 7) rfl rfl hHeld ?_))
    all_goals ((refine callH (i := 8) rfl hHeld (fun W hW K hK => ?_); clear hHeld; (try dsimp only at hW); go_simp; refine (HAV.out _).mono ?_; rintro e w1 ⟨rfl, hb⟩; go_wp2_with fail; refine hK.out _ _ ?_ (fun hHeld => ?_); (focus ((try dsimp only); (obtain ⟨h0, h1, h2, h3, h4, h5, h6, h7, h8, h9, hB'⟩ := hW; exact ⟨bl_cell hb h0, bl_cell hb h1, bl_cell hb h2, bl_cell hb h3, bl_cell hb h4, bl_cell hb h5, bl_cell hb h6, bl_cell hb h7, bl_cell hb h8, bl_cell hb h9, bl_then hB' hb⟩))); clear hK K; try simp only [Act.put, List.setIfInBounds_toArray, List.set_cons_zero, List.set_cons_succ]))
    all_goals ((refine tk (i := 9) rfl rfl hHeld ?_))
    all_goals ((refine tk (i := 10) rfl rfl hHeld ?_))
    all_goals ((refine tk (i := 11) rfl rfl hHeld ?_))
    all_goals (refine wpAnyH_done (by kernel_rfl) ?_ _)
    obtain ⟨-, -, -, -, -, -, -, -, -, -, hE⟩ := hHeld
    repeat' (first | go_skip | go_guarded | go_step | go_upon)
    go_ret
    exact ⟨rfl, hE⟩
  · rw [if_neg h]
    rw [decide_eq_false h] at hrt
    clear h hav
    unfold St.v Pol.v at *
    have HRT := Go.Lib.hid hrt
    clear hrt
    go_enter Try.func62, Try.ntmps62
    go_wp2_with fail
    refine (HRT.out _).mono ?_
    rintro e w1 ⟨rfl, hb⟩
    have hB : Below w.heap.size w w1 := bl_then (bl_alloc (bl_alloc (bl_refl _) _) _) hb
    clear hb HRT
    go_wp2
    go_ret
    exact ⟨rfl, hB⟩

set_option maxHeartbeats 1000000 in
set_option maxRecDepth 100000 in
theorem cuntil_any (p : Pol) (s : St) (a : Option Addr) (n c : Nat) (now : Int) (hn : s.log.length = n) (w : World) : Calls Try.prog 63 #[p.v, s.v a n c, .int .i64 now] w fun e w' => e = .returned (.int .i64 (untilC p s now)) ∧ Below w.heap.size w w' := by
  have hrt := cright_any p s a n c hn
  have hav := cadv_any p s a n c now hn
  unfold untilC
  by_cases h : rightC p s ∧ s.held ≤ 0
  · rw [if_pos h]
    obtain ⟨h, hh⟩ := h
    rw [decide_eq_true h] at hrt
    have hlv := advC_level p s now h
    have r8 := h.2.2.2.2.2.2.2.2
    have q2 := h.1.2.2.1
    have q4 := h.1.2.2.2.2.1
    rw [r8] at hn
    subst hn
    have hnx := fun w => cnext_any p.kind p.limit p.period p.burst p.cap p.opn (advC p s now).at_ w q2 q4 hlv.2.2.2.1
    generalize advC p s now = A at *
    obtain ⟨aat, alv, ahd, alg⟩ := A
    clear h r8
    obtain ⟨k, l, d, b, cc, o⟩ := p
    obtain ⟨at_, level, held, lg⟩ := s
    unfold St.v Pol.v at *
    dsimp only [List.length_nil] at *
    have HRT := Go.Lib.hid hrt
    have HAV := Go.Lib.hid hav
    have HNX := Go.Lib.hid hnx
    clear hrt hav hnx hlv
    by_cases hx : 0 < alv
    · rw [if_pos hx]
      go_enter Try.func63, Try.ntmps63
      go_wp2_with fail
      refine (HRT.out _).mono ?_
      rintro e w1 ⟨rfl, hb⟩
      have hB : Below w.heap.size w w1 := bl_then (bl_alloc (bl_alloc (bl_refl _) _) _) hb
      have c0 := bl_cell (v := .int .i64 k) hb (show World.cell? _ ⟨w.heap.size, 0, none⟩ = _ by go_simp)
      have c1 := bl_cell (v := .int .i64 l) hb (show World.cell? _ ⟨w.heap.size, 1, none⟩ = _ by go_simp)
      have c2 := bl_cell (v := .int .i64 d) hb (show World.cell? _ ⟨w.heap.size, 2, none⟩ = _ by go_simp)
      have c3 := bl_cell (v := .int .i64 b) hb (show World.cell? _ ⟨w.heap.size, 3, none⟩ = _ by go_simp)
      have c4 := bl_cell (v := .int .i64 cc) hb (show World.cell? _ ⟨w.heap.size, 4, none⟩ = _ by go_simp)
      have c5 := bl_cell (v := .bool o) hb (show World.cell? _ ⟨w.heap.size, 5, none⟩ = _ by go_simp)
      have c6 := bl_cell (v := .int .i64 at_) hb (show World.cell? _ ⟨w.heap.size + 1, 0, none⟩ = _ by go_simp)
      have c7 := bl_cell (v := .int .i64 level) hb (show World.cell? _ ⟨w.heap.size + 1, 1, none⟩ = _ by go_simp)
      have c8 := bl_cell (v := .int .i64 held) hb (show World.cell? _ ⟨w.heap.size + 1, 2, none⟩ = _ by go_simp)
      have c9 := bl_cell (v := .slice a 0 c) hb (show World.cell? _ ⟨w.heap.size + 1, 3, none⟩ = _ by go_simp)
      clear hb HRT
      go_wp2_with fail
      refine (HAV.out _).mono ?_
      rintro e w2 ⟨rfl, hb⟩
      have d0 := bl_cell (bl_alloc hb (.cells #[.int .i64 aat, .int .i64 alv, .int .i64 ahd, .slice none 0 0] 32)) c0
      have d1 := bl_cell (bl_alloc hb (.cells #[.int .i64 aat, .int .i64 alv, .int .i64 ahd, .slice none 0 0] 32)) c1
      have d2 := bl_cell (bl_alloc hb (.cells #[.int .i64 aat, .int .i64 alv, .int .i64 ahd, .slice none 0 0] 32)) c2
      have d3 := bl_cell (bl_alloc hb (.cells #[.int .i64 aat, .int .i64 alv, .int .i64 ahd, .slice none 0 0] 32)) c3
      have d4 := bl_cell (bl_alloc hb (.cells #[.int .i64 aat, .int .i64 alv, .int .i64 ahd, .slice none 0 0] 32)) c4
      have d5 := bl_cell (bl_alloc hb (.cells #[.int .i64 aat, .int .i64 alv, .int .i64 ahd, .slice none 0 0] 32)) c5
      have d6 := bl_cell (bl_alloc hb (.cells #[.int .i64 aat, .int .i64 alv, .int .i64 ahd, .slice none 0 0] 32)) c6
      have d7 := bl_cell (bl_alloc hb (.cells #[.int .i64 aat, .int .i64 alv, .int .i64 ahd, .slice none 0 0] 32)) c7
      have d8 := bl_cell (bl_alloc hb (.cells #[.int .i64 aat, .int .i64 alv, .int .i64 ahd, .slice none 0 0] 32)) c8
      have d9 := bl_cell (bl_alloc hb (.cells #[.int .i64 aat, .int .i64 alv, .int .i64 ahd, .slice none 0 0] 32)) c9
      have dB := bl_then hB hb
      clear hB hb c0 c1 c2 c3 c4 c5 c6 c7 c8 c9
      go_wp2_with fail
      refine (HNX.out _).mono ?_
      rintro e w3 ⟨rfl, hb⟩
      go_wp2_with fail
      go_ret
      exact ⟨rfl, bl_then (bl_alloc dB _) hb⟩
    · rw [if_neg hx]
      go_enter Try.func63, Try.ntmps63
      go_wp2_with fail
      refine (HRT.out _).mono ?_
      rintro e w1 ⟨rfl, hb⟩
      have hB : Below w.heap.size w w1 := bl_then (bl_alloc (bl_alloc (bl_refl _) _) _) hb
      have c0 := bl_cell (v := .int .i64 k) hb (show World.cell? _ ⟨w.heap.size, 0, none⟩ = _ by go_simp)
      have c1 := bl_cell (v := .int .i64 l) hb (show World.cell? _ ⟨w.heap.size, 1, none⟩ = _ by go_simp)
      have c2 := bl_cell (v := .int .i64 d) hb (show World.cell? _ ⟨w.heap.size, 2, none⟩ = _ by go_simp)
      have c3 := bl_cell (v := .int .i64 b) hb (show World.cell? _ ⟨w.heap.size, 3, none⟩ = _ by go_simp)
      have c4 := bl_cell (v := .int .i64 cc) hb (show World.cell? _ ⟨w.heap.size, 4, none⟩ = _ by go_simp)
      have c5 := bl_cell (v := .bool o) hb (show World.cell? _ ⟨w.heap.size, 5, none⟩ = _ by go_simp)
      have c6 := bl_cell (v := .int .i64 at_) hb (show World.cell? _ ⟨w.heap.size + 1, 0, none⟩ = _ by go_simp)
      have c7 := bl_cell (v := .int .i64 level) hb (show World.cell? _ ⟨w.heap.size + 1, 1, none⟩ = _ by go_simp)
      have c8 := bl_cell (v := .int .i64 held) hb (show World.cell? _ ⟨w.heap.size + 1, 2, none⟩ = _ by go_simp)
      have c9 := bl_cell (v := .slice a 0 c) hb (show World.cell? _ ⟨w.heap.size + 1, 3, none⟩ = _ by go_simp)
      clear hb HRT
      go_wp2_with fail
      refine (HAV.out _).mono ?_
      rintro e w2 ⟨rfl, hb⟩
      have d0 := bl_cell (bl_alloc hb (.cells #[.int .i64 aat, .int .i64 alv, .int .i64 ahd, .slice none 0 0] 32)) c0
      have d1 := bl_cell (bl_alloc hb (.cells #[.int .i64 aat, .int .i64 alv, .int .i64 ahd, .slice none 0 0] 32)) c1
      have d2 := bl_cell (bl_alloc hb (.cells #[.int .i64 aat, .int .i64 alv, .int .i64 ahd, .slice none 0 0] 32)) c2
      have d3 := bl_cell (bl_alloc hb (.cells #[.int .i64 aat, .int .i64 alv, .int .i64 ahd, .slice none 0 0] 32)) c3
      have d4 := bl_cell (bl_alloc hb (.cells #[.int .i64 aat, .int .i64 alv, .int .i64 ahd, .slice none 0 0] 32)) c4
      have d5 := bl_cell (bl_alloc hb (.cells #[.int .i64 aat, .int .i64 alv, .int .i64 ahd, .slice none 0 0] 32)) c5
      have d6 := bl_cell (bl_alloc hb (.cells #[.int .i64 aat, .int .i64 alv, .int .i64 ahd, .slice none 0 0] 32)) c6
      have d7 := bl_cell (bl_alloc hb (.cells #[.int .i64 aat, .int .i64 alv, .int .i64 ahd, .slice none 0 0] 32)) c7
      have d8 := bl_cell (bl_alloc hb (.cells #[.int .i64 aat, .int .i64 alv, .int .i64 ahd, .slice none 0 0] 32)) c8
      have d9 := bl_cell (bl_alloc hb (.cells #[.int .i64 aat, .int .i64 alv, .int .i64 ahd, .slice none 0 0] 32)) c9
      have dB := bl_then hB hb
      clear hB hb c0 c1 c2 c3 c4 c5 c6 c7 c8 c9
      go_wp2_with fail
      go_ret
      exact ⟨rfl, bl_alloc dB _⟩
  · rw [if_neg h]
    by_cases h1 : rightC p s
    · rw [decide_eq_true h1] at hrt
      have hh : 0 < s.held := by
        by_cases h2 : 0 < s.held
        · exact h2
        · exact absurd ⟨h1, by omega⟩ h
      clear h h1 hav
      obtain ⟨k, l, d, b, cc, o⟩ := p
      obtain ⟨at_, level, held, lg⟩ := s
      unfold St.v Pol.v at *
      dsimp only at *
      have HRT := Go.Lib.hid hrt
      clear hrt
      go_enter Try.func63, Try.ntmps63
      go_wp2_with fail
      refine (HRT.out _).mono ?_
      rintro e w1 ⟨rfl, hb⟩
      have hB : Below w.heap.size w w1 := bl_then (bl_alloc (bl_alloc (bl_refl _) _) _) hb
      have c0 := bl_cell (v := .int .i64 k) hb (show World.cell? _ ⟨w.heap.size, 0, none⟩ = _ by go_simp)
      have c1 := bl_cell (v := .int .i64 l) hb (show World.cell? _ ⟨w.heap.size, 1, none⟩ = _ by go_simp)
      have c2 := bl_cell (v := .int .i64 d) hb (show World.cell? _ ⟨w.heap.size, 2, none⟩ = _ by go_simp)
      have c3 := bl_cell (v := .int .i64 b) hb (show World.cell? _ ⟨w.heap.size, 3, none⟩ = _ by go_simp)
      have c4 := bl_cell (v := .int .i64 cc) hb (show World.cell? _ ⟨w.heap.size, 4, none⟩ = _ by go_simp)
      have c5 := bl_cell (v := .bool o) hb (show World.cell? _ ⟨w.heap.size, 5, none⟩ = _ by go_simp)
      have c6 := bl_cell (v := .int .i64 at_) hb (show World.cell? _ ⟨w.heap.size + 1, 0, none⟩ = _ by go_simp)
      have c7 := bl_cell (v := .int .i64 level) hb (show World.cell? _ ⟨w.heap.size + 1, 1, none⟩ = _ by go_simp)
      have c8 := bl_cell (v := .int .i64 held) hb (show World.cell? _ ⟨w.heap.size + 1, 2, none⟩ = _ by go_simp)
      have c9 := bl_cell (v := .slice a n c) hb (show World.cell? _ ⟨w.heap.size + 1, 3, none⟩ = _ by go_simp)
      clear hb HRT
      go_wp2
      go_ret
      exact ⟨rfl, hB⟩
    · rw [decide_eq_false h1] at hrt
      clear h h1 hav
      unfold St.v Pol.v at *
      have HRT := Go.Lib.hid hrt
      clear hrt
      go_enter Try.func63, Try.ntmps63
      go_wp2_with fail
      refine (HRT.out _).mono ?_
      rintro e w1 ⟨rfl, hb⟩
      have hB : Below w.heap.size w w1 := bl_then (bl_alloc (bl_alloc (bl_refl _) _) _) hb
      clear hb HRT
      go_wp2
      go_ret
      exact ⟨rfl, hB⟩

set_option maxHeartbeats 1000000 in
set_option maxRecDepth 100000 in
theorem cretry_any (p : Pol) (s : St) (a : Option Addr) (n c : Nat) (now cost : Int) (hn : s.log.length = n) (w : World) : Calls Try.prog 64 #[p.v, s.v a n c, .int .i64 now, .int .i64 cost] w fun e w' => e = .returned (.tuple #[.int .i64 (retryC p s now cost).1, .bool (retryC p s now cost).2]) ∧ Below w.heap.size w w' := by
  have hrt := cright_any p s a n c hn
  have hav := cadv_any p s a n c now hn
  unfold retryC
  by_cases h : rightC p s ∧ 1 ≤ cost ∧ cost ≤ p.limit - s.held
  · rw [if_pos h]
    obtain ⟨h, hc1, hc2⟩ := h
    rw [decide_eq_true h] at hrt
    have hlv := advC_level p s now h
    have q2 := h.1.2.2.1
    have q4 := h.1.2.2.2.2.1
    have hnx := fun w => cnext_any p.kind p.limit p.period p.burst p.cap p.opn (advC p s now).at_ w q2 q4 hlv.2.2.2.1
    obtain ⟨⟨q0, q1, q2, q3, q4, q5, q6⟩, r1, r2, r3, r4, r5, r6, r7, r8⟩ := h
    rw [r8] at hn
    subst hn
    generalize advC p s now = A at *
    obtain ⟨aat, alv, ahd, alg⟩ := A
    obtain ⟨k, l, d, b, cc, o⟩ := p
    obtain ⟨at_, level, held, lg⟩ := s
    unfold St.v Pol.v at *
    dsimp only [List.length_nil] at *
    have hah : ahd = held := hlv.2.2.1
    subst hah
    have hw1 : IntKind.i64.wrap (l - ahd) = l - ahd := IntWalk.i64_in _ (by omega)
    have hw2 : IntKind.i64.wrap (l - ahd - alv) = l - ahd - alv := IntWalk.i64_in _ (by omega)
    have HRT := Go.Lib.hid hrt
    have HAV := Go.Lib.hid hav
    have HNX := Go.Lib.hid hnx
    clear hrt hav hnx hlv q0 q1 q2 q3 q4 q5 q6 r1 r2 r3 r4 r5 r6 r7 r8
    by_cases hx : l - ahd - alv < cost
    · rw [if_pos hx]
      go_enter Try.func64, Try.ntmps64
      go_wp2_with fail
      refine (HRT.out _).mono ?_
      rintro e w1 ⟨rfl, hb⟩
      have hB : Below w.heap.size w w1 := bl_then (bl_alloc (bl_alloc (bl_refl _) _) _) hb
      have c0 := bl_cell (v := .int .i64 k) hb (show World.cell? _ ⟨w.heap.size, 0, none⟩ = _ by go_simp)
      have c1 := bl_cell (v := .int .i64 l) hb (show World.cell? _ ⟨w.heap.size, 1, none⟩ = _ by go_simp)
      have c2 := bl_cell (v := .int .i64 d) hb (show World.cell? _ ⟨w.heap.size, 2, none⟩ = _ by go_simp)
      have c3 := bl_cell (v := .int .i64 b) hb (show World.cell? _ ⟨w.heap.size, 3, none⟩ = _ by go_simp)
      have c4 := bl_cell (v := .int .i64 cc) hb (show World.cell? _ ⟨w.heap.size, 4, none⟩ = _ by go_simp)
      have c5 := bl_cell (v := .bool o) hb (show World.cell? _ ⟨w.heap.size, 5, none⟩ = _ by go_simp)
      have c6 := bl_cell (v := .int .i64 at_) hb (show World.cell? _ ⟨w.heap.size + 1, 0, none⟩ = _ by go_simp)
      have c7 := bl_cell (v := .int .i64 level) hb (show World.cell? _ ⟨w.heap.size + 1, 1, none⟩ = _ by go_simp)
      have c8 := bl_cell (v := .int .i64 ahd) hb (show World.cell? _ ⟨w.heap.size + 1, 2, none⟩ = _ by go_simp)
      have c9 := bl_cell (v := .slice a 0 c) hb (show World.cell? _ ⟨w.heap.size + 1, 3, none⟩ = _ by go_simp)
      clear hb HRT
      go_wp2_with fail
      refine (HAV.out _).mono ?_
      rintro e w2 ⟨rfl, hb⟩
      have d0 := bl_cell (bl_alloc hb (.cells #[.int .i64 aat, .int .i64 alv, .int .i64 ahd, .slice none 0 0] 32)) c0
      have d1 := bl_cell (bl_alloc hb (.cells #[.int .i64 aat, .int .i64 alv, .int .i64 ahd, .slice none 0 0] 32)) c1
      have d2 := bl_cell (bl_alloc hb (.cells #[.int .i64 aat, .int .i64 alv, .int .i64 ahd, .slice none 0 0] 32)) c2
      have d3 := bl_cell (bl_alloc hb (.cells #[.int .i64 aat, .int .i64 alv, .int .i64 ahd, .slice none 0 0] 32)) c3
      have d4 := bl_cell (bl_alloc hb (.cells #[.int .i64 aat, .int .i64 alv, .int .i64 ahd, .slice none 0 0] 32)) c4
      have d5 := bl_cell (bl_alloc hb (.cells #[.int .i64 aat, .int .i64 alv, .int .i64 ahd, .slice none 0 0] 32)) c5
      have d6 := bl_cell (bl_alloc hb (.cells #[.int .i64 aat, .int .i64 alv, .int .i64 ahd, .slice none 0 0] 32)) c6
      have d7 := bl_cell (bl_alloc hb (.cells #[.int .i64 aat, .int .i64 alv, .int .i64 ahd, .slice none 0 0] 32)) c7
      have d8 := bl_cell (bl_alloc hb (.cells #[.int .i64 aat, .int .i64 alv, .int .i64 ahd, .slice none 0 0] 32)) c8
      have d9 := bl_cell (bl_alloc hb (.cells #[.int .i64 aat, .int .i64 alv, .int .i64 ahd, .slice none 0 0] 32)) c9
      have dB := bl_then hB hb
      clear hB hb c0 c1 c2 c3 c4 c5 c6 c7 c8 c9
      go_wp2_with fail
      refine (HNX.out _).mono ?_
      rintro e w3 ⟨rfl, hb⟩
      go_wp2_with fail
      go_ret2
      exact ⟨rfl, bl_then (bl_alloc dB _) hb⟩
    · rw [if_neg hx]
      go_enter Try.func64, Try.ntmps64
      go_wp2_with fail
      refine (HRT.out _).mono ?_
      rintro e w1 ⟨rfl, hb⟩
      have hB : Below w.heap.size w w1 := bl_then (bl_alloc (bl_alloc (bl_refl _) _) _) hb
      have c0 := bl_cell (v := .int .i64 k) hb (show World.cell? _ ⟨w.heap.size, 0, none⟩ = _ by go_simp)
      have c1 := bl_cell (v := .int .i64 l) hb (show World.cell? _ ⟨w.heap.size, 1, none⟩ = _ by go_simp)
      have c2 := bl_cell (v := .int .i64 d) hb (show World.cell? _ ⟨w.heap.size, 2, none⟩ = _ by go_simp)
      have c3 := bl_cell (v := .int .i64 b) hb (show World.cell? _ ⟨w.heap.size, 3, none⟩ = _ by go_simp)
      have c4 := bl_cell (v := .int .i64 cc) hb (show World.cell? _ ⟨w.heap.size, 4, none⟩ = _ by go_simp)
      have c5 := bl_cell (v := .bool o) hb (show World.cell? _ ⟨w.heap.size, 5, none⟩ = _ by go_simp)
      have c6 := bl_cell (v := .int .i64 at_) hb (show World.cell? _ ⟨w.heap.size + 1, 0, none⟩ = _ by go_simp)
      have c7 := bl_cell (v := .int .i64 level) hb (show World.cell? _ ⟨w.heap.size + 1, 1, none⟩ = _ by go_simp)
      have c8 := bl_cell (v := .int .i64 ahd) hb (show World.cell? _ ⟨w.heap.size + 1, 2, none⟩ = _ by go_simp)
      have c9 := bl_cell (v := .slice a 0 c) hb (show World.cell? _ ⟨w.heap.size + 1, 3, none⟩ = _ by go_simp)
      clear hb HRT
      go_wp2_with fail
      refine (HAV.out _).mono ?_
      rintro e w2 ⟨rfl, hb⟩
      have d0 := bl_cell (bl_alloc hb (.cells #[.int .i64 aat, .int .i64 alv, .int .i64 ahd, .slice none 0 0] 32)) c0
      have d1 := bl_cell (bl_alloc hb (.cells #[.int .i64 aat, .int .i64 alv, .int .i64 ahd, .slice none 0 0] 32)) c1
      have d2 := bl_cell (bl_alloc hb (.cells #[.int .i64 aat, .int .i64 alv, .int .i64 ahd, .slice none 0 0] 32)) c2
      have d3 := bl_cell (bl_alloc hb (.cells #[.int .i64 aat, .int .i64 alv, .int .i64 ahd, .slice none 0 0] 32)) c3
      have d4 := bl_cell (bl_alloc hb (.cells #[.int .i64 aat, .int .i64 alv, .int .i64 ahd, .slice none 0 0] 32)) c4
      have d5 := bl_cell (bl_alloc hb (.cells #[.int .i64 aat, .int .i64 alv, .int .i64 ahd, .slice none 0 0] 32)) c5
      have d6 := bl_cell (bl_alloc hb (.cells #[.int .i64 aat, .int .i64 alv, .int .i64 ahd, .slice none 0 0] 32)) c6
      have d7 := bl_cell (bl_alloc hb (.cells #[.int .i64 aat, .int .i64 alv, .int .i64 ahd, .slice none 0 0] 32)) c7
      have d8 := bl_cell (bl_alloc hb (.cells #[.int .i64 aat, .int .i64 alv, .int .i64 ahd, .slice none 0 0] 32)) c8
      have d9 := bl_cell (bl_alloc hb (.cells #[.int .i64 aat, .int .i64 alv, .int .i64 ahd, .slice none 0 0] 32)) c9
      have dB := bl_then hB hb
      clear hB hb c0 c1 c2 c3 c4 c5 c6 c7 c8 c9
      go_wp2_with fail
      go_ret2
      exact ⟨rfl, bl_alloc dB _⟩
  · rw [if_neg h]
    by_cases h1 : rightC p s
    · rw [decide_eq_true h1] at hrt
      have hc : cost < 1 ∨ 1 ≤ cost ∧ p.limit - s.held < cost := by
        by_cases h2 : cost < 1
        · exact .inl h2
        · by_cases h3 : p.limit - s.held < cost
          · exact .inr ⟨by omega, h3⟩
          · exact absurd ⟨h1, by omega, by omega⟩ h
      have hw0 : IntKind.i64.wrap (p.limit - s.held) = p.limit - s.held := IntWalk.i64_in _ (by have h2 := h1.1.2.1; have h3 := h1.1.2.2.2.1; have h4 := h1.2.2.2.1; have h5 := h1.2.2.2.2.2.1; omega)
      clear h h1 hav
      obtain ⟨k, l, d, b, cc, o⟩ := p
      obtain ⟨at_, level, held, lg⟩ := s
      unfold St.v Pol.v at *
      dsimp only at *
      rcases hc with hc | ⟨hc1, hc⟩
      · have HRT := Go.Lib.hid hrt
        clear hrt
        go_enter Try.func64, Try.ntmps64
        go_wp2_with fail
        refine (HRT.out _).mono ?_
        rintro e w1 ⟨rfl, hb⟩
        have hB : Below w.heap.size w w1 := bl_then (bl_alloc (bl_alloc (bl_refl _) _) _) hb
        have c0 := bl_cell (v := .int .i64 k) hb (show World.cell? _ ⟨w.heap.size, 0, none⟩ = _ by go_simp)
        have c1 := bl_cell (v := .int .i64 l) hb (show World.cell? _ ⟨w.heap.size, 1, none⟩ = _ by go_simp)
        have c2 := bl_cell (v := .int .i64 d) hb (show World.cell? _ ⟨w.heap.size, 2, none⟩ = _ by go_simp)
        have c3 := bl_cell (v := .int .i64 b) hb (show World.cell? _ ⟨w.heap.size, 3, none⟩ = _ by go_simp)
        have c4 := bl_cell (v := .int .i64 cc) hb (show World.cell? _ ⟨w.heap.size, 4, none⟩ = _ by go_simp)
        have c5 := bl_cell (v := .bool o) hb (show World.cell? _ ⟨w.heap.size, 5, none⟩ = _ by go_simp)
        have c6 := bl_cell (v := .int .i64 at_) hb (show World.cell? _ ⟨w.heap.size + 1, 0, none⟩ = _ by go_simp)
        have c7 := bl_cell (v := .int .i64 level) hb (show World.cell? _ ⟨w.heap.size + 1, 1, none⟩ = _ by go_simp)
        have c8 := bl_cell (v := .int .i64 held) hb (show World.cell? _ ⟨w.heap.size + 1, 2, none⟩ = _ by go_simp)
        have c9 := bl_cell (v := .slice a n c) hb (show World.cell? _ ⟨w.heap.size + 1, 3, none⟩ = _ by go_simp)
        clear hb HRT
        go_wp2
        go_ret2
        exact ⟨rfl, hB⟩
      · have HRT := Go.Lib.hid hrt
        clear hrt
        go_enter Try.func64, Try.ntmps64
        go_wp2_with fail
        refine (HRT.out _).mono ?_
        rintro e w1 ⟨rfl, hb⟩
        have hB : Below w.heap.size w w1 := bl_then (bl_alloc (bl_alloc (bl_refl _) _) _) hb
        have c0 := bl_cell (v := .int .i64 k) hb (show World.cell? _ ⟨w.heap.size, 0, none⟩ = _ by go_simp)
        have c1 := bl_cell (v := .int .i64 l) hb (show World.cell? _ ⟨w.heap.size, 1, none⟩ = _ by go_simp)
        have c2 := bl_cell (v := .int .i64 d) hb (show World.cell? _ ⟨w.heap.size, 2, none⟩ = _ by go_simp)
        have c3 := bl_cell (v := .int .i64 b) hb (show World.cell? _ ⟨w.heap.size, 3, none⟩ = _ by go_simp)
        have c4 := bl_cell (v := .int .i64 cc) hb (show World.cell? _ ⟨w.heap.size, 4, none⟩ = _ by go_simp)
        have c5 := bl_cell (v := .bool o) hb (show World.cell? _ ⟨w.heap.size, 5, none⟩ = _ by go_simp)
        have c6 := bl_cell (v := .int .i64 at_) hb (show World.cell? _ ⟨w.heap.size + 1, 0, none⟩ = _ by go_simp)
        have c7 := bl_cell (v := .int .i64 level) hb (show World.cell? _ ⟨w.heap.size + 1, 1, none⟩ = _ by go_simp)
        have c8 := bl_cell (v := .int .i64 held) hb (show World.cell? _ ⟨w.heap.size + 1, 2, none⟩ = _ by go_simp)
        have c9 := bl_cell (v := .slice a n c) hb (show World.cell? _ ⟨w.heap.size + 1, 3, none⟩ = _ by go_simp)
        clear hb HRT
        go_wp2
        go_ret2
        exact ⟨rfl, hB⟩
    · rw [decide_eq_false h1] at hrt
      clear h h1 hav
      unfold St.v Pol.v at *
      have HRT := Go.Lib.hid hrt
      clear hrt
      go_enter Try.func64, Try.ntmps64
      go_wp2_with fail
      refine (HRT.out _).mono ?_
      rintro e w1 ⟨rfl, hb⟩
      have hB : Below w.heap.size w w1 := bl_then (bl_alloc (bl_alloc (bl_refl _) _) _) hb
      clear hb HRT
      go_wp2
      go_ret2
      exact ⟨rfl, hB⟩
end Go.Proofs.Ythinbjknkjpdjaa

namespace Go.Proofs.Ythinbjknkjpdjaa
open Go.RowKit
set_option linter.unusedVariables false
set_option linter.unusedSimpArgs false

set_option maxHeartbeats 1000000 in
set_option maxRecDepth 100000 in
theorem wroom_any (p : Pol) (s : St) (a : Option Addr) (n c : Nat) (now : Int) (w : World) (hlog : LogAt w a n c s.log) : Calls Try.prog 58 #[p.v, s.v a n c, .int .i64 now] w fun e w' => e = .returned (.int .i64 (roomL p s now)) ∧ Below w.heap.size w w' := by
  have hrt := fun W hW => wright_any p s a n c W hW
  have hav := fun W hW => wadv_any p s a n c now W hW
  unfold roomL
  by_cases h : rightL p s
  · rw [if_pos h]
    rw [decide_eq_true h] at hrt
    have hall := risen_all h.2.2.2.2.2.2.1
    have hsub := live_sub p.period (up s.at_ (clampT now)) s.log
    have hAe : (advL p s now).log = live p.period (up s.at_ (clampT now)) s.log := by unfold advL; rw [if_pos h]
    rw [← hAe] at hsub
    obtain ⟨⟨q0, q1, q2, q3, q4, q5, q6, q7⟩, r1, r2, r3, r4, r5, r6, r7, r8⟩ := h
    generalize advL p s now = A at *
    have hlen := hlog.1
    have hent : ∀ e ∈ A.log, 0 ≤ e.2 ∧ e.2 ≤ 1048576 := fun e he => by have := hall e (hsub.1 e he); omega
    have hsb := sumL_bound A.log 1048576 hent
    have hw1 : IntKind.i64.wrap (p.limit - s.held) = p.limit - s.held := IntWalk.i64_in _ (by omega)
    have hw2 : IntKind.i64.wrap (p.limit - s.held - sumL A.log) = p.limit - s.held - sumL A.log := IntWalk.i64_in _ (by omega)
    have hsum := fun a2 m2 c2 W (hW : LogAt W a2 m2 c2 A.log) => sum_any a2 m2 c2 A.log W hW (by have := hW.1; have := hsub.2; omega) hent
    clear hall hsub hAe hsb hent hlen r1 r2 r3 r4 r6 r7 r8 q0 q1 q2 q3 q4 q5 q6 q7
    obtain ⟨k, l, d, b, cc, o⟩ := p
    obtain ⟨at_, level, held, L⟩ := s
    obtain ⟨aat, alv, ahd, L2⟩ := A
    unfold St.v Pol.v at *
    dsimp only at *
    subst r5
    generalize sumL L2 = S2 at *
    have HRT := Go.Lib.hid hrt
    have HAV := Go.Lib.hid hav
    have HSM := Go.Lib.hid hsum
    have HLOG := Go.Lib.hid hlog
    have FL := fld_log
    clear hrt hav hsum hlog
    go_enter Try.func58, Try.ntmps58
    go_wp2_with fail
    refine (HRT.out _ (log_bl HLOG.out (bl_alloc (bl_alloc (bl_refl _) _) _))).mono ?_
    rintro e w1 ⟨rfl, hb⟩
    have hB : Below w.heap.size w w1 := bl_then (bl_alloc (bl_alloc (bl_refl _) _) _) hb
    have c0 := bl_cell (v := .int .i64 k) hb (show World.cell? _ ⟨w.heap.size, 0, none⟩ = _ by go_simp)
    have c1 := bl_cell (v := .int .i64 l) hb (show World.cell? _ ⟨w.heap.size, 1, none⟩ = _ by go_simp)
    have c2 := bl_cell (v := .int .i64 d) hb (show World.cell? _ ⟨w.heap.size, 2, none⟩ = _ by go_simp)
    have c3 := bl_cell (v := .int .i64 b) hb (show World.cell? _ ⟨w.heap.size, 3, none⟩ = _ by go_simp)
    have c4 := bl_cell (v := .int .i64 cc) hb (show World.cell? _ ⟨w.heap.size, 4, none⟩ = _ by go_simp)
    have c5 := bl_cell (v := .bool o) hb (show World.cell? _ ⟨w.heap.size, 5, none⟩ = _ by go_simp)
    have c6 := bl_cell (v := .int .i64 at_) hb (show World.cell? _ ⟨w.heap.size + 1, 0, none⟩ = _ by go_simp)
    have c7 := bl_cell (v := .int .i64 0) hb (show World.cell? _ ⟨w.heap.size + 1, 1, none⟩ = _ by go_simp)
    have c8 := bl_cell (v := .int .i64 held) hb (show World.cell? _ ⟨w.heap.size + 1, 2, none⟩ = _ by go_simp)
    have c9 := bl_cell (v := .slice a n c) hb (show World.cell? _ ⟨w.heap.size + 1, 3, none⟩ = _ by go_simp)
    have hlg := log_bl HLOG.out hB
    clear hb HRT HLOG
    go_wp2_with fail
    refine wp_region_held_drew (S := fun w' => w'.cell? ⟨w.heap.size, 0, none⟩ = some (.int .i64 k) ∧ w'.cell? ⟨w.heap.size, 1, none⟩ = some (.int .i64 l) ∧ w'.cell? ⟨w.heap.size, 2, none⟩ = some (.int .i64 d) ∧ w'.cell? ⟨w.heap.size, 3, none⟩ = some (.int .i64 b) ∧ w'.cell? ⟨w.heap.size, 4, none⟩ = some (.int .i64 cc) ∧ w'.cell? ⟨w.heap.size, 5, none⟩ = some (.bool o) ∧ w'.cell? ⟨w.heap.size + 1, 0, none⟩ = some (.int .i64 at_) ∧ w'.cell? ⟨w.heap.size + 1, 1, none⟩ = some (.int .i64 0) ∧ w'.cell? ⟨w.heap.size + 1, 2, none⟩ = some (.int .i64 held) ∧ w'.cell? ⟨w.heap.size + 1, 3, none⟩ = some (.slice a n c) ∧ LogAt w' a n c L ∧ Below w.heap.size w w') (by kernel_rfl) ?_ (fun hHeld => ?_)
    · exact ⟨c0, c1, c2, c3, c4, c5, c6, c7, c8, c9, hlg, bl_drew hB⟩
    try simp only [Act.put, List.setIfInBounds_toArray, List.set_cons_zero, List.set_cons_succ]
    (refine tk (i := 0) rfl rfl hHeld ?_)
    (refine tk (i := 1) rfl rfl hHeld ?_)
    (refine tk (i := 2) rfl rfl hHeld ?_)
    (refine tk (i := 3) rfl rfl hHeld ?_)
    (refine tk (i := 4) rfl rfl hHeld ?_)
    (refine tk (i := 5) rfl rfl hHeld ?_)
    (refine tk (i := 6) rfl rfl hHeld ?_)
    (refine tk (i := 7) rfl rfl hHeld ?_)
    (refine callH (i := 8) rfl hHeld (fun W hW K hK => ?_); clear hHeld; (try dsimp only at hW); obtain ⟨h0, h1, h2, h3, h4, h5, h6, h7, h8, h9, hl', hB'⟩ := hW; go_simp; refine (HAV.out _ hl').mono ?_; rintro e w9 ⟨⟨v9, m9, rfl, hown⟩, hb⟩; obtain ⟨a9, cp9, rfl, hlg9⟩ := own_log hown; dsimp only; go_wp2_with fail; refine hK.out _ _ ?_ (fun hHeld => ?_); (focus ((try dsimp only); exact ⟨bl_cell hb h0, bl_cell hb h1, bl_cell hb h2, bl_cell hb h3, bl_cell hb h4, bl_cell hb h5, bl_cell hb h6, bl_cell hb h7, bl_cell hb h8, bl_cell hb h9, log_bl hl' hb, bl_then hB' hb⟩)); clear hK K; clear hb hB' hl' h0 h1 h2 h3 h4 h5 h6 h7 h8 h9; try simp only [Act.put, List.setIfInBounds_toArray, List.set_cons_zero, List.set_cons_succ])
    (refine tk (i := 9) rfl rfl hHeld ?_)
    (refine callC (i := 10) rfl (fun K hK => ?_); obtain ⟨h0, h1, h2, h3, h4, h5, h6, h7, h8, h9, hl', hB'⟩ := (id hHeld); go_simp; refine (HSM.out _ _ _ _ hlg9).mono ?_; rintro e w8 ⟨rfl, hb⟩; go_wp2_with fail; refine hK.out _ _ ?_ (fun hHeld2 => ?_); (focus ((try dsimp only); exact ⟨bl_cell hb h0, bl_cell hb h1, bl_cell hb h2, bl_cell hb h3, bl_cell hb h4, bl_cell hb h5, bl_cell hb h6, bl_cell hb h7, bl_cell hb h8, bl_cell hb h9, log_bl hl' hb, bl_then hB' hb⟩)); clear hHeld hK K; rename _ => hHeld; try simp only [Act.put, List.setIfInBounds_toArray, List.set_cons_zero, List.set_cons_succ])
    (refine tk (i := 11) rfl rfl hHeld ?_)
    (refine tk (i := 12) rfl rfl hHeld ?_)
    refine wpAnyH_done (by kernel_rfl) ?_ _
    obtain ⟨-, -, -, -, -, -, -, -, -, -, -, hE⟩ := hHeld
    repeat' (first | go_skip | go_guarded | go_step | go_upon)
    go_ret
    exact ⟨rfl, hE⟩
  · rw [if_neg h]
    rw [decide_eq_false h] at hrt
    clear h hav
    unfold St.v Pol.v at *
    have HRT := Go.Lib.hid hrt
    clear hrt
    go_enter Try.func58, Try.ntmps58
    go_wp2_with fail
    refine (HRT.out _ (log_bl hlog (bl_alloc (bl_alloc (bl_refl _) _) _))).mono ?_
    rintro e w1 ⟨rfl, hb⟩
    have hB : Below w.heap.size w w1 := bl_then (bl_alloc (bl_alloc (bl_refl _) _) _) hb
    go_wp2_with fail
    go_ret
    exact ⟨rfl, hB⟩
end Go.Proofs.Ythinbjknkjpdjaa

namespace Go.Proofs.Ythinbjknkjpdjaa
open Go.RowKit
set_option linter.unusedVariables false
set_option linter.unusedSimpArgs false

theorem meth_do (x : Array Value) (w : World) : (method 60 76 (.agg x) "tapster/limiter.do").run Try.prog w = .ok (113, .agg x) w := by kernel_rfl
theorem meth_start (x : Array Value) (w : World) : (method 60 76 (.agg x) "tapster/limiter.start").run Try.prog w = .ok (117, .agg x) w := by kernel_rfl
theorem meth_room (x : Array Value) (w : World) : (method 60 76 (.agg x) "tapster/limiter.room").run Try.prog w = .ok (116, .agg x) w := by kernel_rfl
def doP (p : Pol) (s : St) (x : Ac) : St × Bool := if p.kind = 2 then doG p s x else if p.kind = 3 then doL p s x else if p.kind = 4 then doC p s x else doB p s x
def newP (p : Pol) (now : Int) : St := if p.kind = 2 then newG p now else if p.kind = 3 then newL p now else if p.kind = 4 then newC p now else newB p now
def roomP (p : Pol) (s : St) (now : Int) : Int := if p.kind = 2 then roomG p s now else if p.kind = 3 then roomL p s now else if p.kind = 4 then roomC p s now else roomB p s now
theorem kern_do (p : Pol) (s : St) (a : Option Addr) (n c : Nat) (x : Ac) (w : World) (hl : LogAt w a n c s.log) : Calls Try.prog 113 #[.agg (kern p.kind), p.v, s.v a n c, x.v] w (PostSB a n (doP p s x) w) := by
  unfold kern doP
  by_cases h2 : p.kind = 2
  · rw [if_pos h2, if_pos h2]; exact made_do _ (fun _ _ => by kernel_rfl) _ _ _ _ _ _ _ p s a n c x _ (fun w hw => gdo_all p s a n c x w hw) w hl
  rw [if_neg h2, if_neg h2]
  by_cases h3 : p.kind = 3
  · rw [if_pos h3, if_pos h3]; exact made_do _ (fun _ _ => by kernel_rfl) _ _ _ _ _ _ _ p s a n c x _ (fun w hw => wdo_all p s a n c x w hw) w hl
  rw [if_neg h3, if_neg h3]
  by_cases h4 : p.kind = 4
  · rw [if_pos h4, if_pos h4]; exact made_do _ (fun _ _ => by kernel_rfl) _ _ _ _ _ _ _ p s a n c x _ (fun w hw => cdo_all p s a n c x w hw) w hl
  rw [if_neg h4, if_neg h4]
  exact made_do _ (fun _ _ => by kernel_rfl) _ _ _ _ _ _ _ p s a n c x _ (fun w hw => bdo_all p s a n c x w hw) w hl
theorem kern_start (p : Pol) (now : Int) (w : World) : Calls Try.prog 117 #[.agg (kern p.kind), p.v, .int .i64 now] w fun e w' => e = .returned ((newP p now).v none 0 0) ∧ Below w.heap.size w w' := by
  unfold kern newP
  by_cases h2 : p.kind = 2
  · rw [if_pos h2, if_pos h2]; exact made_start _ (fun _ _ => by kernel_rfl) _ _ _ _ _ _ _ p now _ (gnew_any p now) w
  rw [if_neg h2, if_neg h2]
  by_cases h3 : p.kind = 3
  · rw [if_pos h3, if_pos h3]; exact made_start _ (fun _ _ => by kernel_rfl) _ _ _ _ _ _ _ p now _ (wnew_any p now) w
  rw [if_neg h3, if_neg h3]
  by_cases h4 : p.kind = 4
  · rw [if_pos h4, if_pos h4]; exact made_start _ (fun _ _ => by kernel_rfl) _ _ _ _ _ _ _ p now _ (cnew_any p now) w
  rw [if_neg h4, if_neg h4]
  exact made_start _ (fun _ _ => by kernel_rfl) _ _ _ _ _ _ _ p now _ (bnew_any p now) w
theorem kern_room (p : Pol) (s : St) (a : Option Addr) (n c : Nat) (now : Int) (w : World) (hl : LogAt w a n c s.log) : Calls Try.prog 116 #[.agg (kern p.kind), p.v, s.v a n c, .int .i64 now] w fun e w' => e = .returned (.int .i64 (roomP p s now)) ∧ Below w.heap.size w w' := by
  unfold kern roomP
  by_cases h2 : p.kind = 2
  · rw [if_pos h2, if_pos h2]; exact made_room _ (fun _ _ => by kernel_rfl) _ _ _ _ _ _ _ p s a n c now _ (fun w hw => groom_any p s a n c now hw.1 w) w hl
  rw [if_neg h2, if_neg h2]
  by_cases h3 : p.kind = 3
  · rw [if_pos h3, if_pos h3]; exact made_room _ (fun _ _ => by kernel_rfl) _ _ _ _ _ _ _ p s a n c now _ (fun w hw => wroom_any p s a n c now w hw) w hl
  rw [if_neg h3, if_neg h3]
  by_cases h4 : p.kind = 4
  · rw [if_pos h4, if_pos h4]; exact made_room _ (fun _ _ => by kernel_rfl) _ _ _ _ _ _ _ p s a n c now _ (fun w hw => croom_any p s a n c now hw.1 w) w hl
  rw [if_neg h4, if_neg h4]
  exact made_room _ (fun _ _ => by kernel_rfl) _ _ _ _ _ _ _ p s a n c now _ (fun w hw => broom_any p s a n c now hw.1 w) w hl

set_option maxHeartbeats 1000000 in
set_option maxRecDepth 100000 in
theorem lnew_any (p : Pol) (now : Int) (w : World) : Calls Try.prog 13 #[p.v, .int .i64 now] w fun e w' => e = .returned ((newP p now).v none 0 0) ∧ Below w.heap.size w w' := by
  have hof := of_any p
  have hkc := kern_start p now
  have hme := meth_start
  generalize kern p.kind = KV at *
  generalize newP p now = R at *
  obtain ⟨k, l, d, b, cc, o⟩ := p
  obtain ⟨rat, rlv, rhd, rL⟩ := R
  unfold St.v Pol.v at *
  dsimp only at *
  have HOF := Go.Lib.hid hof
  have HKC := Go.Lib.hid hkc
  clear hof hkc
  go_enter Try.func13, Try.ntmps13
  go_wp2_with fail
  refine wp_abs (S0 := fun w' => w'.cell? ⟨w.heap.size, 0, none⟩ = some (.int .i64 k) ∧ w'.cell? ⟨w.heap.size, 1, none⟩ = some (.int .i64 l) ∧ w'.cell? ⟨w.heap.size, 2, none⟩ = some (.int .i64 d) ∧ w'.cell? ⟨w.heap.size, 3, none⟩ = some (.int .i64 b) ∧ w'.cell? ⟨w.heap.size, 4, none⟩ = some (.int .i64 cc) ∧ w'.cell? ⟨w.heap.size, 5, none⟩ = some (.bool o) ∧ ResB w' (w.heap.size + 1) ∧ Below w.heap.size w w') ⟨by go_simp, by go_simp, by go_simp, by go_simp, by go_simp, by go_simp, res_new _ _ _ _ _ _ (by simp), bl_alloc (bl_alloc (bl_refl _) _) _⟩ ?_
  rintro W ⟨c0, c1, c2, c3, c4, c5, hR, hB⟩
  refine wp_region_held_drew (S := fun w' => w'.cell? ⟨w.heap.size, 0, none⟩ = some (.int .i64 k) ∧ w'.cell? ⟨w.heap.size, 1, none⟩ = some (.int .i64 l) ∧ w'.cell? ⟨w.heap.size, 2, none⟩ = some (.int .i64 d) ∧ w'.cell? ⟨w.heap.size, 3, none⟩ = some (.int .i64 b) ∧ w'.cell? ⟨w.heap.size, 4, none⟩ = some (.int .i64 cc) ∧ w'.cell? ⟨w.heap.size, 5, none⟩ = some (.bool o) ∧ ResB w' (w.heap.size + 1) ∧ Below w.heap.size w w') (by kernel_rfl) ?_ (fun hHeld => ?_)
  · exact ⟨c0, c1, c2, c3, c4, c5, hR, bl_drew hB⟩
  try simp only [Act.put, List.setIfInBounds_toArray, List.set_cons_zero, List.set_cons_succ]
  all_goals ((refine tk (i := 0) rfl rfl hHeld ?_))
  all_goals ((refine tk (i := 2) rfl rfl hHeld ?_))
  all_goals ((refine tk (i := 3) rfl rfl hHeld ?_))
  all_goals ((refine callH (i := 1) rfl hHeld (fun W hW K hK => ?_); clear hHeld; (try dsimp only at hW); go_simp; refine (HOF.out _).mono ?_; rintro e w1 ⟨rfl, hb⟩; go_wp2_with fail; refine hK.out _ _ ?_ (fun hHeld => ?_); (focus ((try dsimp only); (obtain ⟨h0, h1, h2, h3, h4, h5, hr', hB'⟩ := hW; exact ⟨bl_cell hb h0, bl_cell hb h1, bl_cell hb h2, bl_cell hb h3, bl_cell hb h4, bl_cell hb h5, res_bl hr' hb, bl_then hB' hb⟩))); clear hK K; try simp only [Act.put, List.setIfInBounds_toArray, List.set_cons_zero, List.set_cons_succ]))
  all_goals ((refine callH (i := 4) rfl hHeld (fun W hW K hK => ?_); clear hHeld; (try dsimp only at hW); go_simp; refine (HKC.out _).mono ?_; rintro e w1 ⟨rfl, hb⟩; go_wp2_with fail; refine hK.out _ _ ?_ (fun hHeld => ?_); (focus ((try dsimp only); (obtain ⟨h0, h1, h2, h3, h4, h5, hr', hB'⟩ := hW; exact ⟨bl_cell hb h0, bl_cell hb h1, bl_cell hb h2, bl_cell hb h3, bl_cell hb h4, bl_cell hb h5, res_bl hr' hb, bl_then hB' hb⟩))); clear hK K; try simp only [Act.put, List.setIfInBounds_toArray, List.set_cons_zero, List.set_cons_succ]))
  all_goals ((refine callH (i := 5) rfl hHeld (fun W hW K hK => ?_); clear hHeld; (try dsimp only at hW); obtain ⟨h0, h1, h2, h3, h4, h5, hr', hB'⟩ := hW; obtain ⟨f0, f1, f2, f3, u0, u1, u2, u3, i0, i1, i2, i3⟩ := res_all hr'; go_simp; refine hK.out _ _ ?_ (fun hHeld => ?_); (focus ((try dsimp only); (have e0 : w.heap.size + 1 ≠ w.heap.size := (by omega); exact ⟨far4 h0 e0, far4 h1 e0, far4 h2 e0, far4 h3 e0, far4 h4 e0, far4 h5 e0, res4 hr', bl4 hB' (by omega)⟩))); clear hK K; try simp only [Act.put, List.setIfInBounds_toArray, List.set_cons_zero, List.set_cons_succ]))
  all_goals (refine wpAnyH_done (by kernel_rfl) ?_ _)
  obtain ⟨-, -, -, -, -, -, -, hE⟩ := hHeld
  repeat' (first | go_skip | go_guarded | go_step | go_upon)
  (try simp only [Exit.inBlock, Exit.then])
  refine bodyPost_ret (results_state rfl _ _ (by rfl) (set4 _ _ _ _ i0 i1 i2 i3)) rfl ⟨by first | rfl | simp, hE⟩

set_option maxHeartbeats 1000000 in
set_option maxRecDepth 100000 in
theorem lroom_any (p : Pol) (s : St) (a : Option Addr) (n c : Nat) (now : Int) (w : World) (hl : LogAt w a n c s.log) : Calls Try.prog 15 #[p.v, s.v a n c, .int .i64 now] w fun e w' => e = .returned (.int .i64 (roomP p s now)) ∧ Below w.heap.size w w' := by
  have hof := of_any p
  have hkc := fun W hW => kern_room p s a n c now W hW
  have hme := meth_room
  generalize kern p.kind = KV at *
  generalize roomP p s now = R at *
  obtain ⟨k, l, d, b, cc, o⟩ := p
  obtain ⟨at_, level, held, L⟩ := s
  unfold St.v Pol.v at *
  dsimp only at *
  have HOF := Go.Lib.hid hof
  have HKC := Go.Lib.hid hkc
  have HL := Go.Lib.hid hl
  clear hof hkc hl
  go_enter Try.func15, Try.ntmps15
  go_wp2_with fail
  refine wp_abs (S0 := fun w' => w'.cell? ⟨w.heap.size, 0, none⟩ = some (.int .i64 k) ∧ w'.cell? ⟨w.heap.size, 1, none⟩ = some (.int .i64 l) ∧ w'.cell? ⟨w.heap.size, 2, none⟩ = some (.int .i64 d) ∧ w'.cell? ⟨w.heap.size, 3, none⟩ = some (.int .i64 b) ∧ w'.cell? ⟨w.heap.size, 4, none⟩ = some (.int .i64 cc) ∧ w'.cell? ⟨w.heap.size, 5, none⟩ = some (.bool o) ∧ w'.cell? ⟨w.heap.size + 1, 0, none⟩ = some (.int .i64 at_) ∧ w'.cell? ⟨w.heap.size + 1, 1, none⟩ = some (.int .i64 level) ∧ w'.cell? ⟨w.heap.size + 1, 2, none⟩ = some (.int .i64 held) ∧ w'.cell? ⟨w.heap.size + 1, 3, none⟩ = some (.slice a n c) ∧ LogAt w' a n c L ∧ Below w.heap.size w w') ⟨by go_simp, by go_simp, by go_simp, by go_simp, by go_simp, by go_simp, by go_simp, by go_simp, by go_simp, by go_simp, log_bl HL.out (bl_alloc (bl_alloc (bl_refl _) _) _), bl_alloc (bl_alloc (bl_refl _) _) _⟩ ?_
  rintro W ⟨c0, c1, c2, c3, c4, c5, c6, c7, c8, c9, hLg, hB⟩
  refine wp_region_held_drew (S := fun w' => w'.cell? ⟨w.heap.size, 0, none⟩ = some (.int .i64 k) ∧ w'.cell? ⟨w.heap.size, 1, none⟩ = some (.int .i64 l) ∧ w'.cell? ⟨w.heap.size, 2, none⟩ = some (.int .i64 d) ∧ w'.cell? ⟨w.heap.size, 3, none⟩ = some (.int .i64 b) ∧ w'.cell? ⟨w.heap.size, 4, none⟩ = some (.int .i64 cc) ∧ w'.cell? ⟨w.heap.size, 5, none⟩ = some (.bool o) ∧ w'.cell? ⟨w.heap.size + 1, 0, none⟩ = some (.int .i64 at_) ∧ w'.cell? ⟨w.heap.size + 1, 1, none⟩ = some (.int .i64 level) ∧ w'.cell? ⟨w.heap.size + 1, 2, none⟩ = some (.int .i64 held) ∧ w'.cell? ⟨w.heap.size + 1, 3, none⟩ = some (.slice a n c) ∧ LogAt w' a n c L ∧ Below w.heap.size w w') (by kernel_rfl) ?_ (fun hHeld => ?_)
  · exact ⟨c0, c1, c2, c3, c4, c5, c6, c7, c8, c9, hLg, bl_drew hB⟩
  try simp only [Act.put, List.setIfInBounds_toArray, List.set_cons_zero, List.set_cons_succ]
  all_goals ((refine tk (i := 0) rfl rfl hHeld ?_))
  all_goals ((refine tk (i := 2) rfl rfl hHeld ?_))
  all_goals ((refine tk (i := 3) rfl rfl hHeld ?_))
  all_goals ((refine tk (i := 4) rfl rfl hHeld ?_))
  all_goals ((refine callH (i := 1) rfl hHeld (fun W hW K hK => ?_); clear hHeld; (try dsimp only at hW); go_simp; refine (HOF.out _).mono ?_; rintro e w1 ⟨rfl, hb⟩; go_wp2_with fail; refine hK.out _ _ ?_ (fun hHeld => ?_); (focus ((try dsimp only); (obtain ⟨h0, h1, h2, h3, h4, h5, h6, h7, h8, h9, hl', hB'⟩ := hW; exact ⟨bl_cell hb h0, bl_cell hb h1, bl_cell hb h2, bl_cell hb h3, bl_cell hb h4, bl_cell hb h5, bl_cell hb h6, bl_cell hb h7, bl_cell hb h8, bl_cell hb h9, log_bl hl' hb, bl_then hB' hb⟩))); clear hK K; try simp only [Act.put, List.setIfInBounds_toArray, List.set_cons_zero, List.set_cons_succ]))
  all_goals ((refine callH (i := 5) rfl hHeld (fun W hW K hK => ?_); clear hHeld; (try dsimp only at hW); have hwl := hW.2.2.2.2.2.2.2.2.2.2.1; go_simp; refine (HKC.out _ hwl).mono ?_; rintro e w1 ⟨rfl, hb⟩; go_wp2_with fail; refine hK.out _ _ ?_ (fun hHeld => ?_); (focus ((try dsimp only); (obtain ⟨h0, h1, h2, h3, h4, h5, h6, h7, h8, h9, hl', hB'⟩ := hW; exact ⟨bl_cell hb h0, bl_cell hb h1, bl_cell hb h2, bl_cell hb h3, bl_cell hb h4, bl_cell hb h5, bl_cell hb h6, bl_cell hb h7, bl_cell hb h8, bl_cell hb h9, log_bl hl' hb, bl_then hB' hb⟩))); clear hK K; try simp only [Act.put, List.setIfInBounds_toArray, List.set_cons_zero, List.set_cons_succ]))
  all_goals ((refine tk (i := 6) rfl rfl hHeld ?_))
  all_goals (refine wpAnyH_done (by kernel_rfl) ?_ _)
  obtain ⟨-, -, -, -, -, -, -, -, -, -, -, hE⟩ := hHeld
  repeat' (first | go_skip | go_guarded | go_step | go_upon)
  go_ret
  exact ⟨rfl, hE⟩

set_option maxHeartbeats 1000000 in
set_option maxRecDepth 100000 in
theorem ldo_any (p : Pol) (s : St) (a : Option Addr) (n c : Nat) (x : Ac) (w : World) (hl : LogAt w a n c s.log) : Calls Try.prog 14 #[p.v, s.v a n c, x.v] w (PostSB a n (doP p s x) w) := by
  have hof := of_any p
  have hkc := fun W hW => kern_do p s a n c x W hW
  have hme := meth_do
  generalize kern p.kind = KV at *
  generalize doP p s x = R at *
  obtain ⟨k, l, d, b, cc, o⟩ := p
  obtain ⟨at_, level, held, L⟩ := s
  obtain ⟨ak, anow, acost⟩ := x
  obtain ⟨⟨rat, rlv, rhd, rL⟩, rok⟩ := R
  unfold Ac.v St.v Pol.v at *
  dsimp only at *
  have HOF := Go.Lib.hid hof
  have HKC := Go.Lib.hid hkc
  have HL := Go.Lib.hid hl
  clear hof hkc hl
  go_enter Try.func14, Try.ntmps14
  go_wp2_with fail
  refine wp_abs (S0 := fun w' => w'.cell? ⟨w.heap.size, 0, none⟩ = some (.int .i64 k) ∧ w'.cell? ⟨w.heap.size, 1, none⟩ = some (.int .i64 l) ∧ w'.cell? ⟨w.heap.size, 2, none⟩ = some (.int .i64 d) ∧ w'.cell? ⟨w.heap.size, 3, none⟩ = some (.int .i64 b) ∧ w'.cell? ⟨w.heap.size, 4, none⟩ = some (.int .i64 cc) ∧ w'.cell? ⟨w.heap.size, 5, none⟩ = some (.bool o) ∧ w'.cell? ⟨w.heap.size + 1, 0, none⟩ = some (.int .i64 at_) ∧ w'.cell? ⟨w.heap.size + 1, 1, none⟩ = some (.int .i64 level) ∧ w'.cell? ⟨w.heap.size + 1, 2, none⟩ = some (.int .i64 held) ∧ w'.cell? ⟨w.heap.size + 1, 3, none⟩ = some (.slice a n c) ∧ w'.cell? ⟨w.heap.size + 1 + 1, 0, none⟩ = some (.int .i64 ak) ∧ w'.cell? ⟨w.heap.size + 1 + 1, 1, none⟩ = some (.int .i64 anow) ∧ w'.cell? ⟨w.heap.size + 1 + 1, 2, none⟩ = some (.int .i64 acost) ∧ LogAt w' a n c L ∧ ResB w' (w.heap.size + 1 + 1 + 1) ∧ Below w.heap.size w w') ⟨by go_simp, by go_simp, by go_simp, by go_simp, by go_simp, by go_simp, by go_simp, by go_simp, by go_simp, by go_simp, by go_simp, by go_simp, by go_simp, log_bl HL.out (bl_alloc (bl_alloc (bl_alloc (bl_alloc (bl_refl _) _) _) _) _), res_new _ _ _ _ _ _ (by simp), bl_alloc (bl_alloc (bl_alloc (bl_alloc (bl_refl _) _) _) _) _⟩ ?_
  rintro W ⟨c0, c1, c2, c3, c4, c5, c6, c7, c8, c9, c10, c11, c12, hLg, hR, hB⟩
  refine wp_region_held_drew (S := fun w' => w'.cell? ⟨w.heap.size, 0, none⟩ = some (.int .i64 k) ∧ w'.cell? ⟨w.heap.size, 1, none⟩ = some (.int .i64 l) ∧ w'.cell? ⟨w.heap.size, 2, none⟩ = some (.int .i64 d) ∧ w'.cell? ⟨w.heap.size, 3, none⟩ = some (.int .i64 b) ∧ w'.cell? ⟨w.heap.size, 4, none⟩ = some (.int .i64 cc) ∧ w'.cell? ⟨w.heap.size, 5, none⟩ = some (.bool o) ∧ w'.cell? ⟨w.heap.size + 1, 0, none⟩ = some (.int .i64 at_) ∧ w'.cell? ⟨w.heap.size + 1, 1, none⟩ = some (.int .i64 level) ∧ w'.cell? ⟨w.heap.size + 1, 2, none⟩ = some (.int .i64 held) ∧ w'.cell? ⟨w.heap.size + 1, 3, none⟩ = some (.slice a n c) ∧ w'.cell? ⟨w.heap.size + 1 + 1, 0, none⟩ = some (.int .i64 ak) ∧ w'.cell? ⟨w.heap.size + 1 + 1, 1, none⟩ = some (.int .i64 anow) ∧ w'.cell? ⟨w.heap.size + 1 + 1, 2, none⟩ = some (.int .i64 acost) ∧ LogAt w' a n c L ∧ ResB w' (w.heap.size + 1 + 1 + 1) ∧ Below w.heap.size w w') (by kernel_rfl) ?_ (fun hHeld => ?_)
  · exact ⟨c0, c1, c2, c3, c4, c5, c6, c7, c8, c9, c10, c11, c12, hLg, hR, bl_drew hB⟩
  try simp only [Act.put, List.setIfInBounds_toArray, List.set_cons_zero, List.set_cons_succ]
  (refine tk (i := 0) rfl rfl hHeld ?_)
  (refine tk (i := 2) rfl rfl hHeld ?_)
  (refine tk (i := 3) rfl rfl hHeld ?_)
  (refine tk (i := 4) rfl rfl hHeld ?_)
  (refine callH (i := 1) rfl hHeld (fun W hW K hK => ?_); clear hHeld; (try dsimp only at hW); go_simp; refine (HOF.out _).mono ?_; rintro e w1 ⟨rfl, hb⟩; go_wp2_with fail; refine hK.out _ _ ?_ (fun hHeld => ?_); (focus ((try dsimp only); (obtain ⟨h0, h1, h2, h3, h4, h5, h6, h7, h8, h9, h10, h11, h12, hl', hr', hB'⟩ := hW; exact ⟨bl_cell hb h0, bl_cell hb h1, bl_cell hb h2, bl_cell hb h3, bl_cell hb h4, bl_cell hb h5, bl_cell hb h6, bl_cell hb h7, bl_cell hb h8, bl_cell hb h9, bl_cell hb h10, bl_cell hb h11, bl_cell hb h12, log_bl hl' hb, res_bl hr' hb, bl_then hB' hb⟩))); clear hK K; try simp only [Act.put, List.setIfInBounds_toArray, List.set_cons_zero, List.set_cons_succ])
  (refine callH (i := 5) rfl hHeld (fun W hW K hK => ?_); clear hHeld; (try dsimp only at hW); have hwl := hW.2.2.2.2.2.2.2.2.2.2.2.2.2.1; have hrl := res_lt hW.2.2.2.2.2.2.2.2.2.2.2.2.2.2.1; have hbw := hW.2.2.2.2.2.2.2.2.2.2.2.2.2.2.2; go_simp; refine (HKC.out _ hwl).mono ?_; rintro e w2 ⟨a9, n9, c9, rfl, hl9, hs9, hb⟩; dsimp only; go_wp2_with fail; refine hK.out _ _ ?_ (fun hHeld => ?_); (focus ((try dsimp only); (obtain ⟨h0, h1, h2, h3, h4, h5, h6, h7, h8, h9, h10, h11, h12, hl', hr', hB'⟩ := hW; exact ⟨bl_cell hb h0, bl_cell hb h1, bl_cell hb h2, bl_cell hb h3, bl_cell hb h4, bl_cell hb h5, bl_cell hb h6, bl_cell hb h7, bl_cell hb h8, bl_cell hb h9, bl_cell hb h10, bl_cell hb h11, bl_cell hb h12, log_bl hl' hb, res_bl hr' hb, bl_then hB' hb⟩))); clear hK K; try simp only [Act.put, List.setIfInBounds_toArray, List.set_cons_zero, List.set_cons_succ])
  (refine tk (i := 6) rfl rfl hHeld ?_)
  (refine tk (i := 7) rfl rfl hHeld ?_)
  (refine callC (i := 8) rfl (fun K hK => ?_); obtain ⟨h0, h1, h2, h3, h4, h5, h6, h7, h8, h9, h10, h11, h12, hl', hr', hB'⟩ := hHeld; obtain ⟨f0, f1, f2, f3, u0, u1, u2, u3, i0, i1, i2, i3⟩ := res_all hr'; have hne := src_ne (b := w.heap.size + 1 + 1 + 1) HL.out hs9 (by omega) (by omega); have hso := src_out (w := w) hs9 hbw.size; have HNE := Go.Lib.hid hne; have HSO := Go.Lib.hid hso; have HL9 := Go.Lib.hid hl9; clear hne hso hs9 hl9; unfold St.v; go_simp; refine hK.out _ _ ?_ (fun hHeld => ?_); (focus ((try dsimp only); (have e0 : w.heap.size + 1 + 1 + 1 ≠ w.heap.size := (by omega); have e1 : w.heap.size + 1 + 1 + 1 ≠ w.heap.size + 1 := (by omega); have e2 : w.heap.size + 1 + 1 + 1 ≠ w.heap.size + 1 + 1 := (by omega); exact ⟨far4 h0 e0, far4 h1 e0, far4 h2 e0, far4 h3 e0, far4 h4 e0, far4 h5 e0, far4 h6 e1, far4 h7 e1, far4 h8 e1, far4 h9 e1, far4 h10 e2, far4 h11 e2, far4 h12 e2, log_set4 hl' (fun ad e hn => by have := log_lt HL.out ad e hn; omega), res4 hr', bl4 hB' (by omega)⟩))); clear hK K; try simp only [Act.put, List.setIfInBounds_toArray, List.set_cons_zero, List.set_cons_succ])
  (refine tk (i := 9) rfl rfl hHeld ?_)
  refine wpAnyH_done (by kernel_rfl) ?_ _
  obtain ⟨-, -, -, -, -, -, -, -, -, -, -, -, -, -, -, hE⟩ := hHeld
  repeat' (first | go_skip | go_guarded | go_step | go_upon)
  (try simp only [Exit.inBlock, Exit.then])
  refine bodyPost_ret (results_state2 rfl _ _ (by rfl) (set4r hr')) rfl ⟨a9, n9, c9, rfl, log_set4 HL9.out HNE.out, HSO.out, hE⟩
end Go.Proofs.Ythinbjknkjpdjaa

namespace Go.Proofs.Ythinbjknkjpdjaa
open Go.RowKit
set_option linter.unusedVariables false
set_option linter.unusedSimpArgs false

def runP (p : Pol) : St → List Ac → St × List Bool
  | s, [] => (s, [])
  | s, x :: l => ((runP p (doP p s x).1 l).1, (doP p s x).2 :: (runP p (doP p s x).1 l).2)
theorem runP_snoc (p : Pol) (x : Ac) : ∀ (l : List Ac) (s : St), runP p s (l ++ [x]) = ((doP p (runP p s l).1 x).1, (runP p s l).2 ++ [(doP p (runP p s l).1 x).2])
  | [], s => rfl
  | y :: l, s => by
    show ((runP p (doP p s y).1 (l ++ [x])).1, (doP p s y).2 :: (runP p (doP p s y).1 (l ++ [x])).2) = _
    rw [runP_snoc p x l]
    rfl
theorem runP_take (p : Pol) (s : St) (l : List Ac) (k : Nat) (h : k < l.length) : runP p s (l.take (k + 1)) = ((doP p (runP p s (l.take k)).1 (l.getD k ⟨0, 0, 0⟩)).1, (runP p s (l.take k)).2 ++ [(doP p (runP p s (l.take k)).1 (l.getD k ⟨0, 0, 0⟩)).2]) := by
  have e : l.take (k + 1) = l.take k ++ [l.getD k ⟨0, 0, 0⟩] := by
    rw [List.take_add_one, List.getD_eq_getElem?_getD, List.getElem?_eq_getElem h]; rfl
  rw [e, runP_snoc]
theorem runP_len (p : Pol) : ∀ (l : List Ac) (s : St), (runP p s l).2.length = l.length
  | [], s => rfl
  | y :: l, s => by show (_ :: (runP p _ l).2).length = _; simp [runP_len p l]
/-- Acts in memory. -/
def ActsIn (w : World) (a : Option Addr) (n c : Nat) (L : List Ac) : Prop :=
  L.length = n ∧ n ≤ c ∧ c ≤ 9223372036854775807 ∧ ∀ i, i < n → ∃ b off, a = some ⟨b, off, none⟩ ∧ w.cell? ⟨b, off + i * 3, none⟩ = some (.int .i64 (L.getD i ⟨0, 0, 0⟩).kind) ∧ w.cell? ⟨b, off + i * 3 + 1, none⟩ = some (.int .i64 (L.getD i ⟨0, 0, 0⟩).now) ∧ w.cell? ⟨b, off + i * 3 + 2, none⟩ = some (.int .i64 (L.getD i ⟨0, 0, 0⟩).cost)
theorem actsin_bl {w w' : World} {a : Option Addr} {n c : Nat} {L : List Ac} (h : ActsIn w a n c L) (hb : Below w.heap.size w w') : ActsIn w' a n c L :=
  ⟨h.1, h.2.1, h.2.2.1, fun i hi => by
    obtain ⟨b, off, e, h1, h2, h3⟩ := h.2.2.2 i hi
    exact ⟨b, off, e, bl_cell hb h1, bl_cell hb h2, bl_cell hb h3⟩⟩
/-- Answers of one's own. -/
def OwnB (w : World) (base : Nat) (v : Value) (n : Nat) (bs : List Bool) : Prop := w.ownsRow base 4 1 v n (bs.map Value.bool)
/-- A log that is empty, or new. -/
def Frs (base : Nat) (a : Option Addr) (n : Nat) : Prop := n = 0 ∨ ∀ ad, a = some ad → base ≤ ad.block
theorem frs_src {base : Nat} {a0 a : Option Addr} {n0 n : Nat} {w : World} (h : Frs base a0 n0) (hs : Src a0 n0 w a n) (hb : base ≤ w.heap.size) : Frs base a n := by
  rcases hs with hs | ⟨rfl, rfl⟩ | hs
  · exact .inl hs
  · exact h
  · exact .inr fun ad e => Nat.le_trans hb (hs ad e)
theorem frs_mono {base base' : Nat} {a : Option Addr} {n : Nat} (h : Frs base a n) (hb : base' ≤ base) : Frs base' a n := by
  rcases h with h | h
  · exact .inl h
  · exact .inr fun ad e => Nat.le_trans hb (h ad e)
theorem own_frs {w : World} {base : Nat} {a : Option Addr} {n c : Nat} {L : List (Int × Int)} (h : OwnLog w base (.slice a n c) n L) : Frs base a n :=
  .inr (fun ad e => by subst e; exact (World.ownsRow.lt h _ rfl).1)
theorem infoB : (Try.prog.info? 4).map (fun i => (i.zero, i.size, i.bytes)) = some (some (.bool false), 1, 1) := by kernel_rfl
theorem undB : Try.prog.underlying 33 = some (.slice 4) := by kernel_rfl

theorem log_cells {w : World} {ad : Addr} {n c : Nat} {L : List (Int × Int)} (h : LogAt w (some ad) n c L) : ∀ j u, (cellsL L)[j]? = some u → w.cell? (ad.add j) = some u := by
  by_cases hn0 : n = 0
  · subst hn0
    have hL : L = [] := List.length_eq_zero_iff.1 h.1
    subst hL
    intro j u hj
    simp [cellsL] at hj
  · obtain ⟨b, off, e, -⟩ := h.2.2.2 0 (by omega)
    injection e with e
    subst e
    refine cellsL_at fun i hi => ?_
    obtain ⟨b', off', e', h1, h2⟩ := h.2.2.2 i (by rw [← h.1]; exact hi)
    injection e' with e'
    injection e' with e1 e2
    subst e1 e2
    exact ⟨h1, h2⟩
theorem run_log (a : Option Addr) (n c : Nat) (L : List (Int × Int)) (w : World) (ty : TypeId) (hl : LogAt w a n c L) (hn : n ≤ 1000) :
    ∃ v' w', (Builtin.append_ #[30, 30] ty #[.slice none 0 0, .slice a n c]).run Try.prog w = .ok v' w' ∧ OwnLog w' w.heap.size v' n L ∧ Below w.heap.size w w' := by
  obtain ⟨i0, hi, hz0, hz1, hz2⟩ := info_parts infoE
  cases a with
  | none =>
    have hn0 : n = 0 := by
      cases n with
      | zero => rfl
      | succ m => obtain ⟨b, off, e, -⟩ := hl.2.2.2 0 (by omega); cases e
    subst hn0
    have hL : L = [] := List.length_eq_zero_iff.1 hl.1
    subst hL
    refine ⟨.slice none 0 0, w, ?_, ⟨rfl, .inl ⟨rfl, rfl⟩⟩, Below.refl _ _⟩
    simp [Builtin.append_, run_underlying undS, sizeOf, typeInfo, hi, Builtin.lenOf, Builtin.firstCells]
  | some ad =>
    obtain ⟨v', w', h1, h2, h3, -⟩ := run_append_own w w.heap.size 30 ty 69 i0 (.agg #[.int .i64 0, .int .i64 0]) 2 16 undS hi hz0 hz1 hz2 rfl (by decide) (.slice none 0 0) 0 [] ⟨rfl, .inl ⟨rfl, rfl⟩⟩ ad n c (cellsL L) (by rw [cellsL_len, hl.1]) (log_cells hl) (cellsL_one L) (by rw [Nat.zero_add]; simp only [maxLen]; omega) (by omega) (Nat.le_refl _)
    refine ⟨v', w', h1, by simpa [OwnLog] using h2, ?_⟩
    exact (Below.refl _ w).grown h3 (Nat.le_refl _) (fun k hk => by cases hk)
/-- Memory that was there is as it was. -/
def Nxt (w w' : World) : Prop := Below w.heap.size w w'
/-- Entries in memory that was not there. -/
def OwnNew (w w' : World) (v : Value) (n : Nat) (L : List (Int × Int)) : Prop := OwnLog w' w.heap.size v n L
theorem wpList_log {ops : Array Oper} {rest : List Oper} {o : Oper} {x0 : Act} {Q : Exit → Act → World → Prop} (w : World) (hgd : o.guard = none) (s x : Operand)
    (ho : o.op = .call { callee := .builtin .append, args := #[s, x], argTypes := #[30, 30] })
    (hs : x0.eval s = .slice none 0 0) (a : Option Addr) (n c : Nat) (L : List (Int × Int)) (hx : x0.eval x = .slice a n c) (hl : LogAt w a n c L) (hn : n ≤ 1000)
    (h : ∀ v' w', OwnNew w w' v' n L → Nxt w w' → wpList Try.prog ops Q rest (x0.put o.dst v') w') : wpList Try.prog ops Q (o :: rest) x0 w :=
  wpList_plain hgd fun K hK => by
    obtain ⟨v', w', hr, h2, h3⟩ := run_log a n c L w o.type hl hn
    unfold Oper.wp execOp
    simp only [ho, resolve, invoke, builtin, Sem.run_bind, Sem.run_pure, Result.andThen_ok, List.map_toArray, List.map_cons, List.map_nil, hs, hx, hr]
    exact hK _ _ (h v' w' h2 h3)

/-! ### answers put behind one another -/
theorem ownsRow_bl {w w' : World} {base e size : Nat} {v : Value} {n : Nat} {xs : List Value} (h : w.ownsRow base e size v n xs) (hb : Below w.heap.size w w') : w'.ownsRow base e size v n xs := by
  obtain ⟨hl, h⟩ := h
  refine ⟨hl, ?_⟩
  rcases h with h | ⟨g, cap, cur, rfl, h2, h3, h4⟩
  · exact .inl h
  · refine .inr ⟨g, cap, cur, rfl, h2, ?_, h4⟩
    rw [hb.block g (Array.getElem?_eq_some_iff.1 h3).1]
    exact h3
theorem rowMono {w : World} {base base' e size : Nat} {v : Value} {n : Nat} {xs : List Value} (h : w.ownsRow base e size v n xs) (hb : base' ≤ base) : w.ownsRow base' e size v n xs := by
  obtain ⟨hl, h⟩ := h
  refine ⟨hl, ?_⟩
  rcases h with h | ⟨g, cap, cur, h1, h2, h3⟩
  · exact .inl h
  · exact .inr ⟨g, cap, cur, h1, Nat.le_trans hb h2, h3⟩
theorem ownsRow_set4 {w : World} {base b e size : Nat} {v v0 v1 v2 v3 : Value} {n : Nat} {xs : List Value} (h : w.ownsRow base e size v n xs) (hb : b < base) :
    ((((w.setCell ⟨b, 0, none⟩ v0).setCell ⟨b, 1, none⟩ v1).setCell ⟨b, 2, none⟩ v2).setCell ⟨b, 3, none⟩ v3).ownsRow base e size v n xs := by
  obtain ⟨hl, h⟩ := h
  refine ⟨hl, ?_⟩
  rcases h with h | ⟨g, cap, cur, h1, h2, h3, h4⟩
  · exact .inl h
  · refine .inr ⟨g, cap, cur, h1, h2, ?_, h4⟩
    rw [Below.heap_setCell _ _ _ _ (by dsimp only; omega), Below.heap_setCell _ _ _ _ (by dsimp only; omega), Below.heap_setCell _ _ _ _ (by dsimp only; omega), Below.heap_setCell _ _ _ _ (by dsimp only; omega)]
    exact h3
/-- A log does not lie where answers lie. -/
def Apt (a : Option Addr) (n : Nat) (vb : Value) : Prop := n = 0 ∨ ∀ ad, a = some ad → ∀ g, vb.ownBlock = some g → g ≠ ad.block
theorem apt_src {base : Nat} {a0 a : Option Addr} {n0 n m : Nat} {w : World} {vb : Value} {bs : List Bool} (h : Apt a0 n0 vb) (hs : Src a0 n0 w a n) (ho : OwnB w base vb m bs) : Apt a n vb := by
  rcases hs with hs | ⟨rfl, rfl⟩ | hs
  · exact .inl hs
  · exact h
  · refine .inr fun ad e g hg => ?_
    have := hs ad e
    have := (World.ownsRow.lt ho g hg).2
    omega
theorem log_grown {w w' : World} {a : Option Addr} {n c : Nat} {L : List (Int × Int)} {vb : Value} (h : LogAt w a n c L) (hg : w.grownBy w' vb.ownBlock) (ha : Apt a n vb) : LogAt w' a n c L :=
  ⟨h.1, h.2.1, h.2.2.1, fun i hi => by
    obtain ⟨b, off, e, h1, h2⟩ := h.2.2.2 i hi
    have hne : some b ≠ vb.ownBlock := by
      intro he
      rcases ha with ha | ha
      · omega
      · exact ha _ e b he.symm rfl
    exact ⟨b, off, e, grown_cell hg h1 hne, grown_cell hg h2 hne⟩⟩
theorem run_bool (base : Nat) (v : Value) (n : Nat) (bs : List Bool) (w : World) (ty : TypeId) (q : Nat) (c : Nat) (u : Bool) (hown : OwnB w base v n bs) (hcell : w.cell? ⟨q, 0, none⟩ = some (.bool u)) (hn : n ≤ 1000) (hbase : base ≤ w.heap.size) :
    ∃ v' w', (Builtin.append_ #[33, 33] ty #[v, .slice (some ⟨q, 0, none⟩) 1 c]).run Try.prog w = .ok v' w' ∧ OwnB w' base v' (n + 1) (bs ++ [u]) ∧ w.grownBy w' v.ownBlock ∧ ∀ g, v'.ownBlock = some g → v.ownBlock = some g ∨ w.heap.size ≤ g := by
  obtain ⟨i0, hi, hz0, hz1, hz2⟩ := info_parts infoB
  have hnews : ∀ j x, ([Value.bool u] : List Value)[j]? = some x → w.cell? ((⟨q, 0, none⟩ : Addr).add j) = some x := fun j x hx => by
    cases j with
    | zero => simp at hx; subst hx; rw [Addr.add_lit]; exact hcell
    | succ j => simp at hx
  have hone : ∀ x ∈ ([Value.bool u] : List Value), x.oneCell' = true := fun x hx => by simp at hx; subst hx; rfl
  obtain ⟨v', w', h1, h2, h3, -⟩ := run_append_own w base 33 ty 4 i0 (.bool false) 1 1 undB hi hz0 hz1 hz2 rfl (by decide) v n (bs.map Value.bool) hown ⟨q, 0, none⟩ 1 c [.bool u] rfl hnews hone (by simp only [maxLen]; omega) (by omega) hbase
  refine ⟨v', w', h1, by unfold OwnB; rw [List.map_append]; exact h2, h3, ?_⟩
  have hown2 := hown
  rcases hown.2 with ⟨rfl, hx⟩ | ⟨g, cap, cur, rfl, hbg, hg, hnc, hcm, hcs, htake⟩
  · obtain ⟨v2, w2, g1, g2, -, -⟩ := run_append_own w w.heap.size 33 ty 4 i0 (.bool false) 1 1 undB hi hz0 hz1 hz2 rfl (by decide) (.slice none 0 0) n (bs.map Value.bool) ⟨hown.1, .inl ⟨rfl, hx⟩⟩ ⟨q, 0, none⟩ 1 c [.bool u] rfl hnews hone (by simp only [maxLen]; omega) (by omega) (Nat.le_refl _)
    rw [h1] at g1
    injection g1 with g1 _
    subst g1
    intro g hg
    exact .inr (World.ownsRow.lt g2 g hg).1
  · by_cases hroom : n + 1 ≤ cap
    · have hfit : n * i0.size + ([Value.bool u] : List Value).length ≤ cur.size := by rw [hz1, hcs]; simp; omega
      have hr := run_append_room (P := Try.prog) w 33 ty 4 i0 undB hi g n cap cur hg ⟨q, 0, none⟩ 1 c [.bool u] (by rw [hz1]; rfl) hnews hone hroom hfit
      rw [h1] at hr
      injection hr with hr _
      subst hr
      intro g' hg'
      exact .inl hg'
    · obtain ⟨v2, w2, g1, g2, -⟩ := run_append_arg_grows (P := Try.prog) w 33 ty 4 i0 (.bool false) 1 1 undB hi hz0 hz1 hz2 rfl (by decide) ⟨g, 0, none⟩ n cap (bs.map Value.bool) hown.1 (hown2.cells (g := g) rfl) ⟨q, 0, none⟩ 1 c [.bool u] rfl hnews (by omega) (by simp only [maxLen]; omega) (by omega)
      rw [h1] at g1
      injection g1 with g1 _
      subst g1
      intro g hg
      exact .inr (World.ownsRow.lt g2 g hg).1
theorem wp_bool {o : Oper} {x0 : Act} {K : Act → World → Prop} {Q : Exit → Act → World → Prop} (w : World) (s x : Operand)
    (ho : o.op = .call { callee := .builtin .append, args := #[s, x], argTypes := #[33, 33] })
    (base : Nat) (v : Value) (n : Nat) (bs : List Bool) (hs : x0.eval s = v) (hown : OwnB w base v n bs) (q : Nat) (c : Nat) (u : Bool) (hx : x0.eval x = .slice (some ⟨q, 0, none⟩) 1 c) (hcell : w.cell? ⟨q, 0, none⟩ = some (.bool u)) (hn : n ≤ 1000) (hbase : base ≤ w.heap.size)
    (h : ∀ v' w', OwnB w' base v' (n + 1) (bs ++ [u]) → w.grownBy w' v.ownBlock → (∀ g, v'.ownBlock = some g → v.ownBlock = some g ∨ w.heap.size ≤ g) → K (x0.put o.dst v') w') : o.wp Try.prog x0 w K Q := by
  obtain ⟨v', w', hr, h2, h3, h4⟩ := run_bool base v n bs w o.type q c u hown hcell hn hbase
  unfold Oper.wp execOp
  simp only [ho, resolve, invoke, builtin, Sem.run_bind, Sem.run_pure, Result.andThen_ok, List.map_toArray, List.map_cons, List.map_nil, hs, hx, hr]
  exact h v' w' h2 h3 h4
end Go.Proofs.Ythinbjknkjpdjaa

namespace Go.Proofs.Ythinbjknkjpdjaa
open Go.RowKit
set_option linter.unusedVariables false
set_option linter.unusedSimpArgs false

/-- What Run answers: the state, with a log of its own, and what each act told. -/
def PostRun (r : St × List Bool) (base : Nat) (w : World) (e : Ending) (w' : World) : Prop := ∃ (a : Option Addr) (n c m : Nat) (vb : Value),
  e = .returned (.tuple #[r.1.v a n c, vb]) ∧ LogAt w' a n c r.1.log ∧ Frs base a n ∧ OwnB w' base vb m r.2 ∧ Below base w w'
/-- What is known at a round's head. -/
def RunRel (b0 : Nat) (w : World) (pv : Int × Int × Int × Int × Int × Bool) (R : St × List Bool) (k : Nat) (a : Option Addr) (n c : Nat) (vb : Value) (wr : World) : Prop :=
  wr.cell? ⟨b0, 0, none⟩ = some (.int .i64 pv.1) ∧ wr.cell? ⟨b0, 1, none⟩ = some (.int .i64 pv.2.1) ∧ wr.cell? ⟨b0, 2, none⟩ = some (.int .i64 pv.2.2.1) ∧ wr.cell? ⟨b0, 3, none⟩ = some (.int .i64 pv.2.2.2.1) ∧ wr.cell? ⟨b0, 4, none⟩ = some (.int .i64 pv.2.2.2.2.1) ∧ wr.cell? ⟨b0, 5, none⟩ = some (.bool pv.2.2.2.2.2) ∧
  wr.cell? ⟨b0 + 1, 0, none⟩ = some (.int .i64 R.1.at_) ∧ wr.cell? ⟨b0 + 1, 1, none⟩ = some (.int .i64 R.1.level) ∧ wr.cell? ⟨b0 + 1, 2, none⟩ = some (.int .i64 R.1.held) ∧ wr.cell? ⟨b0 + 1, 3, none⟩ = some (.slice a n c) ∧
  ResB wr (b0 + 1) ∧ ResB wr (b0 + 1 + 1) ∧ LogAt wr a n c R.1.log ∧ Frs (b0 + 1 + 1 + 1) a n ∧ OwnB wr (b0 + 1 + 1 + 1) vb k R.2 ∧ Apt a n vb ∧ Below b0 w wr

theorem log_set1 {w : World} {g : Addr} {v : Value} {a : Option Addr} {n c : Nat} {L : List (Int × Int)} (h : LogAt w a n c L) (hne : ∀ gg, Value.ownBlock (.slice a n c) = some gg → gg ≠ g.block) : LogAt (w.setCell g v) a n c L :=
  ⟨h.1, h.2.1, h.2.2.1, fun i hi => by
    obtain ⟨b, off, e, h1, h2⟩ := h.2.2.2 i hi
    subst e
    have := hne b rfl
    exact ⟨b, off, rfl, far_set h1 _ _ (fun e => this e.symm), far_set h2 _ _ (fun e => this e.symm)⟩⟩
set_option maxHeartbeats 2000000 in
set_option maxRecDepth 100000 in
theorem run_walk (k l0 d b cc : Int) (o : Bool) (at_ level held : Int) (L : List (Int × Int)) (D : St → Ac → St × Bool) (F : Nat → St × List Bool) (G : Nat → Ac) (a : Option Addr) (n c : Nat) (la : Option Addr) (m lc : Nat) (w : World)
    (hdo : ∀ (st : St) (x : Ac) (a : Option Addr) (n c : Nat) (W : World), LogAt W a n c st.log → Calls Try.prog 14 #[.agg #[.int .i64 k, .int .i64 l0, .int .i64 d, .int .i64 b, .int .i64 cc, .bool o], st.v a n c, x.v] W (PostSB a n (D st x) W))
    (h0 : F 0 = (⟨at_, level, held, L⟩, [])) (hstep : ∀ k, k < m → F (k + 1) = ((D (F k).1 (G k)).1, (F k).2 ++ [(D (F k).1 (G k)).2]))
    (hl : LogAt w a n c L) (hn : n ≤ 1000) (hacts : ∀ i, i < m → ∃ b off, la = some ⟨b, off, none⟩ ∧ w.cell? ⟨b, off + i * 3, none⟩ = some (.int .i64 (G i).kind) ∧ w.cell? ⟨b, off + i * 3 + 1, none⟩ = some (.int .i64 (G i).now) ∧ w.cell? ⟨b, off + i * 3 + 2, none⟩ = some (.int .i64 (G i).cost)) (hm : m ≤ 1000) :
    Calls Try.prog 12 #[.agg #[.int .i64 k, .int .i64 l0, .int .i64 d, .int .i64 b, .int .i64 cc, .bool o], .agg #[.int .i64 at_, .int .i64 level, .int .i64 held, .slice a n c], .slice la m lc] w (PostRun (F m) w.heap.size w) := by
  have HDO := Go.Lib.hid hdo
  have HL := Go.Lib.hid hl
  have HA := Go.Lib.hid hacts
  have HS := Go.Lib.hid hstep
  have H0 := Go.Lib.hid h0
  obtain ⟨i0', hi, hz0, hz1, hz2⟩ := info_parts infoB
  have HI := Go.Lib.hid (And.intro hi (And.intro hz0 (And.intro hz1 hz2)))
  clear hdo hl hacts hstep h0 hi hz0 hz1 hz2
  go_enter Try.func12, Try.ntmps12
  go_wp2_with (at_builtin; refine wpList_log _ rfl _ _ rfl rfl a n c L rfl (log_bl HL.out ?q1) hn ?_)
  case q1 => exact bl_alloc (bl_alloc (bl_alloc (bl_refl _) _) _) _
  intro v' w1 hown hb
  have d0 := bl_cell (v := .int .i64 k) hb (show World.cell? _ ⟨w.heap.size, 0, none⟩ = _ by go_simp)
  have d1 := bl_cell (v := .int .i64 l0) hb (show World.cell? _ ⟨w.heap.size, 1, none⟩ = _ by go_simp)
  have d2 := bl_cell (v := .int .i64 d) hb (show World.cell? _ ⟨w.heap.size, 2, none⟩ = _ by go_simp)
  have d3 := bl_cell (v := .int .i64 b) hb (show World.cell? _ ⟨w.heap.size, 3, none⟩ = _ by go_simp)
  have d4 := bl_cell (v := .int .i64 cc) hb (show World.cell? _ ⟨w.heap.size, 4, none⟩ = _ by go_simp)
  have d5 := bl_cell (v := .bool o) hb (show World.cell? _ ⟨w.heap.size, 5, none⟩ = _ by go_simp)
  have d6 := bl_cell (v := .int .i64 at_) hb (show World.cell? _ ⟨w.heap.size + 1, 0, none⟩ = _ by go_simp)
  have d7 := bl_cell (v := .int .i64 level) hb (show World.cell? _ ⟨w.heap.size + 1, 1, none⟩ = _ by go_simp)
  have d8 := bl_cell (v := .int .i64 held) hb (show World.cell? _ ⟨w.heap.size + 1, 2, none⟩ = _ by go_simp)
  have dQ := res_bl (b := w.heap.size + 1) (res_bl (res_new (w.alloc _) _ _ _ _ _ (by simp)) (bl_alloc (bl_refl _) _)) hb
  have dR := res_bl (b := w.heap.size + 1 + 1) (res_new _ _ _ _ _ _ (by simp)) hb
  have hB : Below w.heap.size w w1 := bl_then (bl_alloc (bl_alloc (bl_alloc (bl_refl _) _) _) _) hb
  have hown2 : OwnLog w1 (w.heap.size + 1 + 1 + 1) v' n L := own_mono hown (by simp)
  clear hown hb
  obtain ⟨a1, c1, rfl, hlog⟩ := own_log hown2
  have hfrs := own_frs hown2
  have hlt : ∀ gg, Value.ownBlock (.slice a1 n c1) = some gg → gg ≠ w.heap.size + 1 := fun gg hgg => by have := (World.ownsRow.lt hown2 gg hgg).1; omega
  have hlog2 := (own_log (own_far hown2 ⟨w.heap.size + 1, 3, none⟩ (.slice a1 n c1) hlt))
  have fz := (dQ 3 (by omega)).1
  obtain ⟨u3, i3⟩ := Option.isSome_iff_exists.1 (dQ 3 (by omega)).2
  go_wp2_with fail
  go_loopw [8, 19] (fun s8 s19 wr => ∃ (j : Nat) (an : Option Addr) (nn cn : Nat), s19 = .int .i64 j ∧ j ≤ m ∧ Hid (RunRel w.heap.size w (k, l0, d, b, cc, o) (F j) j an nn cn s8 wr))
    (fun _ s19 _ => m - (intOf s19).toNat)
  case atStart =>
    refine ⟨0, a1, n, c1, rfl, Nat.zero_le _, ?_⟩
    show RunRel _ _ _ _ _ _ _ _ _ _
    rw [H0.out]
    exact ⟨far_set d0 _ _ (by dsimp only; omega), far_set d1 _ _ (by dsimp only; omega), far_set d2 _ _ (by dsimp only; omega), far_set d3 _ _ (by dsimp only; omega), far_set d4 _ _ (by dsimp only; omega), far_set d5 _ _ (by dsimp only; omega), set_other d6 _ (by simp), set_other d7 _ (by simp), set_other d8 _ (by simp), World.cell?_setCell_same' w1 _ _ (by rw [i3]; rfl), res_set dQ _ _, res_set dR _ _, log_set1 hlog hlt, hfrs, ⟨rfl, .inl ⟨rfl, rfl⟩⟩, .inr (fun ad e g hg => by cases hg), bl_set hB (by dsimp only; omega) _⟩
  case round =>
    obtain ⟨j, an, nn, cn, rfl, hj, H⟩ := hrel
    have HR := H.out
    clear H d0 d1 d2 d3 d4 d5 d6 d7 d8 dQ dR hB hown2 hlog hfrs hlt hlog2 fz i3
    by_cases hjm : j < m
    · obtain ⟨qb, qo, rfl, g1, g2, g3⟩ := HA.out j hjm
      have hs := HS.out j hjm
      generalize F j = R at *
      obtain ⟨⟨rat, rlv, rhd, rL⟩, bs⟩ := R
      generalize G j = X at *
      obtain ⟨ak, aw, ac⟩ := X
      obtain ⟨c0, c1, c2, c3, c4, c5, c6, c7, c8, c9, hQ, hR, hLg, hFr, hBo, hAp, hB⟩ := HR
      dsimp only at g1 g2 g3 hs c0 c1 c2 c3 c4 c5 c6 c7 c8 c9 hLg hBo
      have e1 := bl_cell hB g1
      have e2 := bl_cell hB g2
      have e3 := bl_cell hB g3
      have lb := World.block_lt_of_cell? wr _ e1
      dsimp only at lb
      have lw := hB.size
      have lR := res_lt hR
      have lQ := res_lt hQ
      have lP : w.heap.size < wr.heap.size := by omega
      have hk0 : (0 : Int) ≤ (j : Int) := by omega
      have hk1 : (j : Int) < (m : Int) := by omega
      have hk1n : j + 1 ≤ m := by omega
      clear g1 g2 g3
      go_wp2_with fail
      have hlx : LogAt (wr.alloc (.cells #[.int .i64 ak, .int .i64 aw, .int .i64 ac] 40)) an nn cn rL := log_bl hLg (bl_alloc (bl_refl _) _)
      refine (HDO.out ⟨rat, rlv, rhd, rL⟩ ⟨ak, aw, ac⟩ an nn cn _ hlx).mono ?_
      generalize D ⟨rat, rlv, rhd, rL⟩ ⟨ak, aw, ac⟩ = X at *
      obtain ⟨⟨xa, xl, xh, xL⟩, xb⟩ := X
      rintro e w2 ⟨ax, nx, cx, rfl, hl9, hs9, hb⟩
      have hs9 : Src an nn wr ax nx := src_out (w := wr) hs9 (by simp)
      have hb2 : Below wr.heap.size wr w2 := bl_then (bl_alloc (bl_refl _) _) hb
      dsimp only at hl9
      unfold St.v
      dsimp only
      have HX := Go.Lib.hid (And.intro hl9 (And.intro (frs_src hFr hs9 (by omega)) (And.intro (ownsRow_bl hBo hb2) (apt_src hAp hs9 hBo))))
      have lw2 : wr.heap.size ≤ w2.heap.size := hb2.size
      have hHeld : (fun w' => w'.cell? ⟨w.heap.size, 0, none⟩ = some (.int .i64 k) ∧ w'.cell? ⟨w.heap.size, 1, none⟩ = some (.int .i64 l0) ∧ w'.cell? ⟨w.heap.size, 2, none⟩ = some (.int .i64 d) ∧ w'.cell? ⟨w.heap.size, 3, none⟩ = some (.int .i64 b) ∧ w'.cell? ⟨w.heap.size, 4, none⟩ = some (.int .i64 cc) ∧ w'.cell? ⟨w.heap.size, 5, none⟩ = some (.bool o) ∧ w'.cell? ⟨w2.heap.size, 0, none⟩ = some (.int .i64 xa) ∧ w'.cell? ⟨w2.heap.size, 1, none⟩ = some (.int .i64 xl) ∧ w'.cell? ⟨w2.heap.size, 2, none⟩ = some (.int .i64 xh) ∧ w'.cell? ⟨w2.heap.size, 3, none⟩ = some (.slice ax nx cx) ∧ ResB w' (w.heap.size + 1) ∧ ResB w' (w.heap.size + 1 + 1) ∧ Below w.heap.size w w') (w2.alloc (.cells #[.int .i64 xa, .int .i64 xl, .int .i64 xh, .slice ax nx cx] 32)) := by
        have hb3 : Below wr.heap.size wr (w2.alloc (.cells #[.int .i64 xa, .int .i64 xl, .int .i64 xh, .slice ax nx cx] 32)) := bl_then hb2 (bl_alloc (bl_refl _) _)
        exact ⟨bl_cell hb3 c0, bl_cell hb3 c1, bl_cell hb3 c2, bl_cell hb3 c3, bl_cell hb3 c4, bl_cell hb3 c5, by go_simp, by go_simp, by go_simp, by go_simp, res_bl hQ hb3, res_bl hR hb3, bl_then hB hb3⟩
      have HH := Go.Lib.hid hHeld
      clear hHeld hl9 hs9 hb hb2 hBo hAp hLg hFr hlx e1 e2 e3 c0 c1 c2 c3 c4 c5 c6 c7 c8 c9 hQ hR hB
      go_wp2_with fail
      generalize hWg : w2.alloc (.cells #[.int .i64 xa, .int .i64 xl, .int .i64 xh, .slice ax nx cx] 32) = Wg at *
      refine wp_region_held_drew (S := fun w' => w'.cell? ⟨w.heap.size, 0, none⟩ = some (.int .i64 k) ∧ w'.cell? ⟨w.heap.size, 1, none⟩ = some (.int .i64 l0) ∧ w'.cell? ⟨w.heap.size, 2, none⟩ = some (.int .i64 d) ∧ w'.cell? ⟨w.heap.size, 3, none⟩ = some (.int .i64 b) ∧ w'.cell? ⟨w.heap.size, 4, none⟩ = some (.int .i64 cc) ∧ w'.cell? ⟨w.heap.size, 5, none⟩ = some (.bool o) ∧ w'.cell? ⟨w2.heap.size, 0, none⟩ = some (.int .i64 xa) ∧ w'.cell? ⟨w2.heap.size, 1, none⟩ = some (.int .i64 xl) ∧ w'.cell? ⟨w2.heap.size, 2, none⟩ = some (.int .i64 xh) ∧ w'.cell? ⟨w2.heap.size, 3, none⟩ = some (.slice ax nx cx) ∧ ResB w' (w.heap.size + 1) ∧ ResB w' (w.heap.size + 1 + 1) ∧ Below w.heap.size w w') (by kernel_rfl) ?_ (fun hHeld => ?_)
      · obtain ⟨h0, h1, h2, h3, h4, h5, h6, h7, h8, h9, hQ, hR, hB⟩ := HH.out
        exact ⟨h0, h1, h2, h3, h4, h5, h6, h7, h8, h9, res_drew hQ, res_drew hR, bl_drew hB⟩
      try simp only [Act.put, List.setIfInBounds_toArray, List.set_cons_zero, List.set_cons_succ]
      (refine tk (i := 0) rfl rfl hHeld ?_)
      (refine tk (i := 1) rfl rfl hHeld ?_)
      (refine tk (i := 2) rfl rfl hHeld ?_)
      refine callC (i := 3) rfl (fun K hK => ?_)
      go_simp
      refine hK.out _ _ ?_ (fun hHeld => ?_)
      · obtain ⟨h0, h1, h2, h3, h4, h5, h6, h7, h8, h9, hQ, hR, hB⟩ := hHeld
        have ha := bl_alloc (bl_refl Wg.drew) (.cells #[.bool xb] 4)
        exact ⟨bl_cell ha h0, bl_cell ha h1, bl_cell ha h2, bl_cell ha h3, bl_cell ha h4, bl_cell ha h5, bl_cell ha h6, bl_cell ha h7, bl_cell ha h8, bl_cell ha h9, res_bl hQ ha, res_bl hR ha, bl_then hB ha⟩
      clear hK K
      try simp only [Act.put, List.setIfInBounds_toArray, List.set_cons_zero, List.set_cons_succ]
      refine callC (i := 4) rfl (fun K hK => ?_)
      rw [if_pos (by rfl)]
      have hw4 : Below w2.heap.size w2 (Wg.alloc (.cells #[.bool xb] 4)).drew := by rw [← hWg]; exact bl_drew (bl_alloc (bl_alloc (bl_refl w2) _) _)
      have hWs : Wg.heap.size = w2.heap.size + 1 := by rw [← hWg]; simp
      obtain ⟨hl9, hf9, ho9, ha9⟩ := HX.out
      refine wp_bool _ _ _ rfl (w.heap.size + 1 + 1 + 1) u8 j bs rfl (ownsRow_bl ho9 hw4) Wg.heap.size 1 xb rfl ?h1 (by omega) ?h2 ?_
      case h1 => go_simp
      case h2 => have := hw4.size; omega
      intro v5 w5 ho5 hg5 hv5
      obtain ⟨h0, h1, h2, h3, h4, h5, h6, h7, h8, h9, hQ, hR, hB⟩ := hHeld
      have hne : ∀ gg, Value.ownBlock u8 = some gg → w.heap.size + 1 + 1 + 1 ≤ gg ∧ gg < w2.heap.size := fun gg hgg => World.ownsRow.lt ho9 gg hgg
      have hl5 := log_grown (log_bl hl9 hw4) hg5 ha9
      have ha5 : Apt ax nx v5 := by
        by_cases hz : nx = 0
        · exact .inl hz
        · refine .inr fun ad e g hg => ?_
          rcases hv5 g hg with hh | hh
          · rcases ha9 with h | h
            · exact absurd h hz
            · exact h ad e g hh
          · have := log_lt hl9 ad e hz
            have := hw4.size
            omega
      refine hK.out _ _ ?_ (fun hHeld => ?_)
      · exact ⟨grown_cell hg5 h0 (by intro he; have := hne _ he.symm; omega), grown_cell hg5 h1 (by intro he; have := hne _ he.symm; omega), grown_cell hg5 h2 (by intro he; have := hne _ he.symm; omega), grown_cell hg5 h3 (by intro he; have := hne _ he.symm; omega), grown_cell hg5 h4 (by intro he; have := hne _ he.symm; omega), grown_cell hg5 h5 (by intro he; have := hne _ he.symm; omega), grown_cell hg5 h6 (by intro he; have := hne _ he.symm; omega), grown_cell hg5 h7 (by intro he; have := hne _ he.symm; omega), grown_cell hg5 h8 (by intro he; have := hne _ he.symm; omega), grown_cell hg5 h9 (by intro he; have := hne _ he.symm; omega),
          grown_res hg5 hQ (by intro he; have := hne _ he.symm; omega), grown_res hg5 hR (by intro he; have := hne _ he.symm; omega), hB.grown hg5 hB.size (fun gg hgg => by have := hne gg hgg; omega)⟩
      clear hK K
      have HY := Go.Lib.hid (And.intro hl5 (And.intro hf9 (And.intro ho5 ha5)))
      have hsz5 := hg5.size
      have lw5 : w2.heap.size ≤ w5.heap.size := Nat.le_trans hw4.size hsz5
      clear hl5 hl9 hf9 ho9 ha9 ho5 ha5 hv5 hg5 hw4 HX HH hne h0 h1 h2 h3 h4 h5 h6 h7 h8 h9 hQ hR hB
      try simp only [Act.put, List.setIfInBounds_toArray, List.set_cons_zero, List.set_cons_succ]
      refine callC (i := 5) rfl (fun K hK => ?_)
      obtain ⟨h0, h1, h2, h3, h4, h5, h6, h7, h8, h9, hQ, hR, hB⟩ := hHeld
      obtain ⟨f0, f1, f2, f3, u0, u1, u2, u3, i0, i1, i2, i3⟩ := res_all hQ
      go_simp
      have e0 : w.heap.size + 1 ≠ w.heap.size := by omega
      have e1 : w.heap.size + 1 ≠ w2.heap.size := by omega
      have HC := Go.Lib.hid (set4r (v0 := .int .i64 xa) (v1 := .int .i64 xl) (v2 := .int .i64 xh) (v3 := .slice ax nx cx) hQ)
      refine hK.out _ _ ?_ (fun hHeld => ?_)
      · exact ⟨far4 h0 e0, far4 h1 e0, far4 h2 e0, far4 h3 e0, far4 h4 e0, far4 h5 e0, far4 h6 e1, far4 h7 e1, far4 h8 e1, far4 h9 e1, res4 hQ, res4 hR, bl4 hB (by omega)⟩
      clear hK K h0 h1 h2 h3 h4 h5 h6 h7 h8 h9 hQ hR hB f0 f1 f2 f3 i0 i1 i2 i3
      try simp only [Act.put, List.setIfInBounds_toArray, List.set_cons_zero, List.set_cons_succ]
      (refine tk (i := 6) rfl rfl hHeld ?_)
      refine wpAnyH_done (by kernel_rfl) ?_ _
      have HZ := Go.Lib.hid hHeld
      clear hHeld
      go_wp2_with fail
      go_roundw
      case rel =>
        refine ⟨j + 1, ax, nx, cx, by go_num, hk1n, ?_⟩
        show RunRel _ _ _ _ _ _ _ _ _ _
        rw [hs]
        obtain ⟨h0, h1, h2, h3, h4, h5, h6, h7, h8, h9, hQ, hR, hB⟩ := HZ.out
        obtain ⟨s0, s1, s2, s3⟩ := HC.out
        obtain ⟨hl5, hf5, ho5, ha5⟩ := HY.out
        refine ⟨h0, h1, h2, h3, h4, h5, s0, s1, s2, s3, hQ, hR, log_set4 hl5 ?_, hf5, ownsRow_set4 ho5 (by omega), ha5, hB⟩
        intro ad e hz
        rcases hf5 with h | h
        · exact absurd h hz
        · have := h ad e
          omega
      case measure => (simp [intOf]; omega)
    · have hje : j = m := by omega
      subst hje
      generalize F j = R at *
      obtain ⟨⟨rat, rlv, rhd, rL⟩, bs⟩ := R
      obtain ⟨c0, c1, c2, c3, c4, c5, c6, c7, c8, c9, hQ, hR, hLg, hFr, hBo, hAp, hB⟩ := HR
      dsimp only at c6 c7 c8 c9 hLg hBo
      obtain ⟨f0, f1, f2, f3, u0, u1, u2, u3, i0, i1, i2, i3⟩ := res_all hR
      have lR := res_lt hR
      go_wp2_with fail
      (try simp only [Exit.inBlock, Exit.then])
      refine bodyPost_ret (results_state2 rfl _ _ (by rfl) (set4r hR)) rfl ⟨an, nn, cn, j, u8, rfl, log_set4 hLg ?_, frs_mono hFr (by omega), rowMono (ownsRow_set4 hBo (by omega)) (by omega), bl4 hB (by omega)⟩
      intro ad e hz
      rcases hFr with h | h
      · exact absurd h hz
      · have := h ad e
        omega

theorem run_any (p : Pol) (s : St) (l : List Ac) (a : Option Addr) (n c : Nat) (la : Option Addr) (m lc : Nat) (w : World) (hl : LogAt w a n c s.log) (hn : n ≤ 1000) (hacts : ActsIn w la m lc l) (hm : m ≤ 1000) :
    Calls Try.prog 12 #[p.v, s.v a n c, .slice la m lc] w (PostRun (runP p s l) w.heap.size w) := by
  have h := run_walk p.kind p.limit p.period p.burst p.cap p.opn s.at_ s.level s.held s.log (doP p) (fun k => runP p s (l.take k)) (fun k => l.getD k ⟨0, 0, 0⟩) a n c la m lc w (fun st x a n c W hW => ldo_any p st a n c x W hW) rfl
    (fun k hk => runP_take p s l k (by rw [hacts.1]; exact hk)) hl hn hacts.2.2.2 hm
  have e : l.take m = l := by rw [← hacts.1, List.take_length]
  have e2 : runP p s (l.take m) = runP p s l := by rw [e]
  rw [← e2]
  exact h
end Go.Proofs.Ythinbjknkjpdjaa

namespace Go.Proofs.Ythinbjknkjpdjaa
open Go.RowKit
set_option linter.unusedVariables false
set_option linter.unusedSimpArgs false

theorem newP_log (p : Pol) (now : Int) : (newP p now).log = [] := by
  unfold newP newG newL newC newB St.none
  repeat' split
  all_goals rfl
def mostP (p : Pol) : Int := if chkP p = 0 then roomP p (newP p 0) 0 else 0
set_option maxHeartbeats 1000000 in
set_option maxRecDepth 100000 in
theorem lmost_any (p : Pol) (w : World) : Calls Try.prog 16 #[p.v] w fun e w' => e = .returned (.int .i64 (mostP p)) ∧ Below w.heap.size w w' := by
  have hck := lcheck_any p
  have hnw := lnew_any p 0
  have hrm := fun W => lroom_any p (newP p 0) none 0 0 0 W (by rw [newP_log]; exact log_nil _ _ _ (by omega))
  unfold mostP
  generalize chkP p = C at *
  generalize roomP p (newP p 0) 0 = R at *
  generalize newP p 0 = A at *
  obtain ⟨k, l, d, b, cc, o⟩ := p
  obtain ⟨aat, alv, ahd, L⟩ := A
  unfold St.v Pol.v at *
  dsimp only at *
  have HCK := Go.Lib.hid hck
  have HNW := Go.Lib.hid hnw
  have HRM := Go.Lib.hid hrm
  clear hck hnw hrm
  by_cases hC : C = 0
  · rw [if_pos hC]
    subst hC
    go_enter Try.func16, Try.ntmps16
    go_wp2_with fail
    refine (HCK.out _).mono ?_
    rintro e w1 ⟨rfl, hb⟩
    have hB : Below w.heap.size w w1 := bl_then (bl_alloc (bl_refl _) _) hb
    have c0 := bl_cell (v := .int .i64 k) hb (show World.cell? _ ⟨w.heap.size, 0, none⟩ = _ by go_simp)
    have c1 := bl_cell (v := .int .i64 l) hb (show World.cell? _ ⟨w.heap.size, 1, none⟩ = _ by go_simp)
    have c2 := bl_cell (v := .int .i64 d) hb (show World.cell? _ ⟨w.heap.size, 2, none⟩ = _ by go_simp)
    have c3 := bl_cell (v := .int .i64 b) hb (show World.cell? _ ⟨w.heap.size, 3, none⟩ = _ by go_simp)
    have c4 := bl_cell (v := .int .i64 cc) hb (show World.cell? _ ⟨w.heap.size, 4, none⟩ = _ by go_simp)
    have c5 := bl_cell (v := .bool o) hb (show World.cell? _ ⟨w.heap.size, 5, none⟩ = _ by go_simp)
    clear hb HCK
    go_wp2_with fail
    refine wp_region_held_drew (S := fun w' => w'.cell? ⟨w.heap.size, 0, none⟩ = some (.int .i64 k) ∧ w'.cell? ⟨w.heap.size, 1, none⟩ = some (.int .i64 l) ∧ w'.cell? ⟨w.heap.size, 2, none⟩ = some (.int .i64 d) ∧ w'.cell? ⟨w.heap.size, 3, none⟩ = some (.int .i64 b) ∧ w'.cell? ⟨w.heap.size, 4, none⟩ = some (.int .i64 cc) ∧ w'.cell? ⟨w.heap.size, 5, none⟩ = some (.bool o) ∧ Below w.heap.size w w') (by kernel_rfl) ?_ (fun hHeld => ?_)
    · exact ⟨c0, c1, c2, c3, c4, c5, bl_drew hB⟩
    try simp only [Act.put, List.setIfInBounds_toArray, List.set_cons_zero, List.set_cons_succ]
    all_goals ((refine tk (i := 0) rfl rfl hHeld ?_))
    all_goals ((refine tk (i := 1) rfl rfl hHeld ?_))
    all_goals ((refine callH (i := 2) rfl hHeld (fun W hW K hK => ?_); clear hHeld; (try dsimp only at hW); go_simp; refine (HNW.out _).mono ?_; rintro e w1 ⟨rfl, hb⟩; go_wp2_with fail; refine hK.out _ _ ?_ (fun hHeld => ?_); (focus ((try dsimp only); (obtain ⟨h0, h1, h2, h3, h4, h5, hB'⟩ := hW; exact ⟨bl_cell hb h0, bl_cell hb h1, bl_cell hb h2, bl_cell hb h3, bl_cell hb h4, bl_cell hb h5, bl_then hB' hb⟩))); clear hK K; try simp only [Act.put, List.setIfInBounds_toArray, List.set_cons_zero, List.set_cons_succ]))
    all_goals ((refine callH (i := 3) rfl hHeld (fun W hW K hK => ?_); clear hHeld; (try dsimp only at hW); go_simp; refine (HRM.out _).mono ?_; rintro e w1 ⟨rfl, hb⟩; go_wp2_with fail; refine hK.out _ _ ?_ (fun hHeld => ?_); (focus ((try dsimp only); (obtain ⟨h0, h1, h2, h3, h4, h5, hB'⟩ := hW; exact ⟨bl_cell hb h0, bl_cell hb h1, bl_cell hb h2, bl_cell hb h3, bl_cell hb h4, bl_cell hb h5, bl_then hB' hb⟩))); clear hK K; try simp only [Act.put, List.setIfInBounds_toArray, List.set_cons_zero, List.set_cons_succ]))
    all_goals ((refine tk (i := 4) rfl rfl hHeld ?_))
    all_goals (refine wpAnyH_done (by kernel_rfl) ?_ _)
    obtain ⟨-, -, -, -, -, -, hE⟩ := hHeld
    repeat' (first | go_skip | go_guarded | go_step | go_upon)
    go_ret
    exact ⟨rfl, hE⟩
  · rw [if_neg hC]
    go_enter Try.func16, Try.ntmps16
    go_wp2_with fail
    refine (HCK.out _).mono ?_
    rintro e w1 ⟨rfl, hb⟩
    have hB : Below w.heap.size w w1 := bl_then (bl_alloc (bl_refl _) _) hb
    go_wp2_with fail
    go_ret
    exact ⟨rfl, hB⟩
end Go.Proofs.Ythinbjknkjpdjaa
