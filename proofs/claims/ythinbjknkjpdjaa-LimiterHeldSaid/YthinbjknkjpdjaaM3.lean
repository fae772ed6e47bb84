/-
  What counter.Do answers where the state may be.
  What window.Do answers where the state may be.
  No condition.
-/
import Derived.Test.YthinbjknkjpdjaaM2
import Derived.WalkMore
namespace Go.Proofs.Ythinbjknkjpdjaa
open Go.RowKit
set_option linter.unusedVariables false
set_option linter.unusedSimpArgs false

theorem rounds_abs {P : Program} {c : Code} {Q : Exit → Act → World → Prop} {n : Nat} {a : Act} {w : World} {F : World → Prop} (h : F w) (k : ∀ W, F W → Code.rounds P c Q n a W) : Code.rounds P c Q n a w := k w h

set_option maxHeartbeats 2000000 in
set_option maxRecDepth 100000 in
theorem cdo_1 (p : Pol) (s : St) (a : Option Addr) (c : Nat) (anow acost : Int) (A : St) (w : World) (h : rightC p s) (hA : A = advC p s anow) (bad : Bool) (hbad : bad = true ↔ (acost < 1 ∨ p.limit - A.held - A.level < acost)) :
    Calls Try.prog 23 #[p.v, s.v a 0 c, .agg #[.int .i64 1, .int .i64 anow, .int .i64 acost]] w fun e w' =>
      e = .returned (.tuple #[if bad then s.v a 0 c else .agg #[.int .i64 A.at_, .int .i64 (A.level + acost), .int .i64 (A.held), .slice none 0 0], .bool (!bad)]) ∧ Below w.heap.size w w' := by
  have hlg := h.2.2.2.2.2.2.2.2
  have hrt := cright_any p s a 0 c (by rw [hlg]; rfl)
  have hav := cadv_any p s a 0 c anow (by rw [hlg]; rfl)
  rw [decide_eq_true h] at hrt
  have hlv := advC_level p s anow h
  rw [← hA] at hav hlv
  obtain ⟨⟨q0, q1, q2, q3, q4, q5, q6⟩, r1, r2, r3, r4, r5, r6, r7, r8⟩ := h
  clear hA
  obtain ⟨k, l, d, b, cc, o⟩ := p
  obtain ⟨at_, level, held, lg⟩ := s
  obtain ⟨aat, alv, ahd, alg⟩ := A
  unfold St.v Pol.v at *
  dsimp only at *
  have hw1 : IntKind.i64.wrap (l - ahd) = l - ahd := IntWalk.i64_in _ (by omega)
  have hw2 : IntKind.i64.wrap (l - ahd - alv) = l - ahd - alv := IntWalk.i64_in _ (by omega)
  have HRT := Go.Lib.hid hrt
  have HAV := Go.Lib.hid hav
  have j0 := idx0
  have j1 := idx1
  have j2 := idx2
  have j3 := idx3
  have hcase : (bad = true ∧ acost < 1) ∨ (bad = true ∧ ¬ acost < 1 ∧ l - ahd - alv < acost) ∨ (bad = false ∧ ¬ acost < 1 ∧ ¬ l - ahd - alv < acost ∧ IntKind.i64.wrap acost = acost ∧ IntKind.i64.wrap (-acost) = -acost ∧ IntKind.i64.wrap (ahd + acost) = ahd + acost ∧ IntKind.i64.wrap (ahd + -acost) = ahd - acost ∧ IntKind.i64.wrap (alv + acost) = alv + acost ∧ IntKind.i64.wrap ahd = ahd ∧ IntKind.i64.wrap alv = alv) := by
    cases bad
    · simp at hbad
      refine .inr (.inr ⟨rfl, by omega, by omega, IntWalk.i64_in _ (by omega), IntWalk.i64_in _ (by omega), IntWalk.i64_in _ (by omega), ?_, IntWalk.i64_in _ (by omega), IntWalk.i64_in _ (by omega), IntWalk.i64_in _ (by omega)⟩)
      rw [IntWalk.i64_in _ (by omega)]
      rfl
    · simp at hbad
      rcases hbad with hx | hx
      · exact .inl ⟨rfl, hx⟩
      · by_cases hy : acost < 1
        · exact .inl ⟨rfl, hy⟩
        · exact .inr (.inl ⟨rfl, hy, hx⟩)
  have HCS := Go.Lib.hid hcase
  clear hbad hcase
  clear hrt hav hlv q0 q1 q2 q3 q4 q5 q6 r1 r2 r3 r4 r5 r6 r7 r8 hlg
  go_enter Try.func23, Try.ntmps23
  go_wp2_with go_step3
  refine (HRT.out _).mono ?_
  rintro e w1 ⟨rfl, hb⟩
  have hB : Below w.heap.size w w1 := bl_then (bl_alloc (bl_alloc (bl_alloc (bl_alloc (bl_refl _) _) _) _) _) hb
  have c0 := bl_cell (v := .int .i64 k) hb (show World.cell? _ ⟨w.heap.size, 0, none⟩ = _ by go_simp)
  have c1 := bl_cell (v := .int .i64 l) hb (show World.cell? _ ⟨w.heap.size, 1, none⟩ = _ by go_simp)
  have c2 := bl_cell (v := .int .i64 d) hb (show World.cell? _ ⟨w.heap.size, 2, none⟩ = _ by go_simp)
  have c3 := bl_cell (v := .int .i64 b) hb (show World.cell? _ ⟨w.heap.size, 3, none⟩ = _ by go_simp)
  have c4 := bl_cell (v := .int .i64 cc) hb (show World.cell? _ ⟨w.heap.size, 4, none⟩ = _ by go_simp)
  have c5 := bl_cell (v := .bool o) hb (show World.cell? _ ⟨w.heap.size, 5, none⟩ = _ by go_simp)
  have c6 := bl_cell (v := .int .i64 at_) hb (show World.cell? _ ⟨w.heap.size + 1, 0, none⟩ = _ by go_simp)
  have c7 := bl_cell (v := .int .i64 level) hb (show World.cell? _ ⟨w.heap.size + 1, 1, none⟩ = _ by go_simp)
  have c8 := bl_cell (v := .int .i64 held) hb (show World.cell? _ ⟨w.heap.size + 1, 2, none⟩ = _ by go_simp)
  have c9 := bl_cell (v := .slice a 0 c) hb (show World.cell? _ ⟨w.heap.size + 1, 3, none⟩ = _ by go_simp)
  have c10 := bl_cell (v := .int .i64 1) hb (show World.cell? _ ⟨w.heap.size + 1 + 1, 0, none⟩ = _ by go_simp)
  have c11 := bl_cell (v := .int .i64 anow) hb (show World.cell? _ ⟨w.heap.size + 1 + 1, 1, none⟩ = _ by go_simp)
  have c12 := bl_cell (v := .int .i64 acost) hb (show World.cell? _ ⟨w.heap.size + 1 + 1, 2, none⟩ = _ by go_simp)
  have hR : ResB w1 (w.heap.size + 1 + 1 + 1) := res_bl (res_new _ _ _ _ _ _ (by simp)) hb
  clear hb HRT
  go_wp2_with go_step3
  refine (HAV.out _).mono ?_
  rintro e w2 ⟨rfl, hb⟩
  clear HAV
  have d0 := bl_cell hb c0
  have d1 := bl_cell hb c1
  have d2 := bl_cell hb c2
  have d3 := bl_cell hb c3
  have d4 := bl_cell hb c4
  have d5 := bl_cell hb c5
  have d6 := bl_cell hb c6
  have d7 := bl_cell hb c7
  have d8 := bl_cell hb c8
  have d9 := bl_cell hb c9
  have d10 := bl_cell hb c10
  have d11 := bl_cell hb c11
  have d12 := bl_cell hb c12
  have dR := res_bl hR hb
  have dB := bl_then hB hb
  have hlt := res_lt dR
  clear hR hB hb c0 c1 c2 c3 c4 c5 c6 c7 c8 c9 c10 c11 c12
  go_wp2_with go_step3
  refine (changes_any _).mono ?_
  rintro e w3 ⟨rfl, hb⟩
  have c0 := bl_cell hb (bl_cell (bl_alloc (bl_alloc (bl_refl w2) _) _) d0)
  have c1 := bl_cell hb (bl_cell (bl_alloc (bl_alloc (bl_refl w2) _) _) d1)
  have c2 := bl_cell hb (bl_cell (bl_alloc (bl_alloc (bl_refl w2) _) _) d2)
  have c3 := bl_cell hb (bl_cell (bl_alloc (bl_alloc (bl_refl w2) _) _) d3)
  have c4 := bl_cell hb (bl_cell (bl_alloc (bl_alloc (bl_refl w2) _) _) d4)
  have c5 := bl_cell hb (bl_cell (bl_alloc (bl_alloc (bl_refl w2) _) _) d5)
  have c6 := bl_cell hb (bl_cell (bl_alloc (bl_alloc (bl_refl w2) _) _) d6)
  have c7 := bl_cell hb (bl_cell (bl_alloc (bl_alloc (bl_refl w2) _) _) d7)
  have c8 := bl_cell hb (bl_cell (bl_alloc (bl_alloc (bl_refl w2) _) _) d8)
  have c9 := bl_cell hb (bl_cell (bl_alloc (bl_alloc (bl_refl w2) _) _) d9)
  have c10 := bl_cell hb (bl_cell (bl_alloc (bl_alloc (bl_refl w2) _) _) d10)
  have c11 := bl_cell hb (bl_cell (bl_alloc (bl_alloc (bl_refl w2) _) _) d11)
  have c12 := bl_cell hb (bl_cell (bl_alloc (bl_alloc (bl_refl w2) _) _) d12)
  have hR := res_bl (res_bl dR (bl_alloc (bl_alloc (bl_refl w2) _) _)) hb
  have hB := bl_then (bl_alloc (bl_alloc dB _) _) hb
  have x0 := bl_cell (v := .int .i64 aat) hb (show World.cell? _ ⟨w2.heap.size, 0, none⟩ = _ by go_simp)
  have x1 := bl_cell (v := .int .i64 alv) hb (show World.cell? _ ⟨w2.heap.size, 1, none⟩ = _ by go_simp)
  have x2 := bl_cell (v := .int .i64 ahd) hb (show World.cell? _ ⟨w2.heap.size, 2, none⟩ = _ by go_simp)
  have x3 := bl_cell (v := .slice none 0 0) hb (show World.cell? _ ⟨w2.heap.size, 3, none⟩ = _ by go_simp)
  have y0 := bl_cell (v := .int .i64 0) hb (show World.cell? _ ⟨w2.heap.size + 1, 0, none⟩ = _ by go_simp)
  have y1 := bl_cell (v := .int .i64 0) hb (show World.cell? _ ⟨w2.heap.size + 1, 1, none⟩ = _ by go_simp)
  have y2 := bl_cell (v := .int .i64 0) hb (show World.cell? _ ⟨w2.heap.size + 1, 2, none⟩ = _ by go_simp)
  have y3 := bl_cell (v := .bool false) hb (show World.cell? _ ⟨w2.heap.size + 1, 3, none⟩ = _ by go_simp)
  have hY : ResB w3 (w2.heap.size + 1) := res_bl (res_new _ _ _ _ _ _ (by simp)) hb
  have hlt3 : w2.heap.size + 1 < w3.heap.size := res_lt hY
  generalize w2.heap.size = nb at *
  clear hb dR dB d0 d1 d2 d3 d4 d5 d6 d7 d8 d9 d10 d11 d12
  obtain ⟨F0, F1, F2, F3, U0, U1, U2, U3, I0, I1, I2, I3⟩ := res_all hR
  obtain ⟨G0, G1, G2, G3, V0, V1, V2, V3, -⟩ := res_all hY
  go_wp2_with go_step3
  have n0 : ¬ nb = w.heap.size := by omega
  have m0 : ¬ w.heap.size = nb := by omega
  have n0' : ¬ nb + 1 = w.heap.size := by omega
  have m0' : ¬ w.heap.size = nb + 1 := by omega
  have n1 : ¬ nb = w.heap.size + 1 := by omega
  have m1 : ¬ w.heap.size + 1 = nb := by omega
  have n1' : ¬ nb + 1 = w.heap.size + 1 := by omega
  have m1' : ¬ w.heap.size + 1 = nb + 1 := by omega
  have n2 : ¬ nb = w.heap.size + 1 + 1 := by omega
  have m2 : ¬ w.heap.size + 1 + 1 = nb := by omega
  have n2' : ¬ nb + 1 = w.heap.size + 1 + 1 := by omega
  have m2' : ¬ w.heap.size + 1 + 1 = nb + 1 := by omega
  have n3 : ¬ nb = w.heap.size + 1 + 1 + 1 := by omega
  have m3 : ¬ w.heap.size + 1 + 1 + 1 = nb := by omega
  have n3' : ¬ nb + 1 = w.heap.size + 1 + 1 + 1 := by omega
  have m3' : ¬ w.heap.size + 1 + 1 + 1 = nb + 1 := by omega
  rcases HCS.out with ⟨rfl, e1⟩ | ⟨rfl, e1, e2⟩ | ⟨rfl, e1, e2, p1, p2, p3, p4, p5, p6, p7⟩
  all_goals clear HCS
  · refine wp_loop_rounds 1 ?_
    refine rounds_abs (F := fun X => X.cell? ⟨w.heap.size, 0, none⟩ = some (.int .i64 k) ∧ X.cell? ⟨w.heap.size, 1, none⟩ = some (.int .i64 l) ∧ X.cell? ⟨w.heap.size, 2, none⟩ = some (.int .i64 d) ∧ X.cell? ⟨w.heap.size, 3, none⟩ = some (.int .i64 b) ∧ X.cell? ⟨w.heap.size, 4, none⟩ = some (.int .i64 cc) ∧ X.cell? ⟨w.heap.size, 5, none⟩ = some (.bool o) ∧ X.cell? ⟨w.heap.size + 1, 0, none⟩ = some (.int .i64 at_) ∧ X.cell? ⟨w.heap.size + 1, 1, none⟩ = some (.int .i64 level) ∧ X.cell? ⟨w.heap.size + 1, 2, none⟩ = some (.int .i64 held) ∧ X.cell? ⟨w.heap.size + 1, 3, none⟩ = some (.slice a 0 c) ∧ X.cell? ⟨w.heap.size + 1 + 1, 0, none⟩ = some (.int .i64 1) ∧ X.cell? ⟨w.heap.size + 1 + 1, 1, none⟩ = some (.int .i64 anow) ∧ X.cell? ⟨w.heap.size + 1 + 1, 2, none⟩ = some (.int .i64 acost) ∧ X.cell? ⟨nb, 0, none⟩ = some (.int .i64 aat) ∧ X.cell? ⟨nb, 1, none⟩ = some (.int .i64 alv) ∧ X.cell? ⟨nb, 2, none⟩ = some (.int .i64 ahd) ∧ X.cell? ⟨nb, 3, none⟩ = some (.slice none 0 0) ∧ X.cell? ⟨nb + 1, 0, none⟩ = some (.int .i64 0) ∧ X.cell? ⟨nb + 1, 1, none⟩ = some (.int .i64 0) ∧ X.cell? ⟨nb + 1, 2, none⟩ = some (.int .i64 0) ∧ X.cell? ⟨nb + 1, 3, none⟩ = some (.bool false) ∧ ResB X (w.heap.size + 1 + 1 + 1) ∧ ResB X (nb + 1) ∧ Below w.heap.size w X) ⟨c0, c1, c2, c3, c4, c5, c6, c7, c8, c9, c10, c11, c12, x0, x1, x2, x3, y0, y1, y2, y3, hR, hY, hB⟩ ?_
    clear hR hY hB F0 F1 F2 F3 I0 I1 I2 I3 G0 G1 G2 G3 c0 c1 c2 c3 c4 c5 c6 c7 c8 c9 c10 c11 c12 x0 x1 x2 x3 y0 y1 y2 y3
    rintro W0 ⟨c0, c1, c2, c3, c4, c5, c6, c7, c8, c9, c10, c11, c12, x0, x1, x2, x3, y0, y1, y2, y3, hR, hY, hB⟩
    obtain ⟨F0, F1, F2, F3, U0, U1, U2, U3, I0, I1, I2, I3⟩ := res_all hR
    obtain ⟨G0, G1, G2, G3, -⟩ := res_all hY
    have lz : nb + 1 < W0.heap.size := res_lt hY
    have lz' : nb < W0.heap.size := by omega
    have l0 : w.heap.size < W0.heap.size := by omega
    have l1 : w.heap.size + 1 < W0.heap.size := by omega
    have l2 : w.heap.size + 1 + 1 < W0.heap.size := by omega
    have l3 : w.heap.size + 1 + 1 + 1 < W0.heap.size := by omega
    refine Eq.mpr (rounds_succ (n := 0)) ?_
    repeat' (first | go_skip | go_guarded | go_step | go_step3 | go_upon)
    (try simp only [Exit.inBlock, Exit.then, Exit.noGoto_ret])
    refine bodyPost_ret (results_state2 rfl _ _ (by rfl) (cells4_alloc (set4r (res4 hR)))) rfl ⟨by first | rfl | simp, (bl_alloc (bl4 (bl4 hB (by omega)) (by omega)) _)⟩
  · refine wp_loop_rounds 1 ?_
    refine rounds_abs (F := fun X => X.cell? ⟨w.heap.size, 0, none⟩ = some (.int .i64 k) ∧ X.cell? ⟨w.heap.size, 1, none⟩ = some (.int .i64 l) ∧ X.cell? ⟨w.heap.size, 2, none⟩ = some (.int .i64 d) ∧ X.cell? ⟨w.heap.size, 3, none⟩ = some (.int .i64 b) ∧ X.cell? ⟨w.heap.size, 4, none⟩ = some (.int .i64 cc) ∧ X.cell? ⟨w.heap.size, 5, none⟩ = some (.bool o) ∧ X.cell? ⟨w.heap.size + 1, 0, none⟩ = some (.int .i64 at_) ∧ X.cell? ⟨w.heap.size + 1, 1, none⟩ = some (.int .i64 level) ∧ X.cell? ⟨w.heap.size + 1, 2, none⟩ = some (.int .i64 held) ∧ X.cell? ⟨w.heap.size + 1, 3, none⟩ = some (.slice a 0 c) ∧ X.cell? ⟨w.heap.size + 1 + 1, 0, none⟩ = some (.int .i64 1) ∧ X.cell? ⟨w.heap.size + 1 + 1, 1, none⟩ = some (.int .i64 anow) ∧ X.cell? ⟨w.heap.size + 1 + 1, 2, none⟩ = some (.int .i64 acost) ∧ X.cell? ⟨nb, 0, none⟩ = some (.int .i64 aat) ∧ X.cell? ⟨nb, 1, none⟩ = some (.int .i64 alv) ∧ X.cell? ⟨nb, 2, none⟩ = some (.int .i64 ahd) ∧ X.cell? ⟨nb, 3, none⟩ = some (.slice none 0 0) ∧ X.cell? ⟨nb + 1, 0, none⟩ = some (.int .i64 0) ∧ X.cell? ⟨nb + 1, 1, none⟩ = some (.int .i64 0) ∧ X.cell? ⟨nb + 1, 2, none⟩ = some (.int .i64 0) ∧ X.cell? ⟨nb + 1, 3, none⟩ = some (.bool false) ∧ ResB X (w.heap.size + 1 + 1 + 1) ∧ ResB X (nb + 1) ∧ Below w.heap.size w X) ⟨c0, c1, c2, c3, c4, c5, c6, c7, c8, c9, c10, c11, c12, x0, x1, x2, x3, y0, y1, y2, y3, hR, hY, hB⟩ ?_
    clear hR hY hB F0 F1 F2 F3 I0 I1 I2 I3 G0 G1 G2 G3 c0 c1 c2 c3 c4 c5 c6 c7 c8 c9 c10 c11 c12 x0 x1 x2 x3 y0 y1 y2 y3
    rintro W0 ⟨c0, c1, c2, c3, c4, c5, c6, c7, c8, c9, c10, c11, c12, x0, x1, x2, x3, y0, y1, y2, y3, hR, hY, hB⟩
    obtain ⟨F0, F1, F2, F3, U0, U1, U2, U3, I0, I1, I2, I3⟩ := res_all hR
    obtain ⟨G0, G1, G2, G3, -⟩ := res_all hY
    have lz : nb + 1 < W0.heap.size := res_lt hY
    have lz' : nb < W0.heap.size := by omega
    have l0 : w.heap.size < W0.heap.size := by omega
    have l1 : w.heap.size + 1 < W0.heap.size := by omega
    have l2 : w.heap.size + 1 + 1 < W0.heap.size := by omega
    have l3 : w.heap.size + 1 + 1 + 1 < W0.heap.size := by omega
    refine Eq.mpr (rounds_succ (n := 0)) ?_
    repeat' (first | go_skip | go_guarded | go_step | go_step3 | go_upon)
    (try simp only [Exit.inBlock, Exit.then, Exit.noGoto_ret])
    refine bodyPost_ret (results_state2 rfl _ _ (by rfl) (cells4_alloc (set4r (res4 hR)))) rfl ⟨by first | rfl | simp, (bl_alloc (bl4 (bl4 hB (by omega)) (by omega)) _)⟩
  · refine wp_loop_rounds 1 ?_
    refine rounds_abs (F := fun X => X.cell? ⟨w.heap.size, 0, none⟩ = some (.int .i64 k) ∧ X.cell? ⟨w.heap.size, 1, none⟩ = some (.int .i64 l) ∧ X.cell? ⟨w.heap.size, 2, none⟩ = some (.int .i64 d) ∧ X.cell? ⟨w.heap.size, 3, none⟩ = some (.int .i64 b) ∧ X.cell? ⟨w.heap.size, 4, none⟩ = some (.int .i64 cc) ∧ X.cell? ⟨w.heap.size, 5, none⟩ = some (.bool o) ∧ X.cell? ⟨w.heap.size + 1, 0, none⟩ = some (.int .i64 at_) ∧ X.cell? ⟨w.heap.size + 1, 1, none⟩ = some (.int .i64 level) ∧ X.cell? ⟨w.heap.size + 1, 2, none⟩ = some (.int .i64 held) ∧ X.cell? ⟨w.heap.size + 1, 3, none⟩ = some (.slice a 0 c) ∧ X.cell? ⟨w.heap.size + 1 + 1, 0, none⟩ = some (.int .i64 1) ∧ X.cell? ⟨w.heap.size + 1 + 1, 1, none⟩ = some (.int .i64 anow) ∧ X.cell? ⟨w.heap.size + 1 + 1, 2, none⟩ = some (.int .i64 acost) ∧ X.cell? ⟨nb, 0, none⟩ = some (.int .i64 aat) ∧ X.cell? ⟨nb, 1, none⟩ = some (.int .i64 alv) ∧ X.cell? ⟨nb, 2, none⟩ = some (.int .i64 ahd) ∧ X.cell? ⟨nb, 3, none⟩ = some (.slice none 0 0) ∧ X.cell? ⟨nb + 1, 0, none⟩ = some (.int .i64 0) ∧ X.cell? ⟨nb + 1, 1, none⟩ = some (.int .i64 0) ∧ X.cell? ⟨nb + 1, 2, none⟩ = some (.int .i64 0) ∧ X.cell? ⟨nb + 1, 3, none⟩ = some (.bool false) ∧ ResB X (w.heap.size + 1 + 1 + 1) ∧ ResB X (nb + 1) ∧ Below w.heap.size w X) ⟨c0, c1, c2, c3, c4, c5, c6, c7, c8, c9, c10, c11, c12, x0, x1, x2, x3, y0, y1, y2, y3, hR, hY, hB⟩ ?_
    clear hR hY hB F0 F1 F2 F3 I0 I1 I2 I3 G0 G1 G2 G3 c0 c1 c2 c3 c4 c5 c6 c7 c8 c9 c10 c11 c12 x0 x1 x2 x3 y0 y1 y2 y3
    rintro W0 ⟨c0, c1, c2, c3, c4, c5, c6, c7, c8, c9, c10, c11, c12, x0, x1, x2, x3, y0, y1, y2, y3, hR, hY, hB⟩
    obtain ⟨F0, F1, F2, F3, U0, U1, U2, U3, I0, I1, I2, I3⟩ := res_all hR
    obtain ⟨G0, G1, G2, G3, -⟩ := res_all hY
    have lz : nb + 1 < W0.heap.size := res_lt hY
    have lz' : nb < W0.heap.size := by omega
    have l0 : w.heap.size < W0.heap.size := by omega
    have l1 : w.heap.size + 1 < W0.heap.size := by omega
    have l2 : w.heap.size + 1 + 1 < W0.heap.size := by omega
    have l3 : w.heap.size + 1 + 1 + 1 < W0.heap.size := by omega
    refine Eq.mpr (rounds_succ (n := 0)) ?_
    repeat' (first | go_skip | go_guarded | go_step | go_step3 | go_upon)
    (try simp only [Exit.inBlock, Exit.then, Exit.noGoto_ret])
    refine bodyPost_ret (results_state2 rfl _ _ (by rfl) (cells4_alloc (set4r (res4 hR)))) rfl ⟨by first | rfl | simp, (bl_alloc (bl4 (bl4 hB (by omega)) (by omega)) _)⟩

set_option maxHeartbeats 2000000 in
set_option maxRecDepth 100000 in
theorem cdo_2 (p : Pol) (s : St) (a : Option Addr) (c : Nat) (anow acost : Int) (A : St) (w : World) (h : rightC p s) (hA : A = advC p s anow) (bad : Bool) (hbad : bad = true ↔ (acost < 1 ∨ p.limit - A.held - A.level < acost)) :
    Calls Try.prog 23 #[p.v, s.v a 0 c, .agg #[.int .i64 2, .int .i64 anow, .int .i64 acost]] w fun e w' =>
      e = .returned (.tuple #[if bad then s.v a 0 c else .agg #[.int .i64 A.at_, .int .i64 (A.level), .int .i64 (A.held + acost), .slice none 0 0], .bool (!bad)]) ∧ Below w.heap.size w w' := by
  have hlg := h.2.2.2.2.2.2.2.2
  have hrt := cright_any p s a 0 c (by rw [hlg]; rfl)
  have hav := cadv_any p s a 0 c anow (by rw [hlg]; rfl)
  rw [decide_eq_true h] at hrt
  have hlv := advC_level p s anow h
  rw [← hA] at hav hlv
  obtain ⟨⟨q0, q1, q2, q3, q4, q5, q6⟩, r1, r2, r3, r4, r5, r6, r7, r8⟩ := h
  clear hA
  obtain ⟨k, l, d, b, cc, o⟩ := p
  obtain ⟨at_, level, held, lg⟩ := s
  obtain ⟨aat, alv, ahd, alg⟩ := A
  unfold St.v Pol.v at *
  dsimp only at *
  have hw1 : IntKind.i64.wrap (l - ahd) = l - ahd := IntWalk.i64_in _ (by omega)
  have hw2 : IntKind.i64.wrap (l - ahd - alv) = l - ahd - alv := IntWalk.i64_in _ (by omega)
  have HRT := Go.Lib.hid hrt
  have HAV := Go.Lib.hid hav
  have j0 := idx0
  have j1 := idx1
  have j2 := idx2
  have j3 := idx3
  have hcase : (bad = true ∧ acost < 1) ∨ (bad = true ∧ ¬ acost < 1 ∧ l - ahd - alv < acost) ∨ (bad = false ∧ ¬ acost < 1 ∧ ¬ l - ahd - alv < acost ∧ IntKind.i64.wrap acost = acost ∧ IntKind.i64.wrap (-acost) = -acost ∧ IntKind.i64.wrap (ahd + acost) = ahd + acost ∧ IntKind.i64.wrap (ahd + -acost) = ahd - acost ∧ IntKind.i64.wrap (alv + acost) = alv + acost ∧ IntKind.i64.wrap ahd = ahd ∧ IntKind.i64.wrap alv = alv) := by
    cases bad
    · simp at hbad
      refine .inr (.inr ⟨rfl, by omega, by omega, IntWalk.i64_in _ (by omega), IntWalk.i64_in _ (by omega), IntWalk.i64_in _ (by omega), ?_, IntWalk.i64_in _ (by omega), IntWalk.i64_in _ (by omega), IntWalk.i64_in _ (by omega)⟩)
      rw [IntWalk.i64_in _ (by omega)]
      rfl
    · simp at hbad
      rcases hbad with hx | hx
      · exact .inl ⟨rfl, hx⟩
      · by_cases hy : acost < 1
        · exact .inl ⟨rfl, hy⟩
        · exact .inr (.inl ⟨rfl, hy, hx⟩)
  have HCS := Go.Lib.hid hcase
  clear hbad hcase
  clear hrt hav hlv q0 q1 q2 q3 q4 q5 q6 r1 r2 r3 r4 r5 r6 r7 r8 hlg
  go_enter Try.func23, Try.ntmps23
  go_wp2_with go_step3
  refine (HRT.out _).mono ?_
  rintro e w1 ⟨rfl, hb⟩
  have hB : Below w.heap.size w w1 := bl_then (bl_alloc (bl_alloc (bl_alloc (bl_alloc (bl_refl _) _) _) _) _) hb
  have c0 := bl_cell (v := .int .i64 k) hb (show World.cell? _ ⟨w.heap.size, 0, none⟩ = _ by go_simp)
  have c1 := bl_cell (v := .int .i64 l) hb (show World.cell? _ ⟨w.heap.size, 1, none⟩ = _ by go_simp)
  have c2 := bl_cell (v := .int .i64 d) hb (show World.cell? _ ⟨w.heap.size, 2, none⟩ = _ by go_simp)
  have c3 := bl_cell (v := .int .i64 b) hb (show World.cell? _ ⟨w.heap.size, 3, none⟩ = _ by go_simp)
  have c4 := bl_cell (v := .int .i64 cc) hb (show World.cell? _ ⟨w.heap.size, 4, none⟩ = _ by go_simp)
  have c5 := bl_cell (v := .bool o) hb (show World.cell? _ ⟨w.heap.size, 5, none⟩ = _ by go_simp)
  have c6 := bl_cell (v := .int .i64 at_) hb (show World.cell? _ ⟨w.heap.size + 1, 0, none⟩ = _ by go_simp)
  have c7 := bl_cell (v := .int .i64 level) hb (show World.cell? _ ⟨w.heap.size + 1, 1, none⟩ = _ by go_simp)
  have c8 := bl_cell (v := .int .i64 held) hb (show World.cell? _ ⟨w.heap.size + 1, 2, none⟩ = _ by go_simp)
  have c9 := bl_cell (v := .slice a 0 c) hb (show World.cell? _ ⟨w.heap.size + 1, 3, none⟩ = _ by go_simp)
  have c10 := bl_cell (v := .int .i64 2) hb (show World.cell? _ ⟨w.heap.size + 1 + 1, 0, none⟩ = _ by go_simp)
  have c11 := bl_cell (v := .int .i64 anow) hb (show World.cell? _ ⟨w.heap.size + 1 + 1, 1, none⟩ = _ by go_simp)
  have c12 := bl_cell (v := .int .i64 acost) hb (show World.cell? _ ⟨w.heap.size + 1 + 1, 2, none⟩ = _ by go_simp)
  have hR : ResB w1 (w.heap.size + 1 + 1 + 1) := res_bl (res_new _ _ _ _ _ _ (by simp)) hb
  clear hb HRT
  go_wp2_with go_step3
  refine (HAV.out _).mono ?_
  rintro e w2 ⟨rfl, hb⟩
  clear HAV
  have d0 := bl_cell hb c0
  have d1 := bl_cell hb c1
  have d2 := bl_cell hb c2
  have d3 := bl_cell hb c3
  have d4 := bl_cell hb c4
  have d5 := bl_cell hb c5
  have d6 := bl_cell hb c6
  have d7 := bl_cell hb c7
  have d8 := bl_cell hb c8
  have d9 := bl_cell hb c9
  have d10 := bl_cell hb c10
  have d11 := bl_cell hb c11
  have d12 := bl_cell hb c12
  have dR := res_bl hR hb
  have dB := bl_then hB hb
  have hlt := res_lt dR
  clear hR hB hb c0 c1 c2 c3 c4 c5 c6 c7 c8 c9 c10 c11 c12
  go_wp2_with go_step3
  refine (changes_any _).mono ?_
  rintro e w3 ⟨rfl, hb⟩
  have c0 := bl_cell hb (bl_cell (bl_alloc (bl_alloc (bl_refl w2) _) _) d0)
  have c1 := bl_cell hb (bl_cell (bl_alloc (bl_alloc (bl_refl w2) _) _) d1)
  have c2 := bl_cell hb (bl_cell (bl_alloc (bl_alloc (bl_refl w2) _) _) d2)
  have c3 := bl_cell hb (bl_cell (bl_alloc (bl_alloc (bl_refl w2) _) _) d3)
  have c4 := bl_cell hb (bl_cell (bl_alloc (bl_alloc (bl_refl w2) _) _) d4)
  have c5 := bl_cell hb (bl_cell (bl_alloc (bl_alloc (bl_refl w2) _) _) d5)
  have c6 := bl_cell hb (bl_cell (bl_alloc (bl_alloc (bl_refl w2) _) _) d6)
  have c7 := bl_cell hb (bl_cell (bl_alloc (bl_alloc (bl_refl w2) _) _) d7)
  have c8 := bl_cell hb (bl_cell (bl_alloc (bl_alloc (bl_refl w2) _) _) d8)
  have c9 := bl_cell hb (bl_cell (bl_alloc (bl_alloc (bl_refl w2) _) _) d9)
  have c10 := bl_cell hb (bl_cell (bl_alloc (bl_alloc (bl_refl w2) _) _) d10)
  have c11 := bl_cell hb (bl_cell (bl_alloc (bl_alloc (bl_refl w2) _) _) d11)
  have c12 := bl_cell hb (bl_cell (bl_alloc (bl_alloc (bl_refl w2) _) _) d12)
  have hR := res_bl (res_bl dR (bl_alloc (bl_alloc (bl_refl w2) _) _)) hb
  have hB := bl_then (bl_alloc (bl_alloc dB _) _) hb
  have x0 := bl_cell (v := .int .i64 aat) hb (show World.cell? _ ⟨w2.heap.size, 0, none⟩ = _ by go_simp)
  have x1 := bl_cell (v := .int .i64 alv) hb (show World.cell? _ ⟨w2.heap.size, 1, none⟩ = _ by go_simp)
  have x2 := bl_cell (v := .int .i64 ahd) hb (show World.cell? _ ⟨w2.heap.size, 2, none⟩ = _ by go_simp)
  have x3 := bl_cell (v := .slice none 0 0) hb (show World.cell? _ ⟨w2.heap.size, 3, none⟩ = _ by go_simp)
  have y0 := bl_cell (v := .int .i64 0) hb (show World.cell? _ ⟨w2.heap.size + 1, 0, none⟩ = _ by go_simp)
  have y1 := bl_cell (v := .int .i64 0) hb (show World.cell? _ ⟨w2.heap.size + 1, 1, none⟩ = _ by go_simp)
  have y2 := bl_cell (v := .int .i64 0) hb (show World.cell? _ ⟨w2.heap.size + 1, 2, none⟩ = _ by go_simp)
  have y3 := bl_cell (v := .bool false) hb (show World.cell? _ ⟨w2.heap.size + 1, 3, none⟩ = _ by go_simp)
  have hY : ResB w3 (w2.heap.size + 1) := res_bl (res_new _ _ _ _ _ _ (by simp)) hb
  have hlt3 : w2.heap.size + 1 < w3.heap.size := res_lt hY
  generalize w2.heap.size = nb at *
  clear hb dR dB d0 d1 d2 d3 d4 d5 d6 d7 d8 d9 d10 d11 d12
  obtain ⟨F0, F1, F2, F3, U0, U1, U2, U3, I0, I1, I2, I3⟩ := res_all hR
  obtain ⟨G0, G1, G2, G3, V0, V1, V2, V3, -⟩ := res_all hY
  go_wp2_with go_step3
  have n0 : ¬ nb = w.heap.size := by omega
  have m0 : ¬ w.heap.size = nb := by omega
  have n0' : ¬ nb + 1 = w.heap.size := by omega
  have m0' : ¬ w.heap.size = nb + 1 := by omega
  have n1 : ¬ nb = w.heap.size + 1 := by omega
  have m1 : ¬ w.heap.size + 1 = nb := by omega
  have n1' : ¬ nb + 1 = w.heap.size + 1 := by omega
  have m1' : ¬ w.heap.size + 1 = nb + 1 := by omega
  have n2 : ¬ nb = w.heap.size + 1 + 1 := by omega
  have m2 : ¬ w.heap.size + 1 + 1 = nb := by omega
  have n2' : ¬ nb + 1 = w.heap.size + 1 + 1 := by omega
  have m2' : ¬ w.heap.size + 1 + 1 = nb + 1 := by omega
  have n3 : ¬ nb = w.heap.size + 1 + 1 + 1 := by omega
  have m3 : ¬ w.heap.size + 1 + 1 + 1 = nb := by omega
  have n3' : ¬ nb + 1 = w.heap.size + 1 + 1 + 1 := by omega
  have m3' : ¬ w.heap.size + 1 + 1 + 1 = nb + 1 := by omega
  rcases HCS.out with ⟨rfl, e1⟩ | ⟨rfl, e1, e2⟩ | ⟨rfl, e1, e2, p1, p2, p3, p4, p5, p6, p7⟩
  all_goals clear HCS
  · refine wp_loop_rounds 2 ?_
    refine rounds_abs (F := fun X => X.cell? ⟨w.heap.size, 0, none⟩ = some (.int .i64 k) ∧ X.cell? ⟨w.heap.size, 1, none⟩ = some (.int .i64 l) ∧ X.cell? ⟨w.heap.size, 2, none⟩ = some (.int .i64 d) ∧ X.cell? ⟨w.heap.size, 3, none⟩ = some (.int .i64 b) ∧ X.cell? ⟨w.heap.size, 4, none⟩ = some (.int .i64 cc) ∧ X.cell? ⟨w.heap.size, 5, none⟩ = some (.bool o) ∧ X.cell? ⟨w.heap.size + 1, 0, none⟩ = some (.int .i64 at_) ∧ X.cell? ⟨w.heap.size + 1, 1, none⟩ = some (.int .i64 level) ∧ X.cell? ⟨w.heap.size + 1, 2, none⟩ = some (.int .i64 held) ∧ X.cell? ⟨w.heap.size + 1, 3, none⟩ = some (.slice a 0 c) ∧ X.cell? ⟨w.heap.size + 1 + 1, 0, none⟩ = some (.int .i64 2) ∧ X.cell? ⟨w.heap.size + 1 + 1, 1, none⟩ = some (.int .i64 anow) ∧ X.cell? ⟨w.heap.size + 1 + 1, 2, none⟩ = some (.int .i64 acost) ∧ X.cell? ⟨nb, 0, none⟩ = some (.int .i64 aat) ∧ X.cell? ⟨nb, 1, none⟩ = some (.int .i64 alv) ∧ X.cell? ⟨nb, 2, none⟩ = some (.int .i64 ahd) ∧ X.cell? ⟨nb, 3, none⟩ = some (.slice none 0 0) ∧ X.cell? ⟨nb + 1, 0, none⟩ = some (.int .i64 0) ∧ X.cell? ⟨nb + 1, 1, none⟩ = some (.int .i64 0) ∧ X.cell? ⟨nb + 1, 2, none⟩ = some (.int .i64 0) ∧ X.cell? ⟨nb + 1, 3, none⟩ = some (.bool false) ∧ ResB X (w.heap.size + 1 + 1 + 1) ∧ ResB X (nb + 1) ∧ Below w.heap.size w X) ⟨c0, c1, c2, c3, c4, c5, c6, c7, c8, c9, c10, c11, c12, x0, x1, x2, x3, y0, y1, y2, y3, hR, hY, hB⟩ ?_
    clear hR hY hB F0 F1 F2 F3 I0 I1 I2 I3 G0 G1 G2 G3 c0 c1 c2 c3 c4 c5 c6 c7 c8 c9 c10 c11 c12 x0 x1 x2 x3 y0 y1 y2 y3
    rintro W0 ⟨c0, c1, c2, c3, c4, c5, c6, c7, c8, c9, c10, c11, c12, x0, x1, x2, x3, y0, y1, y2, y3, hR, hY, hB⟩
    obtain ⟨F0, F1, F2, F3, U0, U1, U2, U3, I0, I1, I2, I3⟩ := res_all hR
    obtain ⟨G0, G1, G2, G3, -⟩ := res_all hY
    have lz : nb + 1 < W0.heap.size := res_lt hY
    have lz' : nb < W0.heap.size := by omega
    have l0 : w.heap.size < W0.heap.size := by omega
    have l1 : w.heap.size + 1 < W0.heap.size := by omega
    have l2 : w.heap.size + 1 + 1 < W0.heap.size := by omega
    have l3 : w.heap.size + 1 + 1 + 1 < W0.heap.size := by omega
    refine Eq.mpr (rounds_succ (n := 1)) ?_
    repeat' (first | go_skip | go_guarded | go_step | go_step3 | go_upon)
    clear lz lz' l0 l1 l2 l3
    refine rounds_abs (F := fun X => X.cell? ⟨w.heap.size, 0, none⟩ = some (.int .i64 k) ∧ X.cell? ⟨w.heap.size, 1, none⟩ = some (.int .i64 l) ∧ X.cell? ⟨w.heap.size, 2, none⟩ = some (.int .i64 d) ∧ X.cell? ⟨w.heap.size, 3, none⟩ = some (.int .i64 b) ∧ X.cell? ⟨w.heap.size, 4, none⟩ = some (.int .i64 cc) ∧ X.cell? ⟨w.heap.size, 5, none⟩ = some (.bool o) ∧ X.cell? ⟨w.heap.size + 1, 0, none⟩ = some (.int .i64 at_) ∧ X.cell? ⟨w.heap.size + 1, 1, none⟩ = some (.int .i64 level) ∧ X.cell? ⟨w.heap.size + 1, 2, none⟩ = some (.int .i64 held) ∧ X.cell? ⟨w.heap.size + 1, 3, none⟩ = some (.slice a 0 c) ∧ X.cell? ⟨w.heap.size + 1 + 1, 0, none⟩ = some (.int .i64 2) ∧ X.cell? ⟨w.heap.size + 1 + 1, 1, none⟩ = some (.int .i64 anow) ∧ X.cell? ⟨w.heap.size + 1 + 1, 2, none⟩ = some (.int .i64 acost) ∧ X.cell? ⟨nb, 0, none⟩ = some (.int .i64 aat) ∧ X.cell? ⟨nb, 1, none⟩ = some (.int .i64 alv) ∧ X.cell? ⟨nb, 2, none⟩ = some (.int .i64 ahd) ∧ X.cell? ⟨nb, 3, none⟩ = some (.slice none 0 0) ∧ X.cell? ⟨nb + 1, 0, none⟩ = some (.int .i64 0) ∧ X.cell? ⟨nb + 1, 1, none⟩ = some (.int .i64 0) ∧ X.cell? ⟨nb + 1, 2, none⟩ = some (.int .i64 0) ∧ X.cell? ⟨nb + 1, 3, none⟩ = some (.bool false) ∧ ResB X (w.heap.size + 1 + 1 + 1) ∧ ResB X (nb + 1) ∧ Below w.heap.size w X) ⟨bl_cell (bl_alloc (bl_refl _) _) c0, bl_cell (bl_alloc (bl_refl _) _) c1, bl_cell (bl_alloc (bl_refl _) _) c2, bl_cell (bl_alloc (bl_refl _) _) c3, bl_cell (bl_alloc (bl_refl _) _) c4, bl_cell (bl_alloc (bl_refl _) _) c5, bl_cell (bl_alloc (bl_refl _) _) c6, bl_cell (bl_alloc (bl_refl _) _) c7, bl_cell (bl_alloc (bl_refl _) _) c8, bl_cell (bl_alloc (bl_refl _) _) c9, bl_cell (bl_alloc (bl_refl _) _) c10, bl_cell (bl_alloc (bl_refl _) _) c11, bl_cell (bl_alloc (bl_refl _) _) c12, bl_cell (bl_alloc (bl_refl _) _) x0, bl_cell (bl_alloc (bl_refl _) _) x1, bl_cell (bl_alloc (bl_refl _) _) x2, bl_cell (bl_alloc (bl_refl _) _) x3, bl_cell (bl_alloc (bl_refl _) _) y0, bl_cell (bl_alloc (bl_refl _) _) y1, bl_cell (bl_alloc (bl_refl _) _) y2, bl_cell (bl_alloc (bl_refl _) _) y3, res_bl hR (bl_alloc (bl_refl _) _), res_bl hY (bl_alloc (bl_refl _) _), bl_alloc hB _⟩ ?_
    clear hR hY hB F0 F1 F2 F3 I0 I1 I2 I3 G0 G1 G2 G3 c0 c1 c2 c3 c4 c5 c6 c7 c8 c9 c10 c11 c12 x0 x1 x2 x3 y0 y1 y2 y3
    rintro W1 ⟨c0, c1, c2, c3, c4, c5, c6, c7, c8, c9, c10, c11, c12, x0, x1, x2, x3, y0, y1, y2, y3, hR, hY, hB⟩
    obtain ⟨F0, F1, F2, F3, U0, U1, U2, U3, I0, I1, I2, I3⟩ := res_all hR
    obtain ⟨G0, G1, G2, G3, -⟩ := res_all hY
    have lz : nb + 1 < W1.heap.size := res_lt hY
    have lz' : nb < W1.heap.size := by omega
    have l0 : w.heap.size < W1.heap.size := by omega
    have l1 : w.heap.size + 1 < W1.heap.size := by omega
    have l2 : w.heap.size + 1 + 1 < W1.heap.size := by omega
    have l3 : w.heap.size + 1 + 1 + 1 < W1.heap.size := by omega
    refine Eq.mpr (rounds_succ (n := 0)) ?_
    repeat' (first | go_skip | go_guarded | go_step | go_step3 | go_upon)
    (try simp only [Exit.inBlock, Exit.then, Exit.noGoto_ret])
    refine bodyPost_ret (results_state2 rfl _ _ (by rfl) (cells4_alloc (set4r (res4 hR)))) rfl ⟨by first | rfl | simp, (bl_alloc (bl4 (bl4 hB (by omega)) (by omega)) _)⟩
  · refine wp_loop_rounds 2 ?_
    refine rounds_abs (F := fun X => X.cell? ⟨w.heap.size, 0, none⟩ = some (.int .i64 k) ∧ X.cell? ⟨w.heap.size, 1, none⟩ = some (.int .i64 l) ∧ X.cell? ⟨w.heap.size, 2, none⟩ = some (.int .i64 d) ∧ X.cell? ⟨w.heap.size, 3, none⟩ = some (.int .i64 b) ∧ X.cell? ⟨w.heap.size, 4, none⟩ = some (.int .i64 cc) ∧ X.cell? ⟨w.heap.size, 5, none⟩ = some (.bool o) ∧ X.cell? ⟨w.heap.size + 1, 0, none⟩ = some (.int .i64 at_) ∧ X.cell? ⟨w.heap.size + 1, 1, none⟩ = some (.int .i64 level) ∧ X.cell? ⟨w.heap.size + 1, 2, none⟩ = some (.int .i64 held) ∧ X.cell? ⟨w.heap.size + 1, 3, none⟩ = some (.slice a 0 c) ∧ X.cell? ⟨w.heap.size + 1 + 1, 0, none⟩ = some (.int .i64 2) ∧ X.cell? ⟨w.heap.size + 1 + 1, 1, none⟩ = some (.int .i64 anow) ∧ X.cell? ⟨w.heap.size + 1 + 1, 2, none⟩ = some (.int .i64 acost) ∧ X.cell? ⟨nb, 0, none⟩ = some (.int .i64 aat) ∧ X.cell? ⟨nb, 1, none⟩ = some (.int .i64 alv) ∧ X.cell? ⟨nb, 2, none⟩ = some (.int .i64 ahd) ∧ X.cell? ⟨nb, 3, none⟩ = some (.slice none 0 0) ∧ X.cell? ⟨nb + 1, 0, none⟩ = some (.int .i64 0) ∧ X.cell? ⟨nb + 1, 1, none⟩ = some (.int .i64 0) ∧ X.cell? ⟨nb + 1, 2, none⟩ = some (.int .i64 0) ∧ X.cell? ⟨nb + 1, 3, none⟩ = some (.bool false) ∧ ResB X (w.heap.size + 1 + 1 + 1) ∧ ResB X (nb + 1) ∧ Below w.heap.size w X) ⟨c0, c1, c2, c3, c4, c5, c6, c7, c8, c9, c10, c11, c12, x0, x1, x2, x3, y0, y1, y2, y3, hR, hY, hB⟩ ?_
    clear hR hY hB F0 F1 F2 F3 I0 I1 I2 I3 G0 G1 G2 G3 c0 c1 c2 c3 c4 c5 c6 c7 c8 c9 c10 c11 c12 x0 x1 x2 x3 y0 y1 y2 y3
    rintro W0 ⟨c0, c1, c2, c3, c4, c5, c6, c7, c8, c9, c10, c11, c12, x0, x1, x2, x3, y0, y1, y2, y3, hR, hY, hB⟩
    obtain ⟨F0, F1, F2, F3, U0, U1, U2, U3, I0, I1, I2, I3⟩ := res_all hR
    obtain ⟨G0, G1, G2, G3, -⟩ := res_all hY
    have lz : nb + 1 < W0.heap.size := res_lt hY
    have lz' : nb < W0.heap.size := by omega
    have l0 : w.heap.size < W0.heap.size := by omega
    have l1 : w.heap.size + 1 < W0.heap.size := by omega
    have l2 : w.heap.size + 1 + 1 < W0.heap.size := by omega
    have l3 : w.heap.size + 1 + 1 + 1 < W0.heap.size := by omega
    refine Eq.mpr (rounds_succ (n := 1)) ?_
    repeat' (first | go_skip | go_guarded | go_step | go_step3 | go_upon)
    clear lz lz' l0 l1 l2 l3
    refine rounds_abs (F := fun X => X.cell? ⟨w.heap.size, 0, none⟩ = some (.int .i64 k) ∧ X.cell? ⟨w.heap.size, 1, none⟩ = some (.int .i64 l) ∧ X.cell? ⟨w.heap.size, 2, none⟩ = some (.int .i64 d) ∧ X.cell? ⟨w.heap.size, 3, none⟩ = some (.int .i64 b) ∧ X.cell? ⟨w.heap.size, 4, none⟩ = some (.int .i64 cc) ∧ X.cell? ⟨w.heap.size, 5, none⟩ = some (.bool o) ∧ X.cell? ⟨w.heap.size + 1, 0, none⟩ = some (.int .i64 at_) ∧ X.cell? ⟨w.heap.size + 1, 1, none⟩ = some (.int .i64 level) ∧ X.cell? ⟨w.heap.size + 1, 2, none⟩ = some (.int .i64 held) ∧ X.cell? ⟨w.heap.size + 1, 3, none⟩ = some (.slice a 0 c) ∧ X.cell? ⟨w.heap.size + 1 + 1, 0, none⟩ = some (.int .i64 2) ∧ X.cell? ⟨w.heap.size + 1 + 1, 1, none⟩ = some (.int .i64 anow) ∧ X.cell? ⟨w.heap.size + 1 + 1, 2, none⟩ = some (.int .i64 acost) ∧ X.cell? ⟨nb, 0, none⟩ = some (.int .i64 aat) ∧ X.cell? ⟨nb, 1, none⟩ = some (.int .i64 alv) ∧ X.cell? ⟨nb, 2, none⟩ = some (.int .i64 ahd) ∧ X.cell? ⟨nb, 3, none⟩ = some (.slice none 0 0) ∧ X.cell? ⟨nb + 1, 0, none⟩ = some (.int .i64 0) ∧ X.cell? ⟨nb + 1, 1, none⟩ = some (.int .i64 0) ∧ X.cell? ⟨nb + 1, 2, none⟩ = some (.int .i64 0) ∧ X.cell? ⟨nb + 1, 3, none⟩ = some (.bool false) ∧ ResB X (w.heap.size + 1 + 1 + 1) ∧ ResB X (nb + 1) ∧ Below w.heap.size w X) ⟨bl_cell (bl_alloc (bl_refl _) _) c0, bl_cell (bl_alloc (bl_refl _) _) c1, bl_cell (bl_alloc (bl_refl _) _) c2, bl_cell (bl_alloc (bl_refl _) _) c3, bl_cell (bl_alloc (bl_refl _) _) c4, bl_cell (bl_alloc (bl_refl _) _) c5, bl_cell (bl_alloc (bl_refl _) _) c6, bl_cell (bl_alloc (bl_refl _) _) c7, bl_cell (bl_alloc (bl_refl _) _) c8, bl_cell (bl_alloc (bl_refl _) _) c9, bl_cell (bl_alloc (bl_refl _) _) c10, bl_cell (bl_alloc (bl_refl _) _) c11, bl_cell (bl_alloc (bl_refl _) _) c12, bl_cell (bl_alloc (bl_refl _) _) x0, bl_cell (bl_alloc (bl_refl _) _) x1, bl_cell (bl_alloc (bl_refl _) _) x2, bl_cell (bl_alloc (bl_refl _) _) x3, bl_cell (bl_alloc (bl_refl _) _) y0, bl_cell (bl_alloc (bl_refl _) _) y1, bl_cell (bl_alloc (bl_refl _) _) y2, bl_cell (bl_alloc (bl_refl _) _) y3, res_bl hR (bl_alloc (bl_refl _) _), res_bl hY (bl_alloc (bl_refl _) _), bl_alloc hB _⟩ ?_
    clear hR hY hB F0 F1 F2 F3 I0 I1 I2 I3 G0 G1 G2 G3 c0 c1 c2 c3 c4 c5 c6 c7 c8 c9 c10 c11 c12 x0 x1 x2 x3 y0 y1 y2 y3
    rintro W1 ⟨c0, c1, c2, c3, c4, c5, c6, c7, c8, c9, c10, c11, c12, x0, x1, x2, x3, y0, y1, y2, y3, hR, hY, hB⟩
    obtain ⟨F0, F1, F2, F3, U0, U1, U2, U3, I0, I1, I2, I3⟩ := res_all hR
    obtain ⟨G0, G1, G2, G3, -⟩ := res_all hY
    have lz : nb + 1 < W1.heap.size := res_lt hY
    have lz' : nb < W1.heap.size := by omega
    have l0 : w.heap.size < W1.heap.size := by omega
    have l1 : w.heap.size + 1 < W1.heap.size := by omega
    have l2 : w.heap.size + 1 + 1 < W1.heap.size := by omega
    have l3 : w.heap.size + 1 + 1 + 1 < W1.heap.size := by omega
    refine Eq.mpr (rounds_succ (n := 0)) ?_
    repeat' (first | go_skip | go_guarded | go_step | go_step3 | go_upon)
    (try simp only [Exit.inBlock, Exit.then, Exit.noGoto_ret])
    refine bodyPost_ret (results_state2 rfl _ _ (by rfl) (cells4_alloc (set4r (res4 hR)))) rfl ⟨by first | rfl | simp, (bl_alloc (bl4 (bl4 hB (by omega)) (by omega)) _)⟩
  · refine wp_loop_rounds 2 ?_
    refine rounds_abs (F := fun X => X.cell? ⟨w.heap.size, 0, none⟩ = some (.int .i64 k) ∧ X.cell? ⟨w.heap.size, 1, none⟩ = some (.int .i64 l) ∧ X.cell? ⟨w.heap.size, 2, none⟩ = some (.int .i64 d) ∧ X.cell? ⟨w.heap.size, 3, none⟩ = some (.int .i64 b) ∧ X.cell? ⟨w.heap.size, 4, none⟩ = some (.int .i64 cc) ∧ X.cell? ⟨w.heap.size, 5, none⟩ = some (.bool o) ∧ X.cell? ⟨w.heap.size + 1, 0, none⟩ = some (.int .i64 at_) ∧ X.cell? ⟨w.heap.size + 1, 1, none⟩ = some (.int .i64 level) ∧ X.cell? ⟨w.heap.size + 1, 2, none⟩ = some (.int .i64 held) ∧ X.cell? ⟨w.heap.size + 1, 3, none⟩ = some (.slice a 0 c) ∧ X.cell? ⟨w.heap.size + 1 + 1, 0, none⟩ = some (.int .i64 2) ∧ X.cell? ⟨w.heap.size + 1 + 1, 1, none⟩ = some (.int .i64 anow) ∧ X.cell? ⟨w.heap.size + 1 + 1, 2, none⟩ = some (.int .i64 acost) ∧ X.cell? ⟨nb, 0, none⟩ = some (.int .i64 aat) ∧ X.cell? ⟨nb, 1, none⟩ = some (.int .i64 alv) ∧ X.cell? ⟨nb, 2, none⟩ = some (.int .i64 ahd) ∧ X.cell? ⟨nb, 3, none⟩ = some (.slice none 0 0) ∧ X.cell? ⟨nb + 1, 0, none⟩ = some (.int .i64 0) ∧ X.cell? ⟨nb + 1, 1, none⟩ = some (.int .i64 0) ∧ X.cell? ⟨nb + 1, 2, none⟩ = some (.int .i64 0) ∧ X.cell? ⟨nb + 1, 3, none⟩ = some (.bool false) ∧ ResB X (w.heap.size + 1 + 1 + 1) ∧ ResB X (nb + 1) ∧ Below w.heap.size w X) ⟨c0, c1, c2, c3, c4, c5, c6, c7, c8, c9, c10, c11, c12, x0, x1, x2, x3, y0, y1, y2, y3, hR, hY, hB⟩ ?_
    clear hR hY hB F0 F1 F2 F3 I0 I1 I2 I3 G0 G1 G2 G3 c0 c1 c2 c3 c4 c5 c6 c7 c8 c9 c10 c11 c12 x0 x1 x2 x3 y0 y1 y2 y3
    rintro W0 ⟨c0, c1, c2, c3, c4, c5, c6, c7, c8, c9, c10, c11, c12, x0, x1, x2, x3, y0, y1, y2, y3, hR, hY, hB⟩
    obtain ⟨F0, F1, F2, F3, U0, U1, U2, U3, I0, I1, I2, I3⟩ := res_all hR
    obtain ⟨G0, G1, G2, G3, -⟩ := res_all hY
    have lz : nb + 1 < W0.heap.size := res_lt hY
    have lz' : nb < W0.heap.size := by omega
    have l0 : w.heap.size < W0.heap.size := by omega
    have l1 : w.heap.size + 1 < W0.heap.size := by omega
    have l2 : w.heap.size + 1 + 1 < W0.heap.size := by omega
    have l3 : w.heap.size + 1 + 1 + 1 < W0.heap.size := by omega
    refine Eq.mpr (rounds_succ (n := 1)) ?_
    repeat' (first | go_skip | go_guarded | go_step | go_step3 | go_upon)
    clear lz lz' l0 l1 l2 l3
    refine rounds_abs (F := fun X => X.cell? ⟨w.heap.size, 0, none⟩ = some (.int .i64 k) ∧ X.cell? ⟨w.heap.size, 1, none⟩ = some (.int .i64 l) ∧ X.cell? ⟨w.heap.size, 2, none⟩ = some (.int .i64 d) ∧ X.cell? ⟨w.heap.size, 3, none⟩ = some (.int .i64 b) ∧ X.cell? ⟨w.heap.size, 4, none⟩ = some (.int .i64 cc) ∧ X.cell? ⟨w.heap.size, 5, none⟩ = some (.bool o) ∧ X.cell? ⟨w.heap.size + 1, 0, none⟩ = some (.int .i64 at_) ∧ X.cell? ⟨w.heap.size + 1, 1, none⟩ = some (.int .i64 level) ∧ X.cell? ⟨w.heap.size + 1, 2, none⟩ = some (.int .i64 held) ∧ X.cell? ⟨w.heap.size + 1, 3, none⟩ = some (.slice a 0 c) ∧ X.cell? ⟨w.heap.size + 1 + 1, 0, none⟩ = some (.int .i64 2) ∧ X.cell? ⟨w.heap.size + 1 + 1, 1, none⟩ = some (.int .i64 anow) ∧ X.cell? ⟨w.heap.size + 1 + 1, 2, none⟩ = some (.int .i64 acost) ∧ X.cell? ⟨nb, 0, none⟩ = some (.int .i64 aat) ∧ X.cell? ⟨nb, 1, none⟩ = some (.int .i64 alv) ∧ X.cell? ⟨nb, 2, none⟩ = some (.int .i64 ahd) ∧ X.cell? ⟨nb, 3, none⟩ = some (.slice none 0 0) ∧ X.cell? ⟨nb + 1, 0, none⟩ = some (.int .i64 0) ∧ X.cell? ⟨nb + 1, 1, none⟩ = some (.int .i64 0) ∧ X.cell? ⟨nb + 1, 2, none⟩ = some (.int .i64 0) ∧ X.cell? ⟨nb + 1, 3, none⟩ = some (.bool false) ∧ ResB X (w.heap.size + 1 + 1 + 1) ∧ ResB X (nb + 1) ∧ Below w.heap.size w X) ⟨bl_cell (bl_alloc (bl_refl _) _) c0, bl_cell (bl_alloc (bl_refl _) _) c1, bl_cell (bl_alloc (bl_refl _) _) c2, bl_cell (bl_alloc (bl_refl _) _) c3, bl_cell (bl_alloc (bl_refl _) _) c4, bl_cell (bl_alloc (bl_refl _) _) c5, bl_cell (bl_alloc (bl_refl _) _) c6, bl_cell (bl_alloc (bl_refl _) _) c7, bl_cell (bl_alloc (bl_refl _) _) c8, bl_cell (bl_alloc (bl_refl _) _) c9, bl_cell (bl_alloc (bl_refl _) _) c10, bl_cell (bl_alloc (bl_refl _) _) c11, bl_cell (bl_alloc (bl_refl _) _) c12, bl_cell (bl_alloc (bl_refl _) _) x0, bl_cell (bl_alloc (bl_refl _) _) x1, bl_cell (bl_alloc (bl_refl _) _) x2, bl_cell (bl_alloc (bl_refl _) _) x3, bl_cell (bl_alloc (bl_refl _) _) y0, bl_cell (bl_alloc (bl_refl _) _) y1, bl_cell (bl_alloc (bl_refl _) _) y2, bl_cell (bl_alloc (bl_refl _) _) y3, res_bl hR (bl_alloc (bl_refl _) _), res_bl hY (bl_alloc (bl_refl _) _), bl_alloc hB _⟩ ?_
    clear hR hY hB F0 F1 F2 F3 I0 I1 I2 I3 G0 G1 G2 G3 c0 c1 c2 c3 c4 c5 c6 c7 c8 c9 c10 c11 c12 x0 x1 x2 x3 y0 y1 y2 y3
    rintro W1 ⟨c0, c1, c2, c3, c4, c5, c6, c7, c8, c9, c10, c11, c12, x0, x1, x2, x3, y0, y1, y2, y3, hR, hY, hB⟩
    obtain ⟨F0, F1, F2, F3, U0, U1, U2, U3, I0, I1, I2, I3⟩ := res_all hR
    obtain ⟨G0, G1, G2, G3, -⟩ := res_all hY
    have lz : nb + 1 < W1.heap.size := res_lt hY
    have lz' : nb < W1.heap.size := by omega
    have l0 : w.heap.size < W1.heap.size := by omega
    have l1 : w.heap.size + 1 < W1.heap.size := by omega
    have l2 : w.heap.size + 1 + 1 < W1.heap.size := by omega
    have l3 : w.heap.size + 1 + 1 + 1 < W1.heap.size := by omega
    refine Eq.mpr (rounds_succ (n := 0)) ?_
    repeat' (first | go_skip | go_guarded | go_step | go_step3 | go_upon)
    (try simp only [Exit.inBlock, Exit.then, Exit.noGoto_ret])
    refine bodyPost_ret (results_state2 rfl _ _ (by rfl) (cells4_alloc (set4r (res4 hR)))) rfl ⟨by first | rfl | simp, (bl_alloc (bl4 (bl4 hB (by omega)) (by omega)) _)⟩

set_option maxHeartbeats 2000000 in
set_option maxRecDepth 100000 in
theorem cdo_3 (p : Pol) (s : St) (a : Option Addr) (c : Nat) (anow acost : Int) (A : St) (w : World) (h : rightC p s) (hA : A = advC p s anow) (bad : Bool) (hbad : bad = true ↔ (acost < 1 ∨ A.held < acost)) :
    Calls Try.prog 23 #[p.v, s.v a 0 c, .agg #[.int .i64 3, .int .i64 anow, .int .i64 acost]] w fun e w' =>
      e = .returned (.tuple #[if bad then s.v a 0 c else .agg #[.int .i64 A.at_, .int .i64 (A.level), .int .i64 (A.held - acost), .slice none 0 0], .bool (!bad)]) ∧ Below w.heap.size w w' := by
  have hlg := h.2.2.2.2.2.2.2.2
  have hrt := cright_any p s a 0 c (by rw [hlg]; rfl)
  have hav := cadv_any p s a 0 c anow (by rw [hlg]; rfl)
  rw [decide_eq_true h] at hrt
  have hlv := advC_level p s anow h
  rw [← hA] at hav hlv
  obtain ⟨⟨q0, q1, q2, q3, q4, q5, q6⟩, r1, r2, r3, r4, r5, r6, r7, r8⟩ := h
  clear hA
  obtain ⟨k, l, d, b, cc, o⟩ := p
  obtain ⟨at_, level, held, lg⟩ := s
  obtain ⟨aat, alv, ahd, alg⟩ := A
  unfold St.v Pol.v at *
  dsimp only at *
  have hw1 : IntKind.i64.wrap (l - ahd) = l - ahd := IntWalk.i64_in _ (by omega)
  have hw2 : IntKind.i64.wrap (l - ahd - alv) = l - ahd - alv := IntWalk.i64_in _ (by omega)
  have HRT := Go.Lib.hid hrt
  have HAV := Go.Lib.hid hav
  have j0 := idx0
  have j1 := idx1
  have j2 := idx2
  have j3 := idx3
  have hcase : (bad = true ∧ acost < 1) ∨ (bad = true ∧ ¬ acost < 1 ∧ ahd < acost) ∨ (bad = false ∧ ¬ acost < 1 ∧ ¬ ahd < acost ∧ IntKind.i64.wrap acost = acost ∧ IntKind.i64.wrap (-acost) = -acost ∧ IntKind.i64.wrap (ahd + acost) = ahd + acost ∧ IntKind.i64.wrap (ahd + -acost) = ahd - acost ∧ IntKind.i64.wrap (alv + acost) = alv + acost ∧ IntKind.i64.wrap ahd = ahd ∧ IntKind.i64.wrap alv = alv) := by
    cases bad
    · simp at hbad
      refine .inr (.inr ⟨rfl, by omega, by omega, IntWalk.i64_in _ (by omega), IntWalk.i64_in _ (by omega), IntWalk.i64_in _ (by omega), ?_, IntWalk.i64_in _ (by omega), IntWalk.i64_in _ (by omega), IntWalk.i64_in _ (by omega)⟩)
      rw [IntWalk.i64_in _ (by omega)]
      rfl
    · simp at hbad
      rcases hbad with hx | hx
      · exact .inl ⟨rfl, hx⟩
      · by_cases hy : acost < 1
        · exact .inl ⟨rfl, hy⟩
        · exact .inr (.inl ⟨rfl, hy, hx⟩)
  have HCS := Go.Lib.hid hcase
  clear hbad hcase
  clear hrt hav hlv q0 q1 q2 q3 q4 q5 q6 r1 r2 r3 r4 r5 r6 r7 r8 hlg
  go_enter Try.func23, Try.ntmps23
  go_wp2_with go_step3
  refine (HRT.out _).mono ?_
  rintro e w1 ⟨rfl, hb⟩
  have hB : Below w.heap.size w w1 := bl_then (bl_alloc (bl_alloc (bl_alloc (bl_alloc (bl_refl _) _) _) _) _) hb
  have c0 := bl_cell (v := .int .i64 k) hb (show World.cell? _ ⟨w.heap.size, 0, none⟩ = _ by go_simp)
  have c1 := bl_cell (v := .int .i64 l) hb (show World.cell? _ ⟨w.heap.size, 1, none⟩ = _ by go_simp)
  have c2 := bl_cell (v := .int .i64 d) hb (show World.cell? _ ⟨w.heap.size, 2, none⟩ = _ by go_simp)
  have c3 := bl_cell (v := .int .i64 b) hb (show World.cell? _ ⟨w.heap.size, 3, none⟩ = _ by go_simp)
  have c4 := bl_cell (v := .int .i64 cc) hb (show World.cell? _ ⟨w.heap.size, 4, none⟩ = _ by go_simp)
  have c5 := bl_cell (v := .bool o) hb (show World.cell? _ ⟨w.heap.size, 5, none⟩ = _ by go_simp)
  have c6 := bl_cell (v := .int .i64 at_) hb (show World.cell? _ ⟨w.heap.size + 1, 0, none⟩ = _ by go_simp)
  have c7 := bl_cell (v := .int .i64 level) hb (show World.cell? _ ⟨w.heap.size + 1, 1, none⟩ = _ by go_simp)
  have c8 := bl_cell (v := .int .i64 held) hb (show World.cell? _ ⟨w.heap.size + 1, 2, none⟩ = _ by go_simp)
  have c9 := bl_cell (v := .slice a 0 c) hb (show World.cell? _ ⟨w.heap.size + 1, 3, none⟩ = _ by go_simp)
  have c10 := bl_cell (v := .int .i64 3) hb (show World.cell? _ ⟨w.heap.size + 1 + 1, 0, none⟩ = _ by go_simp)
  have c11 := bl_cell (v := .int .i64 anow) hb (show World.cell? _ ⟨w.heap.size + 1 + 1, 1, none⟩ = _ by go_simp)
  have c12 := bl_cell (v := .int .i64 acost) hb (show World.cell? _ ⟨w.heap.size + 1 + 1, 2, none⟩ = _ by go_simp)
  have hR : ResB w1 (w.heap.size + 1 + 1 + 1) := res_bl (res_new _ _ _ _ _ _ (by simp)) hb
  clear hb HRT
  go_wp2_with go_step3
  refine (HAV.out _).mono ?_
  rintro e w2 ⟨rfl, hb⟩
  clear HAV
  have d0 := bl_cell hb c0
  have d1 := bl_cell hb c1
  have d2 := bl_cell hb c2
  have d3 := bl_cell hb c3
  have d4 := bl_cell hb c4
  have d5 := bl_cell hb c5
  have d6 := bl_cell hb c6
  have d7 := bl_cell hb c7
  have d8 := bl_cell hb c8
  have d9 := bl_cell hb c9
  have d10 := bl_cell hb c10
  have d11 := bl_cell hb c11
  have d12 := bl_cell hb c12
  have dR := res_bl hR hb
  have dB := bl_then hB hb
  have hlt := res_lt dR
  clear hR hB hb c0 c1 c2 c3 c4 c5 c6 c7 c8 c9 c10 c11 c12
  go_wp2_with go_step3
  refine (changes_any _).mono ?_
  rintro e w3 ⟨rfl, hb⟩
  have c0 := bl_cell hb (bl_cell (bl_alloc (bl_alloc (bl_refl w2) _) _) d0)
  have c1 := bl_cell hb (bl_cell (bl_alloc (bl_alloc (bl_refl w2) _) _) d1)
  have c2 := bl_cell hb (bl_cell (bl_alloc (bl_alloc (bl_refl w2) _) _) d2)
  have c3 := bl_cell hb (bl_cell (bl_alloc (bl_alloc (bl_refl w2) _) _) d3)
  have c4 := bl_cell hb (bl_cell (bl_alloc (bl_alloc (bl_refl w2) _) _) d4)
  have c5 := bl_cell hb (bl_cell (bl_alloc (bl_alloc (bl_refl w2) _) _) d5)
  have c6 := bl_cell hb (bl_cell (bl_alloc (bl_alloc (bl_refl w2) _) _) d6)
  have c7 := bl_cell hb (bl_cell (bl_alloc (bl_alloc (bl_refl w2) _) _) d7)
  have c8 := bl_cell hb (bl_cell (bl_alloc (bl_alloc (bl_refl w2) _) _) d8)
  have c9 := bl_cell hb (bl_cell (bl_alloc (bl_alloc (bl_refl w2) _) _) d9)
  have c10 := bl_cell hb (bl_cell (bl_alloc (bl_alloc (bl_refl w2) _) _) d10)
  have c11 := bl_cell hb (bl_cell (bl_alloc (bl_alloc (bl_refl w2) _) _) d11)
  have c12 := bl_cell hb (bl_cell (bl_alloc (bl_alloc (bl_refl w2) _) _) d12)
  have hR := res_bl (res_bl dR (bl_alloc (bl_alloc (bl_refl w2) _) _)) hb
  have hB := bl_then (bl_alloc (bl_alloc dB _) _) hb
  have x0 := bl_cell (v := .int .i64 aat) hb (show World.cell? _ ⟨w2.heap.size, 0, none⟩ = _ by go_simp)
  have x1 := bl_cell (v := .int .i64 alv) hb (show World.cell? _ ⟨w2.heap.size, 1, none⟩ = _ by go_simp)
  have x2 := bl_cell (v := .int .i64 ahd) hb (show World.cell? _ ⟨w2.heap.size, 2, none⟩ = _ by go_simp)
  have x3 := bl_cell (v := .slice none 0 0) hb (show World.cell? _ ⟨w2.heap.size, 3, none⟩ = _ by go_simp)
  have y0 := bl_cell (v := .int .i64 0) hb (show World.cell? _ ⟨w2.heap.size + 1, 0, none⟩ = _ by go_simp)
  have y1 := bl_cell (v := .int .i64 0) hb (show World.cell? _ ⟨w2.heap.size + 1, 1, none⟩ = _ by go_simp)
  have y2 := bl_cell (v := .int .i64 0) hb (show World.cell? _ ⟨w2.heap.size + 1, 2, none⟩ = _ by go_simp)
  have y3 := bl_cell (v := .bool false) hb (show World.cell? _ ⟨w2.heap.size + 1, 3, none⟩ = _ by go_simp)
  have hY : ResB w3 (w2.heap.size + 1) := res_bl (res_new _ _ _ _ _ _ (by simp)) hb
  have hlt3 : w2.heap.size + 1 < w3.heap.size := res_lt hY
  generalize w2.heap.size = nb at *
  clear hb dR dB d0 d1 d2 d3 d4 d5 d6 d7 d8 d9 d10 d11 d12
  obtain ⟨F0, F1, F2, F3, U0, U1, U2, U3, I0, I1, I2, I3⟩ := res_all hR
  obtain ⟨G0, G1, G2, G3, V0, V1, V2, V3, -⟩ := res_all hY
  go_wp2_with go_step3
  have n0 : ¬ nb = w.heap.size := by omega
  have m0 : ¬ w.heap.size = nb := by omega
  have n0' : ¬ nb + 1 = w.heap.size := by omega
  have m0' : ¬ w.heap.size = nb + 1 := by omega
  have n1 : ¬ nb = w.heap.size + 1 := by omega
  have m1 : ¬ w.heap.size + 1 = nb := by omega
  have n1' : ¬ nb + 1 = w.heap.size + 1 := by omega
  have m1' : ¬ w.heap.size + 1 = nb + 1 := by omega
  have n2 : ¬ nb = w.heap.size + 1 + 1 := by omega
  have m2 : ¬ w.heap.size + 1 + 1 = nb := by omega
  have n2' : ¬ nb + 1 = w.heap.size + 1 + 1 := by omega
  have m2' : ¬ w.heap.size + 1 + 1 = nb + 1 := by omega
  have n3 : ¬ nb = w.heap.size + 1 + 1 + 1 := by omega
  have m3 : ¬ w.heap.size + 1 + 1 + 1 = nb := by omega
  have n3' : ¬ nb + 1 = w.heap.size + 1 + 1 + 1 := by omega
  have m3' : ¬ w.heap.size + 1 + 1 + 1 = nb + 1 := by omega
  rcases HCS.out with ⟨rfl, e1⟩ | ⟨rfl, e1, e2⟩ | ⟨rfl, e1, e2, p1, p2, p3, p4, p5, p6, p7⟩
  all_goals clear HCS
  · refine wp_loop_rounds 3 ?_
    refine rounds_abs (F := fun X => X.cell? ⟨w.heap.size, 0, none⟩ = some (.int .i64 k) ∧ X.cell? ⟨w.heap.size, 1, none⟩ = some (.int .i64 l) ∧ X.cell? ⟨w.heap.size, 2, none⟩ = some (.int .i64 d) ∧ X.cell? ⟨w.heap.size, 3, none⟩ = some (.int .i64 b) ∧ X.cell? ⟨w.heap.size, 4, none⟩ = some (.int .i64 cc) ∧ X.cell? ⟨w.heap.size, 5, none⟩ = some (.bool o) ∧ X.cell? ⟨w.heap.size + 1, 0, none⟩ = some (.int .i64 at_) ∧ X.cell? ⟨w.heap.size + 1, 1, none⟩ = some (.int .i64 level) ∧ X.cell? ⟨w.heap.size + 1, 2, none⟩ = some (.int .i64 held) ∧ X.cell? ⟨w.heap.size + 1, 3, none⟩ = some (.slice a 0 c) ∧ X.cell? ⟨w.heap.size + 1 + 1, 0, none⟩ = some (.int .i64 3) ∧ X.cell? ⟨w.heap.size + 1 + 1, 1, none⟩ = some (.int .i64 anow) ∧ X.cell? ⟨w.heap.size + 1 + 1, 2, none⟩ = some (.int .i64 acost) ∧ X.cell? ⟨nb, 0, none⟩ = some (.int .i64 aat) ∧ X.cell? ⟨nb, 1, none⟩ = some (.int .i64 alv) ∧ X.cell? ⟨nb, 2, none⟩ = some (.int .i64 ahd) ∧ X.cell? ⟨nb, 3, none⟩ = some (.slice none 0 0) ∧ X.cell? ⟨nb + 1, 0, none⟩ = some (.int .i64 0) ∧ X.cell? ⟨nb + 1, 1, none⟩ = some (.int .i64 0) ∧ X.cell? ⟨nb + 1, 2, none⟩ = some (.int .i64 0) ∧ X.cell? ⟨nb + 1, 3, none⟩ = some (.bool false) ∧ ResB X (w.heap.size + 1 + 1 + 1) ∧ ResB X (nb + 1) ∧ Below w.heap.size w X) ⟨c0, c1, c2, c3, c4, c5, c6, c7, c8, c9, c10, c11, c12, x0, x1, x2, x3, y0, y1, y2, y3, hR, hY, hB⟩ ?_
    clear hR hY hB F0 F1 F2 F3 I0 I1 I2 I3 G0 G1 G2 G3 c0 c1 c2 c3 c4 c5 c6 c7 c8 c9 c10 c11 c12 x0 x1 x2 x3 y0 y1 y2 y3
    rintro W0 ⟨c0, c1, c2, c3, c4, c5, c6, c7, c8, c9, c10, c11, c12, x0, x1, x2, x3, y0, y1, y2, y3, hR, hY, hB⟩
    obtain ⟨F0, F1, F2, F3, U0, U1, U2, U3, I0, I1, I2, I3⟩ := res_all hR
    obtain ⟨G0, G1, G2, G3, -⟩ := res_all hY
    have lz : nb + 1 < W0.heap.size := res_lt hY
    have lz' : nb < W0.heap.size := by omega
    have l0 : w.heap.size < W0.heap.size := by omega
    have l1 : w.heap.size + 1 < W0.heap.size := by omega
    have l2 : w.heap.size + 1 + 1 < W0.heap.size := by omega
    have l3 : w.heap.size + 1 + 1 + 1 < W0.heap.size := by omega
    refine Eq.mpr (rounds_succ (n := 2)) ?_
    repeat' (first | go_skip | go_guarded | go_step | go_step3 | go_upon)
    clear lz lz' l0 l1 l2 l3
    refine rounds_abs (F := fun X => X.cell? ⟨w.heap.size, 0, none⟩ = some (.int .i64 k) ∧ X.cell? ⟨w.heap.size, 1, none⟩ = some (.int .i64 l) ∧ X.cell? ⟨w.heap.size, 2, none⟩ = some (.int .i64 d) ∧ X.cell? ⟨w.heap.size, 3, none⟩ = some (.int .i64 b) ∧ X.cell? ⟨w.heap.size, 4, none⟩ = some (.int .i64 cc) ∧ X.cell? ⟨w.heap.size, 5, none⟩ = some (.bool o) ∧ X.cell? ⟨w.heap.size + 1, 0, none⟩ = some (.int .i64 at_) ∧ X.cell? ⟨w.heap.size + 1, 1, none⟩ = some (.int .i64 level) ∧ X.cell? ⟨w.heap.size + 1, 2, none⟩ = some (.int .i64 held) ∧ X.cell? ⟨w.heap.size + 1, 3, none⟩ = some (.slice a 0 c) ∧ X.cell? ⟨w.heap.size + 1 + 1, 0, none⟩ = some (.int .i64 3) ∧ X.cell? ⟨w.heap.size + 1 + 1, 1, none⟩ = some (.int .i64 anow) ∧ X.cell? ⟨w.heap.size + 1 + 1, 2, none⟩ = some (.int .i64 acost) ∧ X.cell? ⟨nb, 0, none⟩ = some (.int .i64 aat) ∧ X.cell? ⟨nb, 1, none⟩ = some (.int .i64 alv) ∧ X.cell? ⟨nb, 2, none⟩ = some (.int .i64 ahd) ∧ X.cell? ⟨nb, 3, none⟩ = some (.slice none 0 0) ∧ X.cell? ⟨nb + 1, 0, none⟩ = some (.int .i64 0) ∧ X.cell? ⟨nb + 1, 1, none⟩ = some (.int .i64 0) ∧ X.cell? ⟨nb + 1, 2, none⟩ = some (.int .i64 0) ∧ X.cell? ⟨nb + 1, 3, none⟩ = some (.bool false) ∧ ResB X (w.heap.size + 1 + 1 + 1) ∧ ResB X (nb + 1) ∧ Below w.heap.size w X) ⟨bl_cell (bl_alloc (bl_refl _) _) c0, bl_cell (bl_alloc (bl_refl _) _) c1, bl_cell (bl_alloc (bl_refl _) _) c2, bl_cell (bl_alloc (bl_refl _) _) c3, bl_cell (bl_alloc (bl_refl _) _) c4, bl_cell (bl_alloc (bl_refl _) _) c5, bl_cell (bl_alloc (bl_refl _) _) c6, bl_cell (bl_alloc (bl_refl _) _) c7, bl_cell (bl_alloc (bl_refl _) _) c8, bl_cell (bl_alloc (bl_refl _) _) c9, bl_cell (bl_alloc (bl_refl _) _) c10, bl_cell (bl_alloc (bl_refl _) _) c11, bl_cell (bl_alloc (bl_refl _) _) c12, bl_cell (bl_alloc (bl_refl _) _) x0, bl_cell (bl_alloc (bl_refl _) _) x1, bl_cell (bl_alloc (bl_refl _) _) x2, bl_cell (bl_alloc (bl_refl _) _) x3, bl_cell (bl_alloc (bl_refl _) _) y0, bl_cell (bl_alloc (bl_refl _) _) y1, bl_cell (bl_alloc (bl_refl _) _) y2, bl_cell (bl_alloc (bl_refl _) _) y3, res_bl hR (bl_alloc (bl_refl _) _), res_bl hY (bl_alloc (bl_refl _) _), bl_alloc hB _⟩ ?_
    clear hR hY hB F0 F1 F2 F3 I0 I1 I2 I3 G0 G1 G2 G3 c0 c1 c2 c3 c4 c5 c6 c7 c8 c9 c10 c11 c12 x0 x1 x2 x3 y0 y1 y2 y3
    rintro W1 ⟨c0, c1, c2, c3, c4, c5, c6, c7, c8, c9, c10, c11, c12, x0, x1, x2, x3, y0, y1, y2, y3, hR, hY, hB⟩
    obtain ⟨F0, F1, F2, F3, U0, U1, U2, U3, I0, I1, I2, I3⟩ := res_all hR
    obtain ⟨G0, G1, G2, G3, -⟩ := res_all hY
    have lz : nb + 1 < W1.heap.size := res_lt hY
    have lz' : nb < W1.heap.size := by omega
    have l0 : w.heap.size < W1.heap.size := by omega
    have l1 : w.heap.size + 1 < W1.heap.size := by omega
    have l2 : w.heap.size + 1 + 1 < W1.heap.size := by omega
    have l3 : w.heap.size + 1 + 1 + 1 < W1.heap.size := by omega
    refine Eq.mpr (rounds_succ (n := 1)) ?_
    repeat' (first | go_skip | go_guarded | go_step | go_step3 | go_upon)
    clear lz lz' l0 l1 l2 l3
    refine rounds_abs (F := fun X => X.cell? ⟨w.heap.size, 0, none⟩ = some (.int .i64 k) ∧ X.cell? ⟨w.heap.size, 1, none⟩ = some (.int .i64 l) ∧ X.cell? ⟨w.heap.size, 2, none⟩ = some (.int .i64 d) ∧ X.cell? ⟨w.heap.size, 3, none⟩ = some (.int .i64 b) ∧ X.cell? ⟨w.heap.size, 4, none⟩ = some (.int .i64 cc) ∧ X.cell? ⟨w.heap.size, 5, none⟩ = some (.bool o) ∧ X.cell? ⟨w.heap.size + 1, 0, none⟩ = some (.int .i64 at_) ∧ X.cell? ⟨w.heap.size + 1, 1, none⟩ = some (.int .i64 level) ∧ X.cell? ⟨w.heap.size + 1, 2, none⟩ = some (.int .i64 held) ∧ X.cell? ⟨w.heap.size + 1, 3, none⟩ = some (.slice a 0 c) ∧ X.cell? ⟨w.heap.size + 1 + 1, 0, none⟩ = some (.int .i64 3) ∧ X.cell? ⟨w.heap.size + 1 + 1, 1, none⟩ = some (.int .i64 anow) ∧ X.cell? ⟨w.heap.size + 1 + 1, 2, none⟩ = some (.int .i64 acost) ∧ X.cell? ⟨nb, 0, none⟩ = some (.int .i64 aat) ∧ X.cell? ⟨nb, 1, none⟩ = some (.int .i64 alv) ∧ X.cell? ⟨nb, 2, none⟩ = some (.int .i64 ahd) ∧ X.cell? ⟨nb, 3, none⟩ = some (.slice none 0 0) ∧ X.cell? ⟨nb + 1, 0, none⟩ = some (.int .i64 0) ∧ X.cell? ⟨nb + 1, 1, none⟩ = some (.int .i64 0) ∧ X.cell? ⟨nb + 1, 2, none⟩ = some (.int .i64 0) ∧ X.cell? ⟨nb + 1, 3, none⟩ = some (.bool false) ∧ ResB X (w.heap.size + 1 + 1 + 1) ∧ ResB X (nb + 1) ∧ Below w.heap.size w X) ⟨bl_cell (bl_alloc (bl_refl _) _) c0, bl_cell (bl_alloc (bl_refl _) _) c1, bl_cell (bl_alloc (bl_refl _) _) c2, bl_cell (bl_alloc (bl_refl _) _) c3, bl_cell (bl_alloc (bl_refl _) _) c4, bl_cell (bl_alloc (bl_refl _) _) c5, bl_cell (bl_alloc (bl_refl _) _) c6, bl_cell (bl_alloc (bl_refl _) _) c7, bl_cell (bl_alloc (bl_refl _) _) c8, bl_cell (bl_alloc (bl_refl _) _) c9, bl_cell (bl_alloc (bl_refl _) _) c10, bl_cell (bl_alloc (bl_refl _) _) c11, bl_cell (bl_alloc (bl_refl _) _) c12, bl_cell (bl_alloc (bl_refl _) _) x0, bl_cell (bl_alloc (bl_refl _) _) x1, bl_cell (bl_alloc (bl_refl _) _) x2, bl_cell (bl_alloc (bl_refl _) _) x3, bl_cell (bl_alloc (bl_refl _) _) y0, bl_cell (bl_alloc (bl_refl _) _) y1, bl_cell (bl_alloc (bl_refl _) _) y2, bl_cell (bl_alloc (bl_refl _) _) y3, res_bl hR (bl_alloc (bl_refl _) _), res_bl hY (bl_alloc (bl_refl _) _), bl_alloc hB _⟩ ?_
    clear hR hY hB F0 F1 F2 F3 I0 I1 I2 I3 G0 G1 G2 G3 c0 c1 c2 c3 c4 c5 c6 c7 c8 c9 c10 c11 c12 x0 x1 x2 x3 y0 y1 y2 y3
    rintro W2 ⟨c0, c1, c2, c3, c4, c5, c6, c7, c8, c9, c10, c11, c12, x0, x1, x2, x3, y0, y1, y2, y3, hR, hY, hB⟩
    obtain ⟨F0, F1, F2, F3, U0, U1, U2, U3, I0, I1, I2, I3⟩ := res_all hR
    obtain ⟨G0, G1, G2, G3, -⟩ := res_all hY
    have lz : nb + 1 < W2.heap.size := res_lt hY
    have lz' : nb < W2.heap.size := by omega
    have l0 : w.heap.size < W2.heap.size := by omega
    have l1 : w.heap.size + 1 < W2.heap.size := by omega
    have l2 : w.heap.size + 1 + 1 < W2.heap.size := by omega
    have l3 : w.heap.size + 1 + 1 + 1 < W2.heap.size := by omega
    refine Eq.mpr (rounds_succ (n := 0)) ?_
    repeat' (first | go_skip | go_guarded | go_step | go_step3 | go_upon)
    (try simp only [Exit.inBlock, Exit.then, Exit.noGoto_ret])
    refine bodyPost_ret (results_state2 rfl _ _ (by rfl) (cells4_alloc (set4r (res4 hR)))) rfl ⟨by first | rfl | simp, (bl_alloc (bl4 (bl4 hB (by omega)) (by omega)) _)⟩
  · refine wp_loop_rounds 3 ?_
    refine rounds_abs (F := fun X => X.cell? ⟨w.heap.size, 0, none⟩ = some (.int .i64 k) ∧ X.cell? ⟨w.heap.size, 1, none⟩ = some (.int .i64 l) ∧ X.cell? ⟨w.heap.size, 2, none⟩ = some (.int .i64 d) ∧ X.cell? ⟨w.heap.size, 3, none⟩ = some (.int .i64 b) ∧ X.cell? ⟨w.heap.size, 4, none⟩ = some (.int .i64 cc) ∧ X.cell? ⟨w.heap.size, 5, none⟩ = some (.bool o) ∧ X.cell? ⟨w.heap.size + 1, 0, none⟩ = some (.int .i64 at_) ∧ X.cell? ⟨w.heap.size + 1, 1, none⟩ = some (.int .i64 level) ∧ X.cell? ⟨w.heap.size + 1, 2, none⟩ = some (.int .i64 held) ∧ X.cell? ⟨w.heap.size + 1, 3, none⟩ = some (.slice a 0 c) ∧ X.cell? ⟨w.heap.size + 1 + 1, 0, none⟩ = some (.int .i64 3) ∧ X.cell? ⟨w.heap.size + 1 + 1, 1, none⟩ = some (.int .i64 anow) ∧ X.cell? ⟨w.heap.size + 1 + 1, 2, none⟩ = some (.int .i64 acost) ∧ X.cell? ⟨nb, 0, none⟩ = some (.int .i64 aat) ∧ X.cell? ⟨nb, 1, none⟩ = some (.int .i64 alv) ∧ X.cell? ⟨nb, 2, none⟩ = some (.int .i64 ahd) ∧ X.cell? ⟨nb, 3, none⟩ = some (.slice none 0 0) ∧ X.cell? ⟨nb + 1, 0, none⟩ = some (.int .i64 0) ∧ X.cell? ⟨nb + 1, 1, none⟩ = some (.int .i64 0) ∧ X.cell? ⟨nb + 1, 2, none⟩ = some (.int .i64 0) ∧ X.cell? ⟨nb + 1, 3, none⟩ = some (.bool false) ∧ ResB X (w.heap.size + 1 + 1 + 1) ∧ ResB X (nb + 1) ∧ Below w.heap.size w X) ⟨c0, c1, c2, c3, c4, c5, c6, c7, c8, c9, c10, c11, c12, x0, x1, x2, x3, y0, y1, y2, y3, hR, hY, hB⟩ ?_
    clear hR hY hB F0 F1 F2 F3 I0 I1 I2 I3 G0 G1 G2 G3 c0 c1 c2 c3 c4 c5 c6 c7 c8 c9 c10 c11 c12 x0 x1 x2 x3 y0 y1 y2 y3
    rintro W0 ⟨c0, c1, c2, c3, c4, c5, c6, c7, c8, c9, c10, c11, c12, x0, x1, x2, x3, y0, y1, y2, y3, hR, hY, hB⟩
    obtain ⟨F0, F1, F2, F3, U0, U1, U2, U3, I0, I1, I2, I3⟩ := res_all hR
    obtain ⟨G0, G1, G2, G3, -⟩ := res_all hY
    have lz : nb + 1 < W0.heap.size := res_lt hY
    have lz' : nb < W0.heap.size := by omega
    have l0 : w.heap.size < W0.heap.size := by omega
    have l1 : w.heap.size + 1 < W0.heap.size := by omega
    have l2 : w.heap.size + 1 + 1 < W0.heap.size := by omega
    have l3 : w.heap.size + 1 + 1 + 1 < W0.heap.size := by omega
    refine Eq.mpr (rounds_succ (n := 2)) ?_
    repeat' (first | go_skip | go_guarded | go_step | go_step3 | go_upon)
    clear lz lz' l0 l1 l2 l3
    refine rounds_abs (F := fun X => X.cell? ⟨w.heap.size, 0, none⟩ = some (.int .i64 k) ∧ X.cell? ⟨w.heap.size, 1, none⟩ = some (.int .i64 l) ∧ X.cell? ⟨w.heap.size, 2, none⟩ = some (.int .i64 d) ∧ X.cell? ⟨w.heap.size, 3, none⟩ = some (.int .i64 b) ∧ X.cell? ⟨w.heap.size, 4, none⟩ = some (.int .i64 cc) ∧ X.cell? ⟨w.heap.size, 5, none⟩ = some (.bool o) ∧ X.cell? ⟨w.heap.size + 1, 0, none⟩ = some (.int .i64 at_) ∧ X.cell? ⟨w.heap.size + 1, 1, none⟩ = some (.int .i64 level) ∧ X.cell? ⟨w.heap.size + 1, 2, none⟩ = some (.int .i64 held) ∧ X.cell? ⟨w.heap.size + 1, 3, none⟩ = some (.slice a 0 c) ∧ X.cell? ⟨w.heap.size + 1 + 1, 0, none⟩ = some (.int .i64 3) ∧ X.cell? ⟨w.heap.size + 1 + 1, 1, none⟩ = some (.int .i64 anow) ∧ X.cell? ⟨w.heap.size + 1 + 1, 2, none⟩ = some (.int .i64 acost) ∧ X.cell? ⟨nb, 0, none⟩ = some (.int .i64 aat) ∧ X.cell? ⟨nb, 1, none⟩ = some (.int .i64 alv) ∧ X.cell? ⟨nb, 2, none⟩ = some (.int .i64 ahd) ∧ X.cell? ⟨nb, 3, none⟩ = some (.slice none 0 0) ∧ X.cell? ⟨nb + 1, 0, none⟩ = some (.int .i64 0) ∧ X.cell? ⟨nb + 1, 1, none⟩ = some (.int .i64 0) ∧ X.cell? ⟨nb + 1, 2, none⟩ = some (.int .i64 0) ∧ X.cell? ⟨nb + 1, 3, none⟩ = some (.bool false) ∧ ResB X (w.heap.size + 1 + 1 + 1) ∧ ResB X (nb + 1) ∧ Below w.heap.size w X) ⟨bl_cell (bl_alloc (bl_refl _) _) c0, bl_cell (bl_alloc (bl_refl _) _) c1, bl_cell (bl_alloc (bl_refl _) _) c2, bl_cell (bl_alloc (bl_refl _) _) c3, bl_cell (bl_alloc (bl_refl _) _) c4, bl_cell (bl_alloc (bl_refl _) _) c5, bl_cell (bl_alloc (bl_refl _) _) c6, bl_cell (bl_alloc (bl_refl _) _) c7, bl_cell (bl_alloc (bl_refl _) _) c8, bl_cell (bl_alloc (bl_refl _) _) c9, bl_cell (bl_alloc (bl_refl _) _) c10, bl_cell (bl_alloc (bl_refl _) _) c11, bl_cell (bl_alloc (bl_refl _) _) c12, bl_cell (bl_alloc (bl_refl _) _) x0, bl_cell (bl_alloc (bl_refl _) _) x1, bl_cell (bl_alloc (bl_refl _) _) x2, bl_cell (bl_alloc (bl_refl _) _) x3, bl_cell (bl_alloc (bl_refl _) _) y0, bl_cell (bl_alloc (bl_refl _) _) y1, bl_cell (bl_alloc (bl_refl _) _) y2, bl_cell (bl_alloc (bl_refl _) _) y3, res_bl hR (bl_alloc (bl_refl _) _), res_bl hY (bl_alloc (bl_refl _) _), bl_alloc hB _⟩ ?_
    clear hR hY hB F0 F1 F2 F3 I0 I1 I2 I3 G0 G1 G2 G3 c0 c1 c2 c3 c4 c5 c6 c7 c8 c9 c10 c11 c12 x0 x1 x2 x3 y0 y1 y2 y3
    rintro W1 ⟨c0, c1, c2, c3, c4, c5, c6, c7, c8, c9, c10, c11, c12, x0, x1, x2, x3, y0, y1, y2, y3, hR, hY, hB⟩
    obtain ⟨F0, F1, F2, F3, U0, U1, U2, U3, I0, I1, I2, I3⟩ := res_all hR
    obtain ⟨G0, G1, G2, G3, -⟩ := res_all hY
    have lz : nb + 1 < W1.heap.size := res_lt hY
    have lz' : nb < W1.heap.size := by omega
    have l0 : w.heap.size < W1.heap.size := by omega
    have l1 : w.heap.size + 1 < W1.heap.size := by omega
    have l2 : w.heap.size + 1 + 1 < W1.heap.size := by omega
    have l3 : w.heap.size + 1 + 1 + 1 < W1.heap.size := by omega
    refine Eq.mpr (rounds_succ (n := 1)) ?_
    repeat' (first | go_skip | go_guarded | go_step | go_step3 | go_upon)
    clear lz lz' l0 l1 l2 l3
    refine rounds_abs (F := fun X => X.cell? ⟨w.heap.size, 0, none⟩ = some (.int .i64 k) ∧ X.cell? ⟨w.heap.size, 1, none⟩ = some (.int .i64 l) ∧ X.cell? ⟨w.heap.size, 2, none⟩ = some (.int .i64 d) ∧ X.cell? ⟨w.heap.size, 3, none⟩ = some (.int .i64 b) ∧ X.cell? ⟨w.heap.size, 4, none⟩ = some (.int .i64 cc) ∧ X.cell? ⟨w.heap.size, 5, none⟩ = some (.bool o) ∧ X.cell? ⟨w.heap.size + 1, 0, none⟩ = some (.int .i64 at_) ∧ X.cell? ⟨w.heap.size + 1, 1, none⟩ = some (.int .i64 level) ∧ X.cell? ⟨w.heap.size + 1, 2, none⟩ = some (.int .i64 held) ∧ X.cell? ⟨w.heap.size + 1, 3, none⟩ = some (.slice a 0 c) ∧ X.cell? ⟨w.heap.size + 1 + 1, 0, none⟩ = some (.int .i64 3) ∧ X.cell? ⟨w.heap.size + 1 + 1, 1, none⟩ = some (.int .i64 anow) ∧ X.cell? ⟨w.heap.size + 1 + 1, 2, none⟩ = some (.int .i64 acost) ∧ X.cell? ⟨nb, 0, none⟩ = some (.int .i64 aat) ∧ X.cell? ⟨nb, 1, none⟩ = some (.int .i64 alv) ∧ X.cell? ⟨nb, 2, none⟩ = some (.int .i64 ahd) ∧ X.cell? ⟨nb, 3, none⟩ = some (.slice none 0 0) ∧ X.cell? ⟨nb + 1, 0, none⟩ = some (.int .i64 0) ∧ X.cell? ⟨nb + 1, 1, none⟩ = some (.int .i64 0) ∧ X.cell? ⟨nb + 1, 2, none⟩ = some (.int .i64 0) ∧ X.cell? ⟨nb + 1, 3, none⟩ = some (.bool false) ∧ ResB X (w.heap.size + 1 + 1 + 1) ∧ ResB X (nb + 1) ∧ Below w.heap.size w X) ⟨bl_cell (bl_alloc (bl_refl _) _) c0, bl_cell (bl_alloc (bl_refl _) _) c1, bl_cell (bl_alloc (bl_refl _) _) c2, bl_cell (bl_alloc (bl_refl _) _) c3, bl_cell (bl_alloc (bl_refl _) _) c4, bl_cell (bl_alloc (bl_refl _) _) c5, bl_cell (bl_alloc (bl_refl _) _) c6, bl_cell (bl_alloc (bl_refl _) _) c7, bl_cell (bl_alloc (bl_refl _) _) c8, bl_cell (bl_alloc (bl_refl _) _) c9, bl_cell (bl_alloc (bl_refl _) _) c10, bl_cell (bl_alloc (bl_refl _) _) c11, bl_cell (bl_alloc (bl_refl _) _) c12, bl_cell (bl_alloc (bl_refl _) _) x0, bl_cell (bl_alloc (bl_refl _) _) x1, bl_cell (bl_alloc (bl_refl _) _) x2, bl_cell (bl_alloc (bl_refl _) _) x3, bl_cell (bl_alloc (bl_refl _) _) y0, bl_cell (bl_alloc (bl_refl _) _) y1, bl_cell (bl_alloc (bl_refl _) _) y2, bl_cell (bl_alloc (bl_refl _) _) y3, res_bl hR (bl_alloc (bl_refl _) _), res_bl hY (bl_alloc (bl_refl _) _), bl_alloc hB _⟩ ?_
    clear hR hY hB F0 F1 F2 F3 I0 I1 I2 I3 G0 G1 G2 G3 c0 c1 c2 c3 c4 c5 c6 c7 c8 c9 c10 c11 c12 x0 x1 x2 x3 y0 y1 y2 y3
    rintro W2 ⟨c0, c1, c2, c3, c4, c5, c6, c7, c8, c9, c10, c11, c12, x0, x1, x2, x3, y0, y1, y2, y3, hR, hY, hB⟩
    obtain ⟨F0, F1, F2, F3, U0, U1, U2, U3, I0, I1, I2, I3⟩ := res_all hR
    obtain ⟨G0, G1, G2, G3, -⟩ := res_all hY
    have lz : nb + 1 < W2.heap.size := res_lt hY
    have lz' : nb < W2.heap.size := by omega
    have l0 : w.heap.size < W2.heap.size := by omega
    have l1 : w.heap.size + 1 < W2.heap.size := by omega
    have l2 : w.heap.size + 1 + 1 < W2.heap.size := by omega
    have l3 : w.heap.size + 1 + 1 + 1 < W2.heap.size := by omega
    refine Eq.mpr (rounds_succ (n := 0)) ?_
    repeat' (first | go_skip | go_guarded | go_step | go_step3 | go_upon)
    (try simp only [Exit.inBlock, Exit.then, Exit.noGoto_ret])
    refine bodyPost_ret (results_state2 rfl _ _ (by rfl) (cells4_alloc (set4r (res4 hR)))) rfl ⟨by first | rfl | simp, (bl_alloc (bl4 (bl4 hB (by omega)) (by omega)) _)⟩
  · refine wp_loop_rounds 3 ?_
    refine rounds_abs (F := fun X => X.cell? ⟨w.heap.size, 0, none⟩ = some (.int .i64 k) ∧ X.cell? ⟨w.heap.size, 1, none⟩ = some (.int .i64 l) ∧ X.cell? ⟨w.heap.size, 2, none⟩ = some (.int .i64 d) ∧ X.cell? ⟨w.heap.size, 3, none⟩ = some (.int .i64 b) ∧ X.cell? ⟨w.heap.size, 4, none⟩ = some (.int .i64 cc) ∧ X.cell? ⟨w.heap.size, 5, none⟩ = some (.bool o) ∧ X.cell? ⟨w.heap.size + 1, 0, none⟩ = some (.int .i64 at_) ∧ X.cell? ⟨w.heap.size + 1, 1, none⟩ = some (.int .i64 level) ∧ X.cell? ⟨w.heap.size + 1, 2, none⟩ = some (.int .i64 held) ∧ X.cell? ⟨w.heap.size + 1, 3, none⟩ = some (.slice a 0 c) ∧ X.cell? ⟨w.heap.size + 1 + 1, 0, none⟩ = some (.int .i64 3) ∧ X.cell? ⟨w.heap.size + 1 + 1, 1, none⟩ = some (.int .i64 anow) ∧ X.cell? ⟨w.heap.size + 1 + 1, 2, none⟩ = some (.int .i64 acost) ∧ X.cell? ⟨nb, 0, none⟩ = some (.int .i64 aat) ∧ X.cell? ⟨nb, 1, none⟩ = some (.int .i64 alv) ∧ X.cell? ⟨nb, 2, none⟩ = some (.int .i64 ahd) ∧ X.cell? ⟨nb, 3, none⟩ = some (.slice none 0 0) ∧ X.cell? ⟨nb + 1, 0, none⟩ = some (.int .i64 0) ∧ X.cell? ⟨nb + 1, 1, none⟩ = some (.int .i64 0) ∧ X.cell? ⟨nb + 1, 2, none⟩ = some (.int .i64 0) ∧ X.cell? ⟨nb + 1, 3, none⟩ = some (.bool false) ∧ ResB X (w.heap.size + 1 + 1 + 1) ∧ ResB X (nb + 1) ∧ Below w.heap.size w X) ⟨c0, c1, c2, c3, c4, c5, c6, c7, c8, c9, c10, c11, c12, x0, x1, x2, x3, y0, y1, y2, y3, hR, hY, hB⟩ ?_
    clear hR hY hB F0 F1 F2 F3 I0 I1 I2 I3 G0 G1 G2 G3 c0 c1 c2 c3 c4 c5 c6 c7 c8 c9 c10 c11 c12 x0 x1 x2 x3 y0 y1 y2 y3
    rintro W0 ⟨c0, c1, c2, c3, c4, c5, c6, c7, c8, c9, c10, c11, c12, x0, x1, x2, x3, y0, y1, y2, y3, hR, hY, hB⟩
    obtain ⟨F0, F1, F2, F3, U0, U1, U2, U3, I0, I1, I2, I3⟩ := res_all hR
    obtain ⟨G0, G1, G2, G3, -⟩ := res_all hY
    have lz : nb + 1 < W0.heap.size := res_lt hY
    have lz' : nb < W0.heap.size := by omega
    have l0 : w.heap.size < W0.heap.size := by omega
    have l1 : w.heap.size + 1 < W0.heap.size := by omega
    have l2 : w.heap.size + 1 + 1 < W0.heap.size := by omega
    have l3 : w.heap.size + 1 + 1 + 1 < W0.heap.size := by omega
    refine Eq.mpr (rounds_succ (n := 2)) ?_
    repeat' (first | go_skip | go_guarded | go_step | go_step3 | go_upon)
    clear lz lz' l0 l1 l2 l3
    refine rounds_abs (F := fun X => X.cell? ⟨w.heap.size, 0, none⟩ = some (.int .i64 k) ∧ X.cell? ⟨w.heap.size, 1, none⟩ = some (.int .i64 l) ∧ X.cell? ⟨w.heap.size, 2, none⟩ = some (.int .i64 d) ∧ X.cell? ⟨w.heap.size, 3, none⟩ = some (.int .i64 b) ∧ X.cell? ⟨w.heap.size, 4, none⟩ = some (.int .i64 cc) ∧ X.cell? ⟨w.heap.size, 5, none⟩ = some (.bool o) ∧ X.cell? ⟨w.heap.size + 1, 0, none⟩ = some (.int .i64 at_) ∧ X.cell? ⟨w.heap.size + 1, 1, none⟩ = some (.int .i64 level) ∧ X.cell? ⟨w.heap.size + 1, 2, none⟩ = some (.int .i64 held) ∧ X.cell? ⟨w.heap.size + 1, 3, none⟩ = some (.slice a 0 c) ∧ X.cell? ⟨w.heap.size + 1 + 1, 0, none⟩ = some (.int .i64 3) ∧ X.cell? ⟨w.heap.size + 1 + 1, 1, none⟩ = some (.int .i64 anow) ∧ X.cell? ⟨w.heap.size + 1 + 1, 2, none⟩ = some (.int .i64 acost) ∧ X.cell? ⟨nb, 0, none⟩ = some (.int .i64 aat) ∧ X.cell? ⟨nb, 1, none⟩ = some (.int .i64 alv) ∧ X.cell? ⟨nb, 2, none⟩ = some (.int .i64 ahd) ∧ X.cell? ⟨nb, 3, none⟩ = some (.slice none 0 0) ∧ X.cell? ⟨nb + 1, 0, none⟩ = some (.int .i64 0) ∧ X.cell? ⟨nb + 1, 1, none⟩ = some (.int .i64 0) ∧ X.cell? ⟨nb + 1, 2, none⟩ = some (.int .i64 0) ∧ X.cell? ⟨nb + 1, 3, none⟩ = some (.bool false) ∧ ResB X (w.heap.size + 1 + 1 + 1) ∧ ResB X (nb + 1) ∧ Below w.heap.size w X) ⟨bl_cell (bl_alloc (bl_refl _) _) c0, bl_cell (bl_alloc (bl_refl _) _) c1, bl_cell (bl_alloc (bl_refl _) _) c2, bl_cell (bl_alloc (bl_refl _) _) c3, bl_cell (bl_alloc (bl_refl _) _) c4, bl_cell (bl_alloc (bl_refl _) _) c5, bl_cell (bl_alloc (bl_refl _) _) c6, bl_cell (bl_alloc (bl_refl _) _) c7, bl_cell (bl_alloc (bl_refl _) _) c8, bl_cell (bl_alloc (bl_refl _) _) c9, bl_cell (bl_alloc (bl_refl _) _) c10, bl_cell (bl_alloc (bl_refl _) _) c11, bl_cell (bl_alloc (bl_refl _) _) c12, bl_cell (bl_alloc (bl_refl _) _) x0, bl_cell (bl_alloc (bl_refl _) _) x1, bl_cell (bl_alloc (bl_refl _) _) x2, bl_cell (bl_alloc (bl_refl _) _) x3, bl_cell (bl_alloc (bl_refl _) _) y0, bl_cell (bl_alloc (bl_refl _) _) y1, bl_cell (bl_alloc (bl_refl _) _) y2, bl_cell (bl_alloc (bl_refl _) _) y3, res_bl hR (bl_alloc (bl_refl _) _), res_bl hY (bl_alloc (bl_refl _) _), bl_alloc hB _⟩ ?_
    clear hR hY hB F0 F1 F2 F3 I0 I1 I2 I3 G0 G1 G2 G3 c0 c1 c2 c3 c4 c5 c6 c7 c8 c9 c10 c11 c12 x0 x1 x2 x3 y0 y1 y2 y3
    rintro W1 ⟨c0, c1, c2, c3, c4, c5, c6, c7, c8, c9, c10, c11, c12, x0, x1, x2, x3, y0, y1, y2, y3, hR, hY, hB⟩
    obtain ⟨F0, F1, F2, F3, U0, U1, U2, U3, I0, I1, I2, I3⟩ := res_all hR
    obtain ⟨G0, G1, G2, G3, -⟩ := res_all hY
    have lz : nb + 1 < W1.heap.size := res_lt hY
    have lz' : nb < W1.heap.size := by omega
    have l0 : w.heap.size < W1.heap.size := by omega
    have l1 : w.heap.size + 1 < W1.heap.size := by omega
    have l2 : w.heap.size + 1 + 1 < W1.heap.size := by omega
    have l3 : w.heap.size + 1 + 1 + 1 < W1.heap.size := by omega
    refine Eq.mpr (rounds_succ (n := 1)) ?_
    repeat' (first | go_skip | go_guarded | go_step | go_step3 | go_upon)
    clear lz lz' l0 l1 l2 l3
    refine rounds_abs (F := fun X => X.cell? ⟨w.heap.size, 0, none⟩ = some (.int .i64 k) ∧ X.cell? ⟨w.heap.size, 1, none⟩ = some (.int .i64 l) ∧ X.cell? ⟨w.heap.size, 2, none⟩ = some (.int .i64 d) ∧ X.cell? ⟨w.heap.size, 3, none⟩ = some (.int .i64 b) ∧ X.cell? ⟨w.heap.size, 4, none⟩ = some (.int .i64 cc) ∧ X.cell? ⟨w.heap.size, 5, none⟩ = some (.bool o) ∧ X.cell? ⟨w.heap.size + 1, 0, none⟩ = some (.int .i64 at_) ∧ X.cell? ⟨w.heap.size + 1, 1, none⟩ = some (.int .i64 level) ∧ X.cell? ⟨w.heap.size + 1, 2, none⟩ = some (.int .i64 held) ∧ X.cell? ⟨w.heap.size + 1, 3, none⟩ = some (.slice a 0 c) ∧ X.cell? ⟨w.heap.size + 1 + 1, 0, none⟩ = some (.int .i64 3) ∧ X.cell? ⟨w.heap.size + 1 + 1, 1, none⟩ = some (.int .i64 anow) ∧ X.cell? ⟨w.heap.size + 1 + 1, 2, none⟩ = some (.int .i64 acost) ∧ X.cell? ⟨nb, 0, none⟩ = some (.int .i64 aat) ∧ X.cell? ⟨nb, 1, none⟩ = some (.int .i64 alv) ∧ X.cell? ⟨nb, 2, none⟩ = some (.int .i64 ahd) ∧ X.cell? ⟨nb, 3, none⟩ = some (.slice none 0 0) ∧ X.cell? ⟨nb + 1, 0, none⟩ = some (.int .i64 0) ∧ X.cell? ⟨nb + 1, 1, none⟩ = some (.int .i64 0) ∧ X.cell? ⟨nb + 1, 2, none⟩ = some (.int .i64 0) ∧ X.cell? ⟨nb + 1, 3, none⟩ = some (.bool false) ∧ ResB X (w.heap.size + 1 + 1 + 1) ∧ ResB X (nb + 1) ∧ Below w.heap.size w X) ⟨bl_cell (bl_alloc (bl_refl _) _) c0, bl_cell (bl_alloc (bl_refl _) _) c1, bl_cell (bl_alloc (bl_refl _) _) c2, bl_cell (bl_alloc (bl_refl _) _) c3, bl_cell (bl_alloc (bl_refl _) _) c4, bl_cell (bl_alloc (bl_refl _) _) c5, bl_cell (bl_alloc (bl_refl _) _) c6, bl_cell (bl_alloc (bl_refl _) _) c7, bl_cell (bl_alloc (bl_refl _) _) c8, bl_cell (bl_alloc (bl_refl _) _) c9, bl_cell (bl_alloc (bl_refl _) _) c10, bl_cell (bl_alloc (bl_refl _) _) c11, bl_cell (bl_alloc (bl_refl _) _) c12, bl_cell (bl_alloc (bl_refl _) _) x0, bl_cell (bl_alloc (bl_refl _) _) x1, bl_cell (bl_alloc (bl_refl _) _) x2, bl_cell (bl_alloc (bl_refl _) _) x3, bl_cell (bl_alloc (bl_refl _) _) y0, bl_cell (bl_alloc (bl_refl _) _) y1, bl_cell (bl_alloc (bl_refl _) _) y2, bl_cell (bl_alloc (bl_refl _) _) y3, res_bl hR (bl_alloc (bl_refl _) _), res_bl hY (bl_alloc (bl_refl _) _), bl_alloc hB _⟩ ?_
    clear hR hY hB F0 F1 F2 F3 I0 I1 I2 I3 G0 G1 G2 G3 c0 c1 c2 c3 c4 c5 c6 c7 c8 c9 c10 c11 c12 x0 x1 x2 x3 y0 y1 y2 y3
    rintro W2 ⟨c0, c1, c2, c3, c4, c5, c6, c7, c8, c9, c10, c11, c12, x0, x1, x2, x3, y0, y1, y2, y3, hR, hY, hB⟩
    obtain ⟨F0, F1, F2, F3, U0, U1, U2, U3, I0, I1, I2, I3⟩ := res_all hR
    obtain ⟨G0, G1, G2, G3, -⟩ := res_all hY
    have lz : nb + 1 < W2.heap.size := res_lt hY
    have lz' : nb < W2.heap.size := by omega
    have l0 : w.heap.size < W2.heap.size := by omega
    have l1 : w.heap.size + 1 < W2.heap.size := by omega
    have l2 : w.heap.size + 1 + 1 < W2.heap.size := by omega
    have l3 : w.heap.size + 1 + 1 + 1 < W2.heap.size := by omega
    refine Eq.mpr (rounds_succ (n := 0)) ?_
    repeat' (first | go_skip | go_guarded | go_step | go_step3 | go_upon)
    (try simp only [Exit.inBlock, Exit.then, Exit.noGoto_ret])
    refine bodyPost_ret (results_state2 rfl _ _ (by rfl) (cells4_alloc (set4r (res4 hR)))) rfl ⟨by first | rfl | simp, (bl_alloc (bl4 (bl4 hB (by omega)) (by omega)) _)⟩

set_option maxHeartbeats 2000000 in
set_option maxRecDepth 100000 in
theorem cdo_4 (p : Pol) (s : St) (a : Option Addr) (c : Nat) (anow acost : Int) (A : St) (w : World) (h : rightC p s) (hA : A = advC p s anow) (bad : Bool) (hbad : bad = true ↔ (acost < 1 ∨ A.held < acost)) :
    Calls Try.prog 23 #[p.v, s.v a 0 c, .agg #[.int .i64 4, .int .i64 anow, .int .i64 acost]] w fun e w' =>
      e = .returned (.tuple #[if bad then s.v a 0 c else .agg #[.int .i64 A.at_, .int .i64 (A.level + acost), .int .i64 (A.held - acost), .slice none 0 0], .bool (!bad)]) ∧ Below w.heap.size w w' := by
  have hlg := h.2.2.2.2.2.2.2.2
  have hrt := cright_any p s a 0 c (by rw [hlg]; rfl)
  have hav := cadv_any p s a 0 c anow (by rw [hlg]; rfl)
  rw [decide_eq_true h] at hrt
  have hlv := advC_level p s anow h
  rw [← hA] at hav hlv
  obtain ⟨⟨q0, q1, q2, q3, q4, q5, q6⟩, r1, r2, r3, r4, r5, r6, r7, r8⟩ := h
  clear hA
  obtain ⟨k, l, d, b, cc, o⟩ := p
  obtain ⟨at_, level, held, lg⟩ := s
  obtain ⟨aat, alv, ahd, alg⟩ := A
  unfold St.v Pol.v at *
  dsimp only at *
  have hw1 : IntKind.i64.wrap (l - ahd) = l - ahd := IntWalk.i64_in _ (by omega)
  have hw2 : IntKind.i64.wrap (l - ahd - alv) = l - ahd - alv := IntWalk.i64_in _ (by omega)
  have HRT := Go.Lib.hid hrt
  have HAV := Go.Lib.hid hav
  have j0 := idx0
  have j1 := idx1
  have j2 := idx2
  have j3 := idx3
  have hcase : (bad = true ∧ acost < 1) ∨ (bad = true ∧ ¬ acost < 1 ∧ ahd < acost) ∨ (bad = false ∧ ¬ acost < 1 ∧ ¬ ahd < acost ∧ IntKind.i64.wrap acost = acost ∧ IntKind.i64.wrap (-acost) = -acost ∧ IntKind.i64.wrap (ahd + acost) = ahd + acost ∧ IntKind.i64.wrap (ahd + -acost) = ahd - acost ∧ IntKind.i64.wrap (alv + acost) = alv + acost ∧ IntKind.i64.wrap ahd = ahd ∧ IntKind.i64.wrap alv = alv) := by
    cases bad
    · simp at hbad
      refine .inr (.inr ⟨rfl, by omega, by omega, IntWalk.i64_in _ (by omega), IntWalk.i64_in _ (by omega), IntWalk.i64_in _ (by omega), ?_, IntWalk.i64_in _ (by omega), IntWalk.i64_in _ (by omega), IntWalk.i64_in _ (by omega)⟩)
      rw [IntWalk.i64_in _ (by omega)]
      rfl
    · simp at hbad
      rcases hbad with hx | hx
      · exact .inl ⟨rfl, hx⟩
      · by_cases hy : acost < 1
        · exact .inl ⟨rfl, hy⟩
        · exact .inr (.inl ⟨rfl, hy, hx⟩)
  have HCS := Go.Lib.hid hcase
  clear hbad hcase
  clear hrt hav hlv q0 q1 q2 q3 q4 q5 q6 r1 r2 r3 r4 r5 r6 r7 r8 hlg
  go_enter Try.func23, Try.ntmps23
  go_wp2_with go_step3
  refine (HRT.out _).mono ?_
  rintro e w1 ⟨rfl, hb⟩
  have hB : Below w.heap.size w w1 := bl_then (bl_alloc (bl_alloc (bl_alloc (bl_alloc (bl_refl _) _) _) _) _) hb
  have c0 := bl_cell (v := .int .i64 k) hb (show World.cell? _ ⟨w.heap.size, 0, none⟩ = _ by go_simp)
  have c1 := bl_cell (v := .int .i64 l) hb (show World.cell? _ ⟨w.heap.size, 1, none⟩ = _ by go_simp)
  have c2 := bl_cell (v := .int .i64 d) hb (show World.cell? _ ⟨w.heap.size, 2, none⟩ = _ by go_simp)
  have c3 := bl_cell (v := .int .i64 b) hb (show World.cell? _ ⟨w.heap.size, 3, none⟩ = _ by go_simp)
  have c4 := bl_cell (v := .int .i64 cc) hb (show World.cell? _ ⟨w.heap.size, 4, none⟩ = _ by go_simp)
  have c5 := bl_cell (v := .bool o) hb (show World.cell? _ ⟨w.heap.size, 5, none⟩ = _ by go_simp)
  have c6 := bl_cell (v := .int .i64 at_) hb (show World.cell? _ ⟨w.heap.size + 1, 0, none⟩ = _ by go_simp)
  have c7 := bl_cell (v := .int .i64 level) hb (show World.cell? _ ⟨w.heap.size + 1, 1, none⟩ = _ by go_simp)
  have c8 := bl_cell (v := .int .i64 held) hb (show World.cell? _ ⟨w.heap.size + 1, 2, none⟩ = _ by go_simp)
  have c9 := bl_cell (v := .slice a 0 c) hb (show World.cell? _ ⟨w.heap.size + 1, 3, none⟩ = _ by go_simp)
  have c10 := bl_cell (v := .int .i64 4) hb (show World.cell? _ ⟨w.heap.size + 1 + 1, 0, none⟩ = _ by go_simp)
  have c11 := bl_cell (v := .int .i64 anow) hb (show World.cell? _ ⟨w.heap.size + 1 + 1, 1, none⟩ = _ by go_simp)
  have c12 := bl_cell (v := .int .i64 acost) hb (show World.cell? _ ⟨w.heap.size + 1 + 1, 2, none⟩ = _ by go_simp)
  have hR : ResB w1 (w.heap.size + 1 + 1 + 1) := res_bl (res_new _ _ _ _ _ _ (by simp)) hb
  clear hb HRT
  go_wp2_with go_step3
  refine (HAV.out _).mono ?_
  rintro e w2 ⟨rfl, hb⟩
  clear HAV
  have d0 := bl_cell hb c0
  have d1 := bl_cell hb c1
  have d2 := bl_cell hb c2
  have d3 := bl_cell hb c3
  have d4 := bl_cell hb c4
  have d5 := bl_cell hb c5
  have d6 := bl_cell hb c6
  have d7 := bl_cell hb c7
  have d8 := bl_cell hb c8
  have d9 := bl_cell hb c9
  have d10 := bl_cell hb c10
  have d11 := bl_cell hb c11
  have d12 := bl_cell hb c12
  have dR := res_bl hR hb
  have dB := bl_then hB hb
  have hlt := res_lt dR
  clear hR hB hb c0 c1 c2 c3 c4 c5 c6 c7 c8 c9 c10 c11 c12
  go_wp2_with go_step3
  refine (changes_any _).mono ?_
  rintro e w3 ⟨rfl, hb⟩
  have c0 := bl_cell hb (bl_cell (bl_alloc (bl_alloc (bl_refl w2) _) _) d0)
  have c1 := bl_cell hb (bl_cell (bl_alloc (bl_alloc (bl_refl w2) _) _) d1)
  have c2 := bl_cell hb (bl_cell (bl_alloc (bl_alloc (bl_refl w2) _) _) d2)
  have c3 := bl_cell hb (bl_cell (bl_alloc (bl_alloc (bl_refl w2) _) _) d3)
  have c4 := bl_cell hb (bl_cell (bl_alloc (bl_alloc (bl_refl w2) _) _) d4)
  have c5 := bl_cell hb (bl_cell (bl_alloc (bl_alloc (bl_refl w2) _) _) d5)
  have c6 := bl_cell hb (bl_cell (bl_alloc (bl_alloc (bl_refl w2) _) _) d6)
  have c7 := bl_cell hb (bl_cell (bl_alloc (bl_alloc (bl_refl w2) _) _) d7)
  have c8 := bl_cell hb (bl_cell (bl_alloc (bl_alloc (bl_refl w2) _) _) d8)
  have c9 := bl_cell hb (bl_cell (bl_alloc (bl_alloc (bl_refl w2) _) _) d9)
  have c10 := bl_cell hb (bl_cell (bl_alloc (bl_alloc (bl_refl w2) _) _) d10)
  have c11 := bl_cell hb (bl_cell (bl_alloc (bl_alloc (bl_refl w2) _) _) d11)
  have c12 := bl_cell hb (bl_cell (bl_alloc (bl_alloc (bl_refl w2) _) _) d12)
  have hR := res_bl (res_bl dR (bl_alloc (bl_alloc (bl_refl w2) _) _)) hb
  have hB := bl_then (bl_alloc (bl_alloc dB _) _) hb
  have x0 := bl_cell (v := .int .i64 aat) hb (show World.cell? _ ⟨w2.heap.size, 0, none⟩ = _ by go_simp)
  have x1 := bl_cell (v := .int .i64 alv) hb (show World.cell? _ ⟨w2.heap.size, 1, none⟩ = _ by go_simp)
  have x2 := bl_cell (v := .int .i64 ahd) hb (show World.cell? _ ⟨w2.heap.size, 2, none⟩ = _ by go_simp)
  have x3 := bl_cell (v := .slice none 0 0) hb (show World.cell? _ ⟨w2.heap.size, 3, none⟩ = _ by go_simp)
  have y0 := bl_cell (v := .int .i64 0) hb (show World.cell? _ ⟨w2.heap.size + 1, 0, none⟩ = _ by go_simp)
  have y1 := bl_cell (v := .int .i64 0) hb (show World.cell? _ ⟨w2.heap.size + 1, 1, none⟩ = _ by go_simp)
  have y2 := bl_cell (v := .int .i64 0) hb (show World.cell? _ ⟨w2.heap.size + 1, 2, none⟩ = _ by go_simp)
  have y3 := bl_cell (v := .bool false) hb (show World.cell? _ ⟨w2.heap.size + 1, 3, none⟩ = _ by go_simp)
  have hY : ResB w3 (w2.heap.size + 1) := res_bl (res_new _ _ _ _ _ _ (by simp)) hb
  have hlt3 : w2.heap.size + 1 < w3.heap.size := res_lt hY
  generalize w2.heap.size = nb at *
  clear hb dR dB d0 d1 d2 d3 d4 d5 d6 d7 d8 d9 d10 d11 d12
  obtain ⟨F0, F1, F2, F3, U0, U1, U2, U3, I0, I1, I2, I3⟩ := res_all hR
  obtain ⟨G0, G1, G2, G3, V0, V1, V2, V3, -⟩ := res_all hY
  go_wp2_with go_step3
  have n0 : ¬ nb = w.heap.size := by omega
  have m0 : ¬ w.heap.size = nb := by omega
  have n0' : ¬ nb + 1 = w.heap.size := by omega
  have m0' : ¬ w.heap.size = nb + 1 := by omega
  have n1 : ¬ nb = w.heap.size + 1 := by omega
  have m1 : ¬ w.heap.size + 1 = nb := by omega
  have n1' : ¬ nb + 1 = w.heap.size + 1 := by omega
  have m1' : ¬ w.heap.size + 1 = nb + 1 := by omega
  have n2 : ¬ nb = w.heap.size + 1 + 1 := by omega
  have m2 : ¬ w.heap.size + 1 + 1 = nb := by omega
  have n2' : ¬ nb + 1 = w.heap.size + 1 + 1 := by omega
  have m2' : ¬ w.heap.size + 1 + 1 = nb + 1 := by omega
  have n3 : ¬ nb = w.heap.size + 1 + 1 + 1 := by omega
  have m3 : ¬ w.heap.size + 1 + 1 + 1 = nb := by omega
  have n3' : ¬ nb + 1 = w.heap.size + 1 + 1 + 1 := by omega
  have m3' : ¬ w.heap.size + 1 + 1 + 1 = nb + 1 := by omega
  rcases HCS.out with ⟨rfl, e1⟩ | ⟨rfl, e1, e2⟩ | ⟨rfl, e1, e2, p1, p2, p3, p4, p5, p6, p7⟩
  all_goals clear HCS
  · refine wp_loop_rounds 4 ?_
    refine rounds_abs (F := fun X => X.cell? ⟨w.heap.size, 0, none⟩ = some (.int .i64 k) ∧ X.cell? ⟨w.heap.size, 1, none⟩ = some (.int .i64 l) ∧ X.cell? ⟨w.heap.size, 2, none⟩ = some (.int .i64 d) ∧ X.cell? ⟨w.heap.size, 3, none⟩ = some (.int .i64 b) ∧ X.cell? ⟨w.heap.size, 4, none⟩ = some (.int .i64 cc) ∧ X.cell? ⟨w.heap.size, 5, none⟩ = some (.bool o) ∧ X.cell? ⟨w.heap.size + 1, 0, none⟩ = some (.int .i64 at_) ∧ X.cell? ⟨w.heap.size + 1, 1, none⟩ = some (.int .i64 level) ∧ X.cell? ⟨w.heap.size + 1, 2, none⟩ = some (.int .i64 held) ∧ X.cell? ⟨w.heap.size + 1, 3, none⟩ = some (.slice a 0 c) ∧ X.cell? ⟨w.heap.size + 1 + 1, 0, none⟩ = some (.int .i64 4) ∧ X.cell? ⟨w.heap.size + 1 + 1, 1, none⟩ = some (.int .i64 anow) ∧ X.cell? ⟨w.heap.size + 1 + 1, 2, none⟩ = some (.int .i64 acost) ∧ X.cell? ⟨nb, 0, none⟩ = some (.int .i64 aat) ∧ X.cell? ⟨nb, 1, none⟩ = some (.int .i64 alv) ∧ X.cell? ⟨nb, 2, none⟩ = some (.int .i64 ahd) ∧ X.cell? ⟨nb, 3, none⟩ = some (.slice none 0 0) ∧ X.cell? ⟨nb + 1, 0, none⟩ = some (.int .i64 0) ∧ X.cell? ⟨nb + 1, 1, none⟩ = some (.int .i64 0) ∧ X.cell? ⟨nb + 1, 2, none⟩ = some (.int .i64 0) ∧ X.cell? ⟨nb + 1, 3, none⟩ = some (.bool false) ∧ ResB X (w.heap.size + 1 + 1 + 1) ∧ ResB X (nb + 1) ∧ Below w.heap.size w X) ⟨c0, c1, c2, c3, c4, c5, c6, c7, c8, c9, c10, c11, c12, x0, x1, x2, x3, y0, y1, y2, y3, hR, hY, hB⟩ ?_
    clear hR hY hB F0 F1 F2 F3 I0 I1 I2 I3 G0 G1 G2 G3 c0 c1 c2 c3 c4 c5 c6 c7 c8 c9 c10 c11 c12 x0 x1 x2 x3 y0 y1 y2 y3
    rintro W0 ⟨c0, c1, c2, c3, c4, c5, c6, c7, c8, c9, c10, c11, c12, x0, x1, x2, x3, y0, y1, y2, y3, hR, hY, hB⟩
    obtain ⟨F0, F1, F2, F3, U0, U1, U2, U3, I0, I1, I2, I3⟩ := res_all hR
    obtain ⟨G0, G1, G2, G3, -⟩ := res_all hY
    have lz : nb + 1 < W0.heap.size := res_lt hY
    have lz' : nb < W0.heap.size := by omega
    have l0 : w.heap.size < W0.heap.size := by omega
    have l1 : w.heap.size + 1 < W0.heap.size := by omega
    have l2 : w.heap.size + 1 + 1 < W0.heap.size := by omega
    have l3 : w.heap.size + 1 + 1 + 1 < W0.heap.size := by omega
    refine Eq.mpr (rounds_succ (n := 3)) ?_
    repeat' (first | go_skip | go_guarded | go_step | go_step3 | go_upon)
    clear lz lz' l0 l1 l2 l3
    refine rounds_abs (F := fun X => X.cell? ⟨w.heap.size, 0, none⟩ = some (.int .i64 k) ∧ X.cell? ⟨w.heap.size, 1, none⟩ = some (.int .i64 l) ∧ X.cell? ⟨w.heap.size, 2, none⟩ = some (.int .i64 d) ∧ X.cell? ⟨w.heap.size, 3, none⟩ = some (.int .i64 b) ∧ X.cell? ⟨w.heap.size, 4, none⟩ = some (.int .i64 cc) ∧ X.cell? ⟨w.heap.size, 5, none⟩ = some (.bool o) ∧ X.cell? ⟨w.heap.size + 1, 0, none⟩ = some (.int .i64 at_) ∧ X.cell? ⟨w.heap.size + 1, 1, none⟩ = some (.int .i64 level) ∧ X.cell? ⟨w.heap.size + 1, 2, none⟩ = some (.int .i64 held) ∧ X.cell? ⟨w.heap.size + 1, 3, none⟩ = some (.slice a 0 c) ∧ X.cell? ⟨w.heap.size + 1 + 1, 0, none⟩ = some (.int .i64 4) ∧ X.cell? ⟨w.heap.size + 1 + 1, 1, none⟩ = some (.int .i64 anow) ∧ X.cell? ⟨w.heap.size + 1 + 1, 2, none⟩ = some (.int .i64 acost) ∧ X.cell? ⟨nb, 0, none⟩ = some (.int .i64 aat) ∧ X.cell? ⟨nb, 1, none⟩ = some (.int .i64 alv) ∧ X.cell? ⟨nb, 2, none⟩ = some (.int .i64 ahd) ∧ X.cell? ⟨nb, 3, none⟩ = some (.slice none 0 0) ∧ X.cell? ⟨nb + 1, 0, none⟩ = some (.int .i64 0) ∧ X.cell? ⟨nb + 1, 1, none⟩ = some (.int .i64 0) ∧ X.cell? ⟨nb + 1, 2, none⟩ = some (.int .i64 0) ∧ X.cell? ⟨nb + 1, 3, none⟩ = some (.bool false) ∧ ResB X (w.heap.size + 1 + 1 + 1) ∧ ResB X (nb + 1) ∧ Below w.heap.size w X) ⟨bl_cell (bl_alloc (bl_refl _) _) c0, bl_cell (bl_alloc (bl_refl _) _) c1, bl_cell (bl_alloc (bl_refl _) _) c2, bl_cell (bl_alloc (bl_refl _) _) c3, bl_cell (bl_alloc (bl_refl _) _) c4, bl_cell (bl_alloc (bl_refl _) _) c5, bl_cell (bl_alloc (bl_refl _) _) c6, bl_cell (bl_alloc (bl_refl _) _) c7, bl_cell (bl_alloc (bl_refl _) _) c8, bl_cell (bl_alloc (bl_refl _) _) c9, bl_cell (bl_alloc (bl_refl _) _) c10, bl_cell (bl_alloc (bl_refl _) _) c11, bl_cell (bl_alloc (bl_refl _) _) c12, bl_cell (bl_alloc (bl_refl _) _) x0, bl_cell (bl_alloc (bl_refl _) _) x1, bl_cell (bl_alloc (bl_refl _) _) x2, bl_cell (bl_alloc (bl_refl _) _) x3, bl_cell (bl_alloc (bl_refl _) _) y0, bl_cell (bl_alloc (bl_refl _) _) y1, bl_cell (bl_alloc (bl_refl _) _) y2, bl_cell (bl_alloc (bl_refl _) _) y3, res_bl hR (bl_alloc (bl_refl _) _), res_bl hY (bl_alloc (bl_refl _) _), bl_alloc hB _⟩ ?_
    clear hR hY hB F0 F1 F2 F3 I0 I1 I2 I3 G0 G1 G2 G3 c0 c1 c2 c3 c4 c5 c6 c7 c8 c9 c10 c11 c12 x0 x1 x2 x3 y0 y1 y2 y3
    rintro W1 ⟨c0, c1, c2, c3, c4, c5, c6, c7, c8, c9, c10, c11, c12, x0, x1, x2, x3, y0, y1, y2, y3, hR, hY, hB⟩
    obtain ⟨F0, F1, F2, F3, U0, U1, U2, U3, I0, I1, I2, I3⟩ := res_all hR
    obtain ⟨G0, G1, G2, G3, -⟩ := res_all hY
    have lz : nb + 1 < W1.heap.size := res_lt hY
    have lz' : nb < W1.heap.size := by omega
    have l0 : w.heap.size < W1.heap.size := by omega
    have l1 : w.heap.size + 1 < W1.heap.size := by omega
    have l2 : w.heap.size + 1 + 1 < W1.heap.size := by omega
    have l3 : w.heap.size + 1 + 1 + 1 < W1.heap.size := by omega
    refine Eq.mpr (rounds_succ (n := 2)) ?_
    repeat' (first | go_skip | go_guarded | go_step | go_step3 | go_upon)
    clear lz lz' l0 l1 l2 l3
    refine rounds_abs (F := fun X => X.cell? ⟨w.heap.size, 0, none⟩ = some (.int .i64 k) ∧ X.cell? ⟨w.heap.size, 1, none⟩ = some (.int .i64 l) ∧ X.cell? ⟨w.heap.size, 2, none⟩ = some (.int .i64 d) ∧ X.cell? ⟨w.heap.size, 3, none⟩ = some (.int .i64 b) ∧ X.cell? ⟨w.heap.size, 4, none⟩ = some (.int .i64 cc) ∧ X.cell? ⟨w.heap.size, 5, none⟩ = some (.bool o) ∧ X.cell? ⟨w.heap.size + 1, 0, none⟩ = some (.int .i64 at_) ∧ X.cell? ⟨w.heap.size + 1, 1, none⟩ = some (.int .i64 level) ∧ X.cell? ⟨w.heap.size + 1, 2, none⟩ = some (.int .i64 held) ∧ X.cell? ⟨w.heap.size + 1, 3, none⟩ = some (.slice a 0 c) ∧ X.cell? ⟨w.heap.size + 1 + 1, 0, none⟩ = some (.int .i64 4) ∧ X.cell? ⟨w.heap.size + 1 + 1, 1, none⟩ = some (.int .i64 anow) ∧ X.cell? ⟨w.heap.size + 1 + 1, 2, none⟩ = some (.int .i64 acost) ∧ X.cell? ⟨nb, 0, none⟩ = some (.int .i64 aat) ∧ X.cell? ⟨nb, 1, none⟩ = some (.int .i64 alv) ∧ X.cell? ⟨nb, 2, none⟩ = some (.int .i64 ahd) ∧ X.cell? ⟨nb, 3, none⟩ = some (.slice none 0 0) ∧ X.cell? ⟨nb + 1, 0, none⟩ = some (.int .i64 0) ∧ X.cell? ⟨nb + 1, 1, none⟩ = some (.int .i64 0) ∧ X.cell? ⟨nb + 1, 2, none⟩ = some (.int .i64 0) ∧ X.cell? ⟨nb + 1, 3, none⟩ = some (.bool false) ∧ ResB X (w.heap.size + 1 + 1 + 1) ∧ ResB X (nb + 1) ∧ Below w.heap.size w X) ⟨bl_cell (bl_alloc (bl_refl _) _) c0, bl_cell (bl_alloc (bl_refl _) _) c1, bl_cell (bl_alloc (bl_refl _) _) c2, bl_cell (bl_alloc (bl_refl _) _) c3, bl_cell (bl_alloc (bl_refl _) _) c4, bl_cell (bl_alloc (bl_refl _) _) c5, bl_cell (bl_alloc (bl_refl _) _) c6, bl_cell (bl_alloc (bl_refl _) _) c7, bl_cell (bl_alloc (bl_refl _) _) c8, bl_cell (bl_alloc (bl_refl _) _) c9, bl_cell (bl_alloc (bl_refl _) _) c10, bl_cell (bl_alloc (bl_refl _) _) c11, bl_cell (bl_alloc (bl_refl _) _) c12, bl_cell (bl_alloc (bl_refl _) _) x0, bl_cell (bl_alloc (bl_refl _) _) x1, bl_cell (bl_alloc (bl_refl _) _) x2, bl_cell (bl_alloc (bl_refl _) _) x3, bl_cell (bl_alloc (bl_refl _) _) y0, bl_cell (bl_alloc (bl_refl _) _) y1, bl_cell (bl_alloc (bl_refl _) _) y2, bl_cell (bl_alloc (bl_refl _) _) y3, res_bl hR (bl_alloc (bl_refl _) _), res_bl hY (bl_alloc (bl_refl _) _), bl_alloc hB _⟩ ?_
    clear hR hY hB F0 F1 F2 F3 I0 I1 I2 I3 G0 G1 G2 G3 c0 c1 c2 c3 c4 c5 c6 c7 c8 c9 c10 c11 c12 x0 x1 x2 x3 y0 y1 y2 y3
    rintro W2 ⟨c0, c1, c2, c3, c4, c5, c6, c7, c8, c9, c10, c11, c12, x0, x1, x2, x3, y0, y1, y2, y3, hR, hY, hB⟩
    obtain ⟨F0, F1, F2, F3, U0, U1, U2, U3, I0, I1, I2, I3⟩ := res_all hR
    obtain ⟨G0, G1, G2, G3, -⟩ := res_all hY
    have lz : nb + 1 < W2.heap.size := res_lt hY
    have lz' : nb < W2.heap.size := by omega
    have l0 : w.heap.size < W2.heap.size := by omega
    have l1 : w.heap.size + 1 < W2.heap.size := by omega
    have l2 : w.heap.size + 1 + 1 < W2.heap.size := by omega
    have l3 : w.heap.size + 1 + 1 + 1 < W2.heap.size := by omega
    refine Eq.mpr (rounds_succ (n := 1)) ?_
    repeat' (first | go_skip | go_guarded | go_step | go_step3 | go_upon)
    clear lz lz' l0 l1 l2 l3
    refine rounds_abs (F := fun X => X.cell? ⟨w.heap.size, 0, none⟩ = some (.int .i64 k) ∧ X.cell? ⟨w.heap.size, 1, none⟩ = some (.int .i64 l) ∧ X.cell? ⟨w.heap.size, 2, none⟩ = some (.int .i64 d) ∧ X.cell? ⟨w.heap.size, 3, none⟩ = some (.int .i64 b) ∧ X.cell? ⟨w.heap.size, 4, none⟩ = some (.int .i64 cc) ∧ X.cell? ⟨w.heap.size, 5, none⟩ = some (.bool o) ∧ X.cell? ⟨w.heap.size + 1, 0, none⟩ = some (.int .i64 at_) ∧ X.cell? ⟨w.heap.size + 1, 1, none⟩ = some (.int .i64 level) ∧ X.cell? ⟨w.heap.size + 1, 2, none⟩ = some (.int .i64 held) ∧ X.cell? ⟨w.heap.size + 1, 3, none⟩ = some (.slice a 0 c) ∧ X.cell? ⟨w.heap.size + 1 + 1, 0, none⟩ = some (.int .i64 4) ∧ X.cell? ⟨w.heap.size + 1 + 1, 1, none⟩ = some (.int .i64 anow) ∧ X.cell? ⟨w.heap.size + 1 + 1, 2, none⟩ = some (.int .i64 acost) ∧ X.cell? ⟨nb, 0, none⟩ = some (.int .i64 aat) ∧ X.cell? ⟨nb, 1, none⟩ = some (.int .i64 alv) ∧ X.cell? ⟨nb, 2, none⟩ = some (.int .i64 ahd) ∧ X.cell? ⟨nb, 3, none⟩ = some (.slice none 0 0) ∧ X.cell? ⟨nb + 1, 0, none⟩ = some (.int .i64 0) ∧ X.cell? ⟨nb + 1, 1, none⟩ = some (.int .i64 0) ∧ X.cell? ⟨nb + 1, 2, none⟩ = some (.int .i64 0) ∧ X.cell? ⟨nb + 1, 3, none⟩ = some (.bool false) ∧ ResB X (w.heap.size + 1 + 1 + 1) ∧ ResB X (nb + 1) ∧ Below w.heap.size w X) ⟨bl_cell (bl_alloc (bl_refl _) _) c0, bl_cell (bl_alloc (bl_refl _) _) c1, bl_cell (bl_alloc (bl_refl _) _) c2, bl_cell (bl_alloc (bl_refl _) _) c3, bl_cell (bl_alloc (bl_refl _) _) c4, bl_cell (bl_alloc (bl_refl _) _) c5, bl_cell (bl_alloc (bl_refl _) _) c6, bl_cell (bl_alloc (bl_refl _) _) c7, bl_cell (bl_alloc (bl_refl _) _) c8, bl_cell (bl_alloc (bl_refl _) _) c9, bl_cell (bl_alloc (bl_refl _) _) c10, bl_cell (bl_alloc (bl_refl _) _) c11, bl_cell (bl_alloc (bl_refl _) _) c12, bl_cell (bl_alloc (bl_refl _) _) x0, bl_cell (bl_alloc (bl_refl _) _) x1, bl_cell (bl_alloc (bl_refl _) _) x2, bl_cell (bl_alloc (bl_refl _) _) x3, bl_cell (bl_alloc (bl_refl _) _) y0, bl_cell (bl_alloc (bl_refl _) _) y1, bl_cell (bl_alloc (bl_refl _) _) y2, bl_cell (bl_alloc (bl_refl _) _) y3, res_bl hR (bl_alloc (bl_refl _) _), res_bl hY (bl_alloc (bl_refl _) _), bl_alloc hB _⟩ ?_
    clear hR hY hB F0 F1 F2 F3 I0 I1 I2 I3 G0 G1 G2 G3 c0 c1 c2 c3 c4 c5 c6 c7 c8 c9 c10 c11 c12 x0 x1 x2 x3 y0 y1 y2 y3
    rintro W3 ⟨c0, c1, c2, c3, c4, c5, c6, c7, c8, c9, c10, c11, c12, x0, x1, x2, x3, y0, y1, y2, y3, hR, hY, hB⟩
    obtain ⟨F0, F1, F2, F3, U0, U1, U2, U3, I0, I1, I2, I3⟩ := res_all hR
    obtain ⟨G0, G1, G2, G3, -⟩ := res_all hY
    have lz : nb + 1 < W3.heap.size := res_lt hY
    have lz' : nb < W3.heap.size := by omega
    have l0 : w.heap.size < W3.heap.size := by omega
    have l1 : w.heap.size + 1 < W3.heap.size := by omega
    have l2 : w.heap.size + 1 + 1 < W3.heap.size := by omega
    have l3 : w.heap.size + 1 + 1 + 1 < W3.heap.size := by omega
    refine Eq.mpr (rounds_succ (n := 0)) ?_
    repeat' (first | go_skip | go_guarded | go_step | go_step3 | go_upon)
    (try simp only [Exit.inBlock, Exit.then, Exit.noGoto_ret])
    refine bodyPost_ret (results_state2 rfl _ _ (by rfl) (cells4_alloc (set4r (res4 hR)))) rfl ⟨by first | rfl | simp, (bl_alloc (bl4 (bl4 hB (by omega)) (by omega)) _)⟩
  · refine wp_loop_rounds 4 ?_
    refine rounds_abs (F := fun X => X.cell? ⟨w.heap.size, 0, none⟩ = some (.int .i64 k) ∧ X.cell? ⟨w.heap.size, 1, none⟩ = some (.int .i64 l) ∧ X.cell? ⟨w.heap.size, 2, none⟩ = some (.int .i64 d) ∧ X.cell? ⟨w.heap.size, 3, none⟩ = some (.int .i64 b) ∧ X.cell? ⟨w.heap.size, 4, none⟩ = some (.int .i64 cc) ∧ X.cell? ⟨w.heap.size, 5, none⟩ = some (.bool o) ∧ X.cell? ⟨w.heap.size + 1, 0, none⟩ = some (.int .i64 at_) ∧ X.cell? ⟨w.heap.size + 1, 1, none⟩ = some (.int .i64 level) ∧ X.cell? ⟨w.heap.size + 1, 2, none⟩ = some (.int .i64 held) ∧ X.cell? ⟨w.heap.size + 1, 3, none⟩ = some (.slice a 0 c) ∧ X.cell? ⟨w.heap.size + 1 + 1, 0, none⟩ = some (.int .i64 4) ∧ X.cell? ⟨w.heap.size + 1 + 1, 1, none⟩ = some (.int .i64 anow) ∧ X.cell? ⟨w.heap.size + 1 + 1, 2, none⟩ = some (.int .i64 acost) ∧ X.cell? ⟨nb, 0, none⟩ = some (.int .i64 aat) ∧ X.cell? ⟨nb, 1, none⟩ = some (.int .i64 alv) ∧ X.cell? ⟨nb, 2, none⟩ = some (.int .i64 ahd) ∧ X.cell? ⟨nb, 3, none⟩ = some (.slice none 0 0) ∧ X.cell? ⟨nb + 1, 0, none⟩ = some (.int .i64 0) ∧ X.cell? ⟨nb + 1, 1, none⟩ = some (.int .i64 0) ∧ X.cell? ⟨nb + 1, 2, none⟩ = some (.int .i64 0) ∧ X.cell? ⟨nb + 1, 3, none⟩ = some (.bool false) ∧ ResB X (w.heap.size + 1 + 1 + 1) ∧ ResB X (nb + 1) ∧ Below w.heap.size w X) ⟨c0, c1, c2, c3, c4, c5, c6, c7, c8, c9, c10, c11, c12, x0, x1, x2, x3, y0, y1, y2, y3, hR, hY, hB⟩ ?_
    clear hR hY hB F0 F1 F2 F3 I0 I1 I2 I3 G0 G1 G2 G3 c0 c1 c2 c3 c4 c5 c6 c7 c8 c9 c10 c11 c12 x0 x1 x2 x3 y0 y1 y2 y3
    rintro W0 ⟨c0, c1, c2, c3, c4, c5, c6, c7, c8, c9, c10, c11, c12, x0, x1, x2, x3, y0, y1, y2, y3, hR, hY, hB⟩
    obtain ⟨F0, F1, F2, F3, U0, U1, U2, U3, I0, I1, I2, I3⟩ := res_all hR
    obtain ⟨G0, G1, G2, G3, -⟩ := res_all hY
    have lz : nb + 1 < W0.heap.size := res_lt hY
    have lz' : nb < W0.heap.size := by omega
    have l0 : w.heap.size < W0.heap.size := by omega
    have l1 : w.heap.size + 1 < W0.heap.size := by omega
    have l2 : w.heap.size + 1 + 1 < W0.heap.size := by omega
    have l3 : w.heap.size + 1 + 1 + 1 < W0.heap.size := by omega
    refine Eq.mpr (rounds_succ (n := 3)) ?_
    repeat' (first | go_skip | go_guarded | go_step | go_step3 | go_upon)
    clear lz lz' l0 l1 l2 l3
    refine rounds_abs (F := fun X => X.cell? ⟨w.heap.size, 0, none⟩ = some (.int .i64 k) ∧ X.cell? ⟨w.heap.size, 1, none⟩ = some (.int .i64 l) ∧ X.cell? ⟨w.heap.size, 2, none⟩ = some (.int .i64 d) ∧ X.cell? ⟨w.heap.size, 3, none⟩ = some (.int .i64 b) ∧ X.cell? ⟨w.heap.size, 4, none⟩ = some (.int .i64 cc) ∧ X.cell? ⟨w.heap.size, 5, none⟩ = some (.bool o) ∧ X.cell? ⟨w.heap.size + 1, 0, none⟩ = some (.int .i64 at_) ∧ X.cell? ⟨w.heap.size + 1, 1, none⟩ = some (.int .i64 level) ∧ X.cell? ⟨w.heap.size + 1, 2, none⟩ = some (.int .i64 held) ∧ X.cell? ⟨w.heap.size + 1, 3, none⟩ = some (.slice a 0 c) ∧ X.cell? ⟨w.heap.size + 1 + 1, 0, none⟩ = some (.int .i64 4) ∧ X.cell? ⟨w.heap.size + 1 + 1, 1, none⟩ = some (.int .i64 anow) ∧ X.cell? ⟨w.heap.size + 1 + 1, 2, none⟩ = some (.int .i64 acost) ∧ X.cell? ⟨nb, 0, none⟩ = some (.int .i64 aat) ∧ X.cell? ⟨nb, 1, none⟩ = some (.int .i64 alv) ∧ X.cell? ⟨nb, 2, none⟩ = some (.int .i64 ahd) ∧ X.cell? ⟨nb, 3, none⟩ = some (.slice none 0 0) ∧ X.cell? ⟨nb + 1, 0, none⟩ = some (.int .i64 0) ∧ X.cell? ⟨nb + 1, 1, none⟩ = some (.int .i64 0) ∧ X.cell? ⟨nb + 1, 2, none⟩ = some (.int .i64 0) ∧ X.cell? ⟨nb + 1, 3, none⟩ = some (.bool false) ∧ ResB X (w.heap.size + 1 + 1 + 1) ∧ ResB X (nb + 1) ∧ Below w.heap.size w X) ⟨bl_cell (bl_alloc (bl_refl _) _) c0, bl_cell (bl_alloc (bl_refl _) _) c1, bl_cell (bl_alloc (bl_refl _) _) c2, bl_cell (bl_alloc (bl_refl _) _) c3, bl_cell (bl_alloc (bl_refl _) _) c4, bl_cell (bl_alloc (bl_refl _) _) c5, bl_cell (bl_alloc (bl_refl _) _) c6, bl_cell (bl_alloc (bl_refl _) _) c7, bl_cell (bl_alloc (bl_refl _) _) c8, bl_cell (bl_alloc (bl_refl _) _) c9, bl_cell (bl_alloc (bl_refl _) _) c10, bl_cell (bl_alloc (bl_refl _) _) c11, bl_cell (bl_alloc (bl_refl _) _) c12, bl_cell (bl_alloc (bl_refl _) _) x0, bl_cell (bl_alloc (bl_refl _) _) x1, bl_cell (bl_alloc (bl_refl _) _) x2, bl_cell (bl_alloc (bl_refl _) _) x3, bl_cell (bl_alloc (bl_refl _) _) y0, bl_cell (bl_alloc (bl_refl _) _) y1, bl_cell (bl_alloc (bl_refl _) _) y2, bl_cell (bl_alloc (bl_refl _) _) y3, res_bl hR (bl_alloc (bl_refl _) _), res_bl hY (bl_alloc (bl_refl _) _), bl_alloc hB _⟩ ?_
    clear hR hY hB F0 F1 F2 F3 I0 I1 I2 I3 G0 G1 G2 G3 c0 c1 c2 c3 c4 c5 c6 c7 c8 c9 c10 c11 c12 x0 x1 x2 x3 y0 y1 y2 y3
    rintro W1 ⟨c0, c1, c2, c3, c4, c5, c6, c7, c8, c9, c10, c11, c12, x0, x1, x2, x3, y0, y1, y2, y3, hR, hY, hB⟩
    obtain ⟨F0, F1, F2, F3, U0, U1, U2, U3, I0, I1, I2, I3⟩ := res_all hR
    obtain ⟨G0, G1, G2, G3, -⟩ := res_all hY
    have lz : nb + 1 < W1.heap.size := res_lt hY
    have lz' : nb < W1.heap.size := by omega
    have l0 : w.heap.size < W1.heap.size := by omega
    have l1 : w.heap.size + 1 < W1.heap.size := by omega
    have l2 : w.heap.size + 1 + 1 < W1.heap.size := by omega
    have l3 : w.heap.size + 1 + 1 + 1 < W1.heap.size := by omega
    refine Eq.mpr (rounds_succ (n := 2)) ?_
    repeat' (first | go_skip | go_guarded | go_step | go_step3 | go_upon)
    clear lz lz' l0 l1 l2 l3
    refine rounds_abs (F := fun X => X.cell? ⟨w.heap.size, 0, none⟩ = some (.int .i64 k) ∧ X.cell? ⟨w.heap.size, 1, none⟩ = some (.int .i64 l) ∧ X.cell? ⟨w.heap.size, 2, none⟩ = some (.int .i64 d) ∧ X.cell? ⟨w.heap.size, 3, none⟩ = some (.int .i64 b) ∧ X.cell? ⟨w.heap.size, 4, none⟩ = some (.int .i64 cc) ∧ X.cell? ⟨w.heap.size, 5, none⟩ = some (.bool o) ∧ X.cell? ⟨w.heap.size + 1, 0, none⟩ = some (.int .i64 at_) ∧ X.cell? ⟨w.heap.size + 1, 1, none⟩ = some (.int .i64 level) ∧ X.cell? ⟨w.heap.size + 1, 2, none⟩ = some (.int .i64 held) ∧ X.cell? ⟨w.heap.size + 1, 3, none⟩ = some (.slice a 0 c) ∧ X.cell? ⟨w.heap.size + 1 + 1, 0, none⟩ = some (.int .i64 4) ∧ X.cell? ⟨w.heap.size + 1 + 1, 1, none⟩ = some (.int .i64 anow) ∧ X.cell? ⟨w.heap.size + 1 + 1, 2, none⟩ = some (.int .i64 acost) ∧ X.cell? ⟨nb, 0, none⟩ = some (.int .i64 aat) ∧ X.cell? ⟨nb, 1, none⟩ = some (.int .i64 alv) ∧ X.cell? ⟨nb, 2, none⟩ = some (.int .i64 ahd) ∧ X.cell? ⟨nb, 3, none⟩ = some (.slice none 0 0) ∧ X.cell? ⟨nb + 1, 0, none⟩ = some (.int .i64 0) ∧ X.cell? ⟨nb + 1, 1, none⟩ = some (.int .i64 0) ∧ X.cell? ⟨nb + 1, 2, none⟩ = some (.int .i64 0) ∧ X.cell? ⟨nb + 1, 3, none⟩ = some (.bool false) ∧ ResB X (w.heap.size + 1 + 1 + 1) ∧ ResB X (nb + 1) ∧ Below w.heap.size w X) ⟨bl_cell (bl_alloc (bl_refl _) _) c0, bl_cell (bl_alloc (bl_refl _) _) c1, bl_cell (bl_alloc (bl_refl _) _) c2, bl_cell (bl_alloc (bl_refl _) _) c3, bl_cell (bl_alloc (bl_refl _) _) c4, bl_cell (bl_alloc (bl_refl _) _) c5, bl_cell (bl_alloc (bl_refl _) _) c6, bl_cell (bl_alloc (bl_refl _) _) c7, bl_cell (bl_alloc (bl_refl _) _) c8, bl_cell (bl_alloc (bl_refl _) _) c9, bl_cell (bl_alloc (bl_refl _) _) c10, bl_cell (bl_alloc (bl_refl _) _) c11, bl_cell (bl_alloc (bl_refl _) _) c12, bl_cell (bl_alloc (bl_refl _) _) x0, bl_cell (bl_alloc (bl_refl _) _) x1, bl_cell (bl_alloc (bl_refl _) _) x2, bl_cell (bl_alloc (bl_refl _) _) x3, bl_cell (bl_alloc (bl_refl _) _) y0, bl_cell (bl_alloc (bl_refl _) _) y1, bl_cell (bl_alloc (bl_refl _) _) y2, bl_cell (bl_alloc (bl_refl _) _) y3, res_bl hR (bl_alloc (bl_refl _) _), res_bl hY (bl_alloc (bl_refl _) _), bl_alloc hB _⟩ ?_
    clear hR hY hB F0 F1 F2 F3 I0 I1 I2 I3 G0 G1 G2 G3 c0 c1 c2 c3 c4 c5 c6 c7 c8 c9 c10 c11 c12 x0 x1 x2 x3 y0 y1 y2 y3
    rintro W2 ⟨c0, c1, c2, c3, c4, c5, c6, c7, c8, c9, c10, c11, c12, x0, x1, x2, x3, y0, y1, y2, y3, hR, hY, hB⟩
    obtain ⟨F0, F1, F2, F3, U0, U1, U2, U3, I0, I1, I2, I3⟩ := res_all hR
    obtain ⟨G0, G1, G2, G3, -⟩ := res_all hY
    have lz : nb + 1 < W2.heap.size := res_lt hY
    have lz' : nb < W2.heap.size := by omega
    have l0 : w.heap.size < W2.heap.size := by omega
    have l1 : w.heap.size + 1 < W2.heap.size := by omega
    have l2 : w.heap.size + 1 + 1 < W2.heap.size := by omega
    have l3 : w.heap.size + 1 + 1 + 1 < W2.heap.size := by omega
    refine Eq.mpr (rounds_succ (n := 1)) ?_
    repeat' (first | go_skip | go_guarded | go_step | go_step3 | go_upon)
    clear lz lz' l0 l1 l2 l3
    refine rounds_abs (F := fun X => X.cell? ⟨w.heap.size, 0, none⟩ = some (.int .i64 k) ∧ X.cell? ⟨w.heap.size, 1, none⟩ = some (.int .i64 l) ∧ X.cell? ⟨w.heap.size, 2, none⟩ = some (.int .i64 d) ∧ X.cell? ⟨w.heap.size, 3, none⟩ = some (.int .i64 b) ∧ X.cell? ⟨w.heap.size, 4, none⟩ = some (.int .i64 cc) ∧ X.cell? ⟨w.heap.size, 5, none⟩ = some (.bool o) ∧ X.cell? ⟨w.heap.size + 1, 0, none⟩ = some (.int .i64 at_) ∧ X.cell? ⟨w.heap.size + 1, 1, none⟩ = some (.int .i64 level) ∧ X.cell? ⟨w.heap.size + 1, 2, none⟩ = some (.int .i64 held) ∧ X.cell? ⟨w.heap.size + 1, 3, none⟩ = some (.slice a 0 c) ∧ X.cell? ⟨w.heap.size + 1 + 1, 0, none⟩ = some (.int .i64 4) ∧ X.cell? ⟨w.heap.size + 1 + 1, 1, none⟩ = some (.int .i64 anow) ∧ X.cell? ⟨w.heap.size + 1 + 1, 2, none⟩ = some (.int .i64 acost) ∧ X.cell? ⟨nb, 0, none⟩ = some (.int .i64 aat) ∧ X.cell? ⟨nb, 1, none⟩ = some (.int .i64 alv) ∧ X.cell? ⟨nb, 2, none⟩ = some (.int .i64 ahd) ∧ X.cell? ⟨nb, 3, none⟩ = some (.slice none 0 0) ∧ X.cell? ⟨nb + 1, 0, none⟩ = some (.int .i64 0) ∧ X.cell? ⟨nb + 1, 1, none⟩ = some (.int .i64 0) ∧ X.cell? ⟨nb + 1, 2, none⟩ = some (.int .i64 0) ∧ X.cell? ⟨nb + 1, 3, none⟩ = some (.bool false) ∧ ResB X (w.heap.size + 1 + 1 + 1) ∧ ResB X (nb + 1) ∧ Below w.heap.size w X) ⟨bl_cell (bl_alloc (bl_refl _) _) c0, bl_cell (bl_alloc (bl_refl _) _) c1, bl_cell (bl_alloc (bl_refl _) _) c2, bl_cell (bl_alloc (bl_refl _) _) c3, bl_cell (bl_alloc (bl_refl _) _) c4, bl_cell (bl_alloc (bl_refl _) _) c5, bl_cell (bl_alloc (bl_refl _) _) c6, bl_cell (bl_alloc (bl_refl _) _) c7, bl_cell (bl_alloc (bl_refl _) _) c8, bl_cell (bl_alloc (bl_refl _) _) c9, bl_cell (bl_alloc (bl_refl _) _) c10, bl_cell (bl_alloc (bl_refl _) _) c11, bl_cell (bl_alloc (bl_refl _) _) c12, bl_cell (bl_alloc (bl_refl _) _) x0, bl_cell (bl_alloc (bl_refl _) _) x1, bl_cell (bl_alloc (bl_refl _) _) x2, bl_cell (bl_alloc (bl_refl _) _) x3, bl_cell (bl_alloc (bl_refl _) _) y0, bl_cell (bl_alloc (bl_refl _) _) y1, bl_cell (bl_alloc (bl_refl _) _) y2, bl_cell (bl_alloc (bl_refl _) _) y3, res_bl hR (bl_alloc (bl_refl _) _), res_bl hY (bl_alloc (bl_refl _) _), bl_alloc hB _⟩ ?_
    clear hR hY hB F0 F1 F2 F3 I0 I1 I2 I3 G0 G1 G2 G3 c0 c1 c2 c3 c4 c5 c6 c7 c8 c9 c10 c11 c12 x0 x1 x2 x3 y0 y1 y2 y3
    rintro W3 ⟨c0, c1, c2, c3, c4, c5, c6, c7, c8, c9, c10, c11, c12, x0, x1, x2, x3, y0, y1, y2, y3, hR, hY, hB⟩
    obtain ⟨F0, F1, F2, F3, U0, U1, U2, U3, I0, I1, I2, I3⟩ := res_all hR
    obtain ⟨G0, G1, G2, G3, -⟩ := res_all hY
    have lz : nb + 1 < W3.heap.size := res_lt hY
    have lz' : nb < W3.heap.size := by omega
    have l0 : w.heap.size < W3.heap.size := by omega
    have l1 : w.heap.size + 1 < W3.heap.size := by omega
    have l2 : w.heap.size + 1 + 1 < W3.heap.size := by omega
    have l3 : w.heap.size + 1 + 1 + 1 < W3.heap.size := by omega
    refine Eq.mpr (rounds_succ (n := 0)) ?_
    repeat' (first | go_skip | go_guarded | go_step | go_step3 | go_upon)
    (try simp only [Exit.inBlock, Exit.then, Exit.noGoto_ret])
    refine bodyPost_ret (results_state2 rfl _ _ (by rfl) (cells4_alloc (set4r (res4 hR)))) rfl ⟨by first | rfl | simp, (bl_alloc (bl4 (bl4 hB (by omega)) (by omega)) _)⟩
  · refine wp_loop_rounds 4 ?_
    refine rounds_abs (F := fun X => X.cell? ⟨w.heap.size, 0, none⟩ = some (.int .i64 k) ∧ X.cell? ⟨w.heap.size, 1, none⟩ = some (.int .i64 l) ∧ X.cell? ⟨w.heap.size, 2, none⟩ = some (.int .i64 d) ∧ X.cell? ⟨w.heap.size, 3, none⟩ = some (.int .i64 b) ∧ X.cell? ⟨w.heap.size, 4, none⟩ = some (.int .i64 cc) ∧ X.cell? ⟨w.heap.size, 5, none⟩ = some (.bool o) ∧ X.cell? ⟨w.heap.size + 1, 0, none⟩ = some (.int .i64 at_) ∧ X.cell? ⟨w.heap.size + 1, 1, none⟩ = some (.int .i64 level) ∧ X.cell? ⟨w.heap.size + 1, 2, none⟩ = some (.int .i64 held) ∧ X.cell? ⟨w.heap.size + 1, 3, none⟩ = some (.slice a 0 c) ∧ X.cell? ⟨w.heap.size + 1 + 1, 0, none⟩ = some (.int .i64 4) ∧ X.cell? ⟨w.heap.size + 1 + 1, 1, none⟩ = some (.int .i64 anow) ∧ X.cell? ⟨w.heap.size + 1 + 1, 2, none⟩ = some (.int .i64 acost) ∧ X.cell? ⟨nb, 0, none⟩ = some (.int .i64 aat) ∧ X.cell? ⟨nb, 1, none⟩ = some (.int .i64 alv) ∧ X.cell? ⟨nb, 2, none⟩ = some (.int .i64 ahd) ∧ X.cell? ⟨nb, 3, none⟩ = some (.slice none 0 0) ∧ X.cell? ⟨nb + 1, 0, none⟩ = some (.int .i64 0) ∧ X.cell? ⟨nb + 1, 1, none⟩ = some (.int .i64 0) ∧ X.cell? ⟨nb + 1, 2, none⟩ = some (.int .i64 0) ∧ X.cell? ⟨nb + 1, 3, none⟩ = some (.bool false) ∧ ResB X (w.heap.size + 1 + 1 + 1) ∧ ResB X (nb + 1) ∧ Below w.heap.size w X) ⟨c0, c1, c2, c3, c4, c5, c6, c7, c8, c9, c10, c11, c12, x0, x1, x2, x3, y0, y1, y2, y3, hR, hY, hB⟩ ?_
    clear hR hY hB F0 F1 F2 F3 I0 I1 I2 I3 G0 G1 G2 G3 c0 c1 c2 c3 c4 c5 c6 c7 c8 c9 c10 c11 c12 x0 x1 x2 x3 y0 y1 y2 y3
    rintro W0 ⟨c0, c1, c2, c3, c4, c5, c6, c7, c8, c9, c10, c11, c12, x0, x1, x2, x3, y0, y1, y2, y3, hR, hY, hB⟩
    obtain ⟨F0, F1, F2, F3, U0, U1, U2, U3, I0, I1, I2, I3⟩ := res_all hR
    obtain ⟨G0, G1, G2, G3, -⟩ := res_all hY
    have lz : nb + 1 < W0.heap.size := res_lt hY
    have lz' : nb < W0.heap.size := by omega
    have l0 : w.heap.size < W0.heap.size := by omega
    have l1 : w.heap.size + 1 < W0.heap.size := by omega
    have l2 : w.heap.size + 1 + 1 < W0.heap.size := by omega
    have l3 : w.heap.size + 1 + 1 + 1 < W0.heap.size := by omega
    refine Eq.mpr (rounds_succ (n := 3)) ?_
    repeat' (first | go_skip | go_guarded | go_step | go_step3 | go_upon)
    clear lz lz' l0 l1 l2 l3
    refine rounds_abs (F := fun X => X.cell? ⟨w.heap.size, 0, none⟩ = some (.int .i64 k) ∧ X.cell? ⟨w.heap.size, 1, none⟩ = some (.int .i64 l) ∧ X.cell? ⟨w.heap.size, 2, none⟩ = some (.int .i64 d) ∧ X.cell? ⟨w.heap.size, 3, none⟩ = some (.int .i64 b) ∧ X.cell? ⟨w.heap.size, 4, none⟩ = some (.int .i64 cc) ∧ X.cell? ⟨w.heap.size, 5, none⟩ = some (.bool o) ∧ X.cell? ⟨w.heap.size + 1, 0, none⟩ = some (.int .i64 at_) ∧ X.cell? ⟨w.heap.size + 1, 1, none⟩ = some (.int .i64 level) ∧ X.cell? ⟨w.heap.size + 1, 2, none⟩ = some (.int .i64 held) ∧ X.cell? ⟨w.heap.size + 1, 3, none⟩ = some (.slice a 0 c) ∧ X.cell? ⟨w.heap.size + 1 + 1, 0, none⟩ = some (.int .i64 4) ∧ X.cell? ⟨w.heap.size + 1 + 1, 1, none⟩ = some (.int .i64 anow) ∧ X.cell? ⟨w.heap.size + 1 + 1, 2, none⟩ = some (.int .i64 acost) ∧ X.cell? ⟨nb, 0, none⟩ = some (.int .i64 aat) ∧ X.cell? ⟨nb, 1, none⟩ = some (.int .i64 alv) ∧ X.cell? ⟨nb, 2, none⟩ = some (.int .i64 ahd) ∧ X.cell? ⟨nb, 3, none⟩ = some (.slice none 0 0) ∧ X.cell? ⟨nb + 1, 0, none⟩ = some (.int .i64 0) ∧ X.cell? ⟨nb + 1, 1, none⟩ = some (.int .i64 0) ∧ X.cell? ⟨nb + 1, 2, none⟩ = some (.int .i64 0) ∧ X.cell? ⟨nb + 1, 3, none⟩ = some (.bool false) ∧ ResB X (w.heap.size + 1 + 1 + 1) ∧ ResB X (nb + 1) ∧ Below w.heap.size w X) ⟨bl_cell (bl_alloc (bl_refl _) _) c0, bl_cell (bl_alloc (bl_refl _) _) c1, bl_cell (bl_alloc (bl_refl _) _) c2, bl_cell (bl_alloc (bl_refl _) _) c3, bl_cell (bl_alloc (bl_refl _) _) c4, bl_cell (bl_alloc (bl_refl _) _) c5, bl_cell (bl_alloc (bl_refl _) _) c6, bl_cell (bl_alloc (bl_refl _) _) c7, bl_cell (bl_alloc (bl_refl _) _) c8, bl_cell (bl_alloc (bl_refl _) _) c9, bl_cell (bl_alloc (bl_refl _) _) c10, bl_cell (bl_alloc (bl_refl _) _) c11, bl_cell (bl_alloc (bl_refl _) _) c12, bl_cell (bl_alloc (bl_refl _) _) x0, bl_cell (bl_alloc (bl_refl _) _) x1, bl_cell (bl_alloc (bl_refl _) _) x2, bl_cell (bl_alloc (bl_refl _) _) x3, bl_cell (bl_alloc (bl_refl _) _) y0, bl_cell (bl_alloc (bl_refl _) _) y1, bl_cell (bl_alloc (bl_refl _) _) y2, bl_cell (bl_alloc (bl_refl _) _) y3, res_bl hR (bl_alloc (bl_refl _) _), res_bl hY (bl_alloc (bl_refl _) _), bl_alloc hB _⟩ ?_
    clear hR hY hB F0 F1 F2 F3 I0 I1 I2 I3 G0 G1 G2 G3 c0 c1 c2 c3 c4 c5 c6 c7 c8 c9 c10 c11 c12 x0 x1 x2 x3 y0 y1 y2 y3
    rintro W1 ⟨c0, c1, c2, c3, c4, c5, c6, c7, c8, c9, c10, c11, c12, x0, x1, x2, x3, y0, y1, y2, y3, hR, hY, hB⟩
    obtain ⟨F0, F1, F2, F3, U0, U1, U2, U3, I0, I1, I2, I3⟩ := res_all hR
    obtain ⟨G0, G1, G2, G3, -⟩ := res_all hY
    have lz : nb + 1 < W1.heap.size := res_lt hY
    have lz' : nb < W1.heap.size := by omega
    have l0 : w.heap.size < W1.heap.size := by omega
    have l1 : w.heap.size + 1 < W1.heap.size := by omega
    have l2 : w.heap.size + 1 + 1 < W1.heap.size := by omega
    have l3 : w.heap.size + 1 + 1 + 1 < W1.heap.size := by omega
    refine Eq.mpr (rounds_succ (n := 2)) ?_
    repeat' (first | go_skip | go_guarded | go_step | go_step3 | go_upon)
    clear lz lz' l0 l1 l2 l3
    refine rounds_abs (F := fun X => X.cell? ⟨w.heap.size, 0, none⟩ = some (.int .i64 k) ∧ X.cell? ⟨w.heap.size, 1, none⟩ = some (.int .i64 l) ∧ X.cell? ⟨w.heap.size, 2, none⟩ = some (.int .i64 d) ∧ X.cell? ⟨w.heap.size, 3, none⟩ = some (.int .i64 b) ∧ X.cell? ⟨w.heap.size, 4, none⟩ = some (.int .i64 cc) ∧ X.cell? ⟨w.heap.size, 5, none⟩ = some (.bool o) ∧ X.cell? ⟨w.heap.size + 1, 0, none⟩ = some (.int .i64 at_) ∧ X.cell? ⟨w.heap.size + 1, 1, none⟩ = some (.int .i64 level) ∧ X.cell? ⟨w.heap.size + 1, 2, none⟩ = some (.int .i64 held) ∧ X.cell? ⟨w.heap.size + 1, 3, none⟩ = some (.slice a 0 c) ∧ X.cell? ⟨w.heap.size + 1 + 1, 0, none⟩ = some (.int .i64 4) ∧ X.cell? ⟨w.heap.size + 1 + 1, 1, none⟩ = some (.int .i64 anow) ∧ X.cell? ⟨w.heap.size + 1 + 1, 2, none⟩ = some (.int .i64 acost) ∧ X.cell? ⟨nb, 0, none⟩ = some (.int .i64 aat) ∧ X.cell? ⟨nb, 1, none⟩ = some (.int .i64 alv) ∧ X.cell? ⟨nb, 2, none⟩ = some (.int .i64 ahd) ∧ X.cell? ⟨nb, 3, none⟩ = some (.slice none 0 0) ∧ X.cell? ⟨nb + 1, 0, none⟩ = some (.int .i64 0) ∧ X.cell? ⟨nb + 1, 1, none⟩ = some (.int .i64 0) ∧ X.cell? ⟨nb + 1, 2, none⟩ = some (.int .i64 0) ∧ X.cell? ⟨nb + 1, 3, none⟩ = some (.bool false) ∧ ResB X (w.heap.size + 1 + 1 + 1) ∧ ResB X (nb + 1) ∧ Below w.heap.size w X) ⟨bl_cell (bl_alloc (bl_refl _) _) c0, bl_cell (bl_alloc (bl_refl _) _) c1, bl_cell (bl_alloc (bl_refl _) _) c2, bl_cell (bl_alloc (bl_refl _) _) c3, bl_cell (bl_alloc (bl_refl _) _) c4, bl_cell (bl_alloc (bl_refl _) _) c5, bl_cell (bl_alloc (bl_refl _) _) c6, bl_cell (bl_alloc (bl_refl _) _) c7, bl_cell (bl_alloc (bl_refl _) _) c8, bl_cell (bl_alloc (bl_refl _) _) c9, bl_cell (bl_alloc (bl_refl _) _) c10, bl_cell (bl_alloc (bl_refl _) _) c11, bl_cell (bl_alloc (bl_refl _) _) c12, bl_cell (bl_alloc (bl_refl _) _) x0, bl_cell (bl_alloc (bl_refl _) _) x1, bl_cell (bl_alloc (bl_refl _) _) x2, bl_cell (bl_alloc (bl_refl _) _) x3, bl_cell (bl_alloc (bl_refl _) _) y0, bl_cell (bl_alloc (bl_refl _) _) y1, bl_cell (bl_alloc (bl_refl _) _) y2, bl_cell (bl_alloc (bl_refl _) _) y3, res_bl hR (bl_alloc (bl_refl _) _), res_bl hY (bl_alloc (bl_refl _) _), bl_alloc hB _⟩ ?_
    clear hR hY hB F0 F1 F2 F3 I0 I1 I2 I3 G0 G1 G2 G3 c0 c1 c2 c3 c4 c5 c6 c7 c8 c9 c10 c11 c12 x0 x1 x2 x3 y0 y1 y2 y3
    rintro W2 ⟨c0, c1, c2, c3, c4, c5, c6, c7, c8, c9, c10, c11, c12, x0, x1, x2, x3, y0, y1, y2, y3, hR, hY, hB⟩
    obtain ⟨F0, F1, F2, F3, U0, U1, U2, U3, I0, I1, I2, I3⟩ := res_all hR
    obtain ⟨G0, G1, G2, G3, -⟩ := res_all hY
    have lz : nb + 1 < W2.heap.size := res_lt hY
    have lz' : nb < W2.heap.size := by omega
    have l0 : w.heap.size < W2.heap.size := by omega
    have l1 : w.heap.size + 1 < W2.heap.size := by omega
    have l2 : w.heap.size + 1 + 1 < W2.heap.size := by omega
    have l3 : w.heap.size + 1 + 1 + 1 < W2.heap.size := by omega
    refine Eq.mpr (rounds_succ (n := 1)) ?_
    repeat' (first | go_skip | go_guarded | go_step | go_step3 | go_upon)
    clear lz lz' l0 l1 l2 l3
    refine rounds_abs (F := fun X => X.cell? ⟨w.heap.size, 0, none⟩ = some (.int .i64 k) ∧ X.cell? ⟨w.heap.size, 1, none⟩ = some (.int .i64 l) ∧ X.cell? ⟨w.heap.size, 2, none⟩ = some (.int .i64 d) ∧ X.cell? ⟨w.heap.size, 3, none⟩ = some (.int .i64 b) ∧ X.cell? ⟨w.heap.size, 4, none⟩ = some (.int .i64 cc) ∧ X.cell? ⟨w.heap.size, 5, none⟩ = some (.bool o) ∧ X.cell? ⟨w.heap.size + 1, 0, none⟩ = some (.int .i64 at_) ∧ X.cell? ⟨w.heap.size + 1, 1, none⟩ = some (.int .i64 level) ∧ X.cell? ⟨w.heap.size + 1, 2, none⟩ = some (.int .i64 held) ∧ X.cell? ⟨w.heap.size + 1, 3, none⟩ = some (.slice a 0 c) ∧ X.cell? ⟨w.heap.size + 1 + 1, 0, none⟩ = some (.int .i64 4) ∧ X.cell? ⟨w.heap.size + 1 + 1, 1, none⟩ = some (.int .i64 anow) ∧ X.cell? ⟨w.heap.size + 1 + 1, 2, none⟩ = some (.int .i64 acost) ∧ X.cell? ⟨nb, 0, none⟩ = some (.int .i64 aat) ∧ X.cell? ⟨nb, 1, none⟩ = some (.int .i64 alv) ∧ X.cell? ⟨nb, 2, none⟩ = some (.int .i64 ahd) ∧ X.cell? ⟨nb, 3, none⟩ = some (.slice none 0 0) ∧ X.cell? ⟨nb + 1, 0, none⟩ = some (.int .i64 0) ∧ X.cell? ⟨nb + 1, 1, none⟩ = some (.int .i64 0) ∧ X.cell? ⟨nb + 1, 2, none⟩ = some (.int .i64 0) ∧ X.cell? ⟨nb + 1, 3, none⟩ = some (.bool false) ∧ ResB X (w.heap.size + 1 + 1 + 1) ∧ ResB X (nb + 1) ∧ Below w.heap.size w X) ⟨bl_cell (bl_alloc (bl_refl _) _) c0, bl_cell (bl_alloc (bl_refl _) _) c1, bl_cell (bl_alloc (bl_refl _) _) c2, bl_cell (bl_alloc (bl_refl _) _) c3, bl_cell (bl_alloc (bl_refl _) _) c4, bl_cell (bl_alloc (bl_refl _) _) c5, bl_cell (bl_alloc (bl_refl _) _) c6, bl_cell (bl_alloc (bl_refl _) _) c7, bl_cell (bl_alloc (bl_refl _) _) c8, bl_cell (bl_alloc (bl_refl _) _) c9, bl_cell (bl_alloc (bl_refl _) _) c10, bl_cell (bl_alloc (bl_refl _) _) c11, bl_cell (bl_alloc (bl_refl _) _) c12, bl_cell (bl_alloc (bl_refl _) _) x0, bl_cell (bl_alloc (bl_refl _) _) x1, bl_cell (bl_alloc (bl_refl _) _) x2, bl_cell (bl_alloc (bl_refl _) _) x3, bl_cell (bl_alloc (bl_refl _) _) y0, bl_cell (bl_alloc (bl_refl _) _) y1, bl_cell (bl_alloc (bl_refl _) _) y2, bl_cell (bl_alloc (bl_refl _) _) y3, res_bl hR (bl_alloc (bl_refl _) _), res_bl hY (bl_alloc (bl_refl _) _), bl_alloc hB _⟩ ?_
    clear hR hY hB F0 F1 F2 F3 I0 I1 I2 I3 G0 G1 G2 G3 c0 c1 c2 c3 c4 c5 c6 c7 c8 c9 c10 c11 c12 x0 x1 x2 x3 y0 y1 y2 y3
    rintro W3 ⟨c0, c1, c2, c3, c4, c5, c6, c7, c8, c9, c10, c11, c12, x0, x1, x2, x3, y0, y1, y2, y3, hR, hY, hB⟩
    obtain ⟨F0, F1, F2, F3, U0, U1, U2, U3, I0, I1, I2, I3⟩ := res_all hR
    obtain ⟨G0, G1, G2, G3, -⟩ := res_all hY
    have lz : nb + 1 < W3.heap.size := res_lt hY
    have lz' : nb < W3.heap.size := by omega
    have l0 : w.heap.size < W3.heap.size := by omega
    have l1 : w.heap.size + 1 < W3.heap.size := by omega
    have l2 : w.heap.size + 1 + 1 < W3.heap.size := by omega
    have l3 : w.heap.size + 1 + 1 + 1 < W3.heap.size := by omega
    refine Eq.mpr (rounds_succ (n := 0)) ?_
    repeat' (first | go_skip | go_guarded | go_step | go_step3 | go_upon)
    (try simp only [Exit.inBlock, Exit.then, Exit.noGoto_ret])
    refine bodyPost_ret (results_state2 rfl _ _ (by rfl) (cells4_alloc (set4r (res4 hR)))) rfl ⟨by first | rfl | simp, (bl_alloc (bl4 (bl4 hB (by omega)) (by omega)) _)⟩

set_option maxHeartbeats 2000000 in
set_option maxRecDepth 100000 in
theorem cdo_5 (p : Pol) (s : St) (a : Option Addr) (c : Nat) (anow acost : Int) (ak : Int) (A : St) (w : World) (h : rightC p s) (hA : A = advC p s anow) (hk1 : ¬ ak = 1) (hk2 : ¬ ak = 2) (hk3 : ¬ ak = 3) (hk4 : ¬ ak = 4) :
    Calls Try.prog 23 #[p.v, s.v a 0 c, .agg #[.int .i64 ak, .int .i64 anow, .int .i64 acost]] w fun e w' =>
      e = .returned (.tuple #[s.v a 0 c, .bool false]) ∧ Below w.heap.size w w' := by
  have hlg := h.2.2.2.2.2.2.2.2
  have hrt := cright_any p s a 0 c (by rw [hlg]; rfl)
  have hav := cadv_any p s a 0 c anow (by rw [hlg]; rfl)
  rw [decide_eq_true h] at hrt
  have hlv := advC_level p s anow h
  rw [← hA] at hav hlv
  obtain ⟨⟨q0, q1, q2, q3, q4, q5, q6⟩, r1, r2, r3, r4, r5, r6, r7, r8⟩ := h
  clear hA
  obtain ⟨k, l, d, b, cc, o⟩ := p
  obtain ⟨at_, level, held, lg⟩ := s
  obtain ⟨aat, alv, ahd, alg⟩ := A
  unfold St.v Pol.v at *
  dsimp only at *
  have hw1 : IntKind.i64.wrap (l - ahd) = l - ahd := IntWalk.i64_in _ (by omega)
  have hw2 : IntKind.i64.wrap (l - ahd - alv) = l - ahd - alv := IntWalk.i64_in _ (by omega)
  have HRT := Go.Lib.hid hrt
  have HAV := Go.Lib.hid hav
  have j0 := idx0
  have j1 := idx1
  have j2 := idx2
  have j3 := idx3
  clear hrt hav hlv q0 q1 q2 q3 q4 q5 q6 r1 r2 r3 r4 r5 r6 r7 r8 hlg
  go_enter Try.func23, Try.ntmps23
  go_wp2_with go_step3
  refine (HRT.out _).mono ?_
  rintro e w1 ⟨rfl, hb⟩
  have hB : Below w.heap.size w w1 := bl_then (bl_alloc (bl_alloc (bl_alloc (bl_alloc (bl_refl _) _) _) _) _) hb
  have c0 := bl_cell (v := .int .i64 k) hb (show World.cell? _ ⟨w.heap.size, 0, none⟩ = _ by go_simp)
  have c1 := bl_cell (v := .int .i64 l) hb (show World.cell? _ ⟨w.heap.size, 1, none⟩ = _ by go_simp)
  have c2 := bl_cell (v := .int .i64 d) hb (show World.cell? _ ⟨w.heap.size, 2, none⟩ = _ by go_simp)
  have c3 := bl_cell (v := .int .i64 b) hb (show World.cell? _ ⟨w.heap.size, 3, none⟩ = _ by go_simp)
  have c4 := bl_cell (v := .int .i64 cc) hb (show World.cell? _ ⟨w.heap.size, 4, none⟩ = _ by go_simp)
  have c5 := bl_cell (v := .bool o) hb (show World.cell? _ ⟨w.heap.size, 5, none⟩ = _ by go_simp)
  have c6 := bl_cell (v := .int .i64 at_) hb (show World.cell? _ ⟨w.heap.size + 1, 0, none⟩ = _ by go_simp)
  have c7 := bl_cell (v := .int .i64 level) hb (show World.cell? _ ⟨w.heap.size + 1, 1, none⟩ = _ by go_simp)
  have c8 := bl_cell (v := .int .i64 held) hb (show World.cell? _ ⟨w.heap.size + 1, 2, none⟩ = _ by go_simp)
  have c9 := bl_cell (v := .slice a 0 c) hb (show World.cell? _ ⟨w.heap.size + 1, 3, none⟩ = _ by go_simp)
  have c10 := bl_cell (v := .int .i64 ak) hb (show World.cell? _ ⟨w.heap.size + 1 + 1, 0, none⟩ = _ by go_simp)
  have c11 := bl_cell (v := .int .i64 anow) hb (show World.cell? _ ⟨w.heap.size + 1 + 1, 1, none⟩ = _ by go_simp)
  have c12 := bl_cell (v := .int .i64 acost) hb (show World.cell? _ ⟨w.heap.size + 1 + 1, 2, none⟩ = _ by go_simp)
  have hR : ResB w1 (w.heap.size + 1 + 1 + 1) := res_bl (res_new _ _ _ _ _ _ (by simp)) hb
  clear hb HRT
  go_wp2_with go_step3
  refine (HAV.out _).mono ?_
  rintro e w2 ⟨rfl, hb⟩
  clear HAV
  have d0 := bl_cell hb c0
  have d1 := bl_cell hb c1
  have d2 := bl_cell hb c2
  have d3 := bl_cell hb c3
  have d4 := bl_cell hb c4
  have d5 := bl_cell hb c5
  have d6 := bl_cell hb c6
  have d7 := bl_cell hb c7
  have d8 := bl_cell hb c8
  have d9 := bl_cell hb c9
  have d10 := bl_cell hb c10
  have d11 := bl_cell hb c11
  have d12 := bl_cell hb c12
  have dR := res_bl hR hb
  have dB := bl_then hB hb
  have hlt := res_lt dR
  clear hR hB hb c0 c1 c2 c3 c4 c5 c6 c7 c8 c9 c10 c11 c12
  go_wp2_with go_step3
  refine (changes_any _).mono ?_
  rintro e w3 ⟨rfl, hb⟩
  have c0 := bl_cell hb (bl_cell (bl_alloc (bl_alloc (bl_refl w2) _) _) d0)
  have c1 := bl_cell hb (bl_cell (bl_alloc (bl_alloc (bl_refl w2) _) _) d1)
  have c2 := bl_cell hb (bl_cell (bl_alloc (bl_alloc (bl_refl w2) _) _) d2)
  have c3 := bl_cell hb (bl_cell (bl_alloc (bl_alloc (bl_refl w2) _) _) d3)
  have c4 := bl_cell hb (bl_cell (bl_alloc (bl_alloc (bl_refl w2) _) _) d4)
  have c5 := bl_cell hb (bl_cell (bl_alloc (bl_alloc (bl_refl w2) _) _) d5)
  have c6 := bl_cell hb (bl_cell (bl_alloc (bl_alloc (bl_refl w2) _) _) d6)
  have c7 := bl_cell hb (bl_cell (bl_alloc (bl_alloc (bl_refl w2) _) _) d7)
  have c8 := bl_cell hb (bl_cell (bl_alloc (bl_alloc (bl_refl w2) _) _) d8)
  have c9 := bl_cell hb (bl_cell (bl_alloc (bl_alloc (bl_refl w2) _) _) d9)
  have c10 := bl_cell hb (bl_cell (bl_alloc (bl_alloc (bl_refl w2) _) _) d10)
  have c11 := bl_cell hb (bl_cell (bl_alloc (bl_alloc (bl_refl w2) _) _) d11)
  have c12 := bl_cell hb (bl_cell (bl_alloc (bl_alloc (bl_refl w2) _) _) d12)
  have hR := res_bl (res_bl dR (bl_alloc (bl_alloc (bl_refl w2) _) _)) hb
  have hB := bl_then (bl_alloc (bl_alloc dB _) _) hb
  have x0 := bl_cell (v := .int .i64 aat) hb (show World.cell? _ ⟨w2.heap.size, 0, none⟩ = _ by go_simp)
  have x1 := bl_cell (v := .int .i64 alv) hb (show World.cell? _ ⟨w2.heap.size, 1, none⟩ = _ by go_simp)
  have x2 := bl_cell (v := .int .i64 ahd) hb (show World.cell? _ ⟨w2.heap.size, 2, none⟩ = _ by go_simp)
  have x3 := bl_cell (v := .slice none 0 0) hb (show World.cell? _ ⟨w2.heap.size, 3, none⟩ = _ by go_simp)
  have y0 := bl_cell (v := .int .i64 0) hb (show World.cell? _ ⟨w2.heap.size + 1, 0, none⟩ = _ by go_simp)
  have y1 := bl_cell (v := .int .i64 0) hb (show World.cell? _ ⟨w2.heap.size + 1, 1, none⟩ = _ by go_simp)
  have y2 := bl_cell (v := .int .i64 0) hb (show World.cell? _ ⟨w2.heap.size + 1, 2, none⟩ = _ by go_simp)
  have y3 := bl_cell (v := .bool false) hb (show World.cell? _ ⟨w2.heap.size + 1, 3, none⟩ = _ by go_simp)
  have hY : ResB w3 (w2.heap.size + 1) := res_bl (res_new _ _ _ _ _ _ (by simp)) hb
  have hlt3 : w2.heap.size + 1 < w3.heap.size := res_lt hY
  generalize w2.heap.size = nb at *
  clear hb dR dB d0 d1 d2 d3 d4 d5 d6 d7 d8 d9 d10 d11 d12
  obtain ⟨F0, F1, F2, F3, U0, U1, U2, U3, I0, I1, I2, I3⟩ := res_all hR
  obtain ⟨G0, G1, G2, G3, V0, V1, V2, V3, -⟩ := res_all hY
  go_wp2_with go_step3
  have n0 : ¬ nb = w.heap.size := by omega
  have m0 : ¬ w.heap.size = nb := by omega
  have n0' : ¬ nb + 1 = w.heap.size := by omega
  have m0' : ¬ w.heap.size = nb + 1 := by omega
  have n1 : ¬ nb = w.heap.size + 1 := by omega
  have m1 : ¬ w.heap.size + 1 = nb := by omega
  have n1' : ¬ nb + 1 = w.heap.size + 1 := by omega
  have m1' : ¬ w.heap.size + 1 = nb + 1 := by omega
  have n2 : ¬ nb = w.heap.size + 1 + 1 := by omega
  have m2 : ¬ w.heap.size + 1 + 1 = nb := by omega
  have n2' : ¬ nb + 1 = w.heap.size + 1 + 1 := by omega
  have m2' : ¬ w.heap.size + 1 + 1 = nb + 1 := by omega
  have n3 : ¬ nb = w.heap.size + 1 + 1 + 1 := by omega
  have m3 : ¬ w.heap.size + 1 + 1 + 1 = nb := by omega
  have n3' : ¬ nb + 1 = w.heap.size + 1 + 1 + 1 := by omega
  have m3' : ¬ w.heap.size + 1 + 1 + 1 = nb + 1 := by omega
  refine wp_loop_rounds 5 ?_
  refine rounds_abs (F := fun X => X.cell? ⟨w.heap.size, 0, none⟩ = some (.int .i64 k) ∧ X.cell? ⟨w.heap.size, 1, none⟩ = some (.int .i64 l) ∧ X.cell? ⟨w.heap.size, 2, none⟩ = some (.int .i64 d) ∧ X.cell? ⟨w.heap.size, 3, none⟩ = some (.int .i64 b) ∧ X.cell? ⟨w.heap.size, 4, none⟩ = some (.int .i64 cc) ∧ X.cell? ⟨w.heap.size, 5, none⟩ = some (.bool o) ∧ X.cell? ⟨w.heap.size + 1, 0, none⟩ = some (.int .i64 at_) ∧ X.cell? ⟨w.heap.size + 1, 1, none⟩ = some (.int .i64 level) ∧ X.cell? ⟨w.heap.size + 1, 2, none⟩ = some (.int .i64 held) ∧ X.cell? ⟨w.heap.size + 1, 3, none⟩ = some (.slice a 0 c) ∧ X.cell? ⟨w.heap.size + 1 + 1, 0, none⟩ = some (.int .i64 ak) ∧ X.cell? ⟨w.heap.size + 1 + 1, 1, none⟩ = some (.int .i64 anow) ∧ X.cell? ⟨w.heap.size + 1 + 1, 2, none⟩ = some (.int .i64 acost) ∧ X.cell? ⟨nb, 0, none⟩ = some (.int .i64 aat) ∧ X.cell? ⟨nb, 1, none⟩ = some (.int .i64 alv) ∧ X.cell? ⟨nb, 2, none⟩ = some (.int .i64 ahd) ∧ X.cell? ⟨nb, 3, none⟩ = some (.slice none 0 0) ∧ X.cell? ⟨nb + 1, 0, none⟩ = some (.int .i64 0) ∧ X.cell? ⟨nb + 1, 1, none⟩ = some (.int .i64 0) ∧ X.cell? ⟨nb + 1, 2, none⟩ = some (.int .i64 0) ∧ X.cell? ⟨nb + 1, 3, none⟩ = some (.bool false) ∧ ResB X (w.heap.size + 1 + 1 + 1) ∧ ResB X (nb + 1) ∧ Below w.heap.size w X) ⟨c0, c1, c2, c3, c4, c5, c6, c7, c8, c9, c10, c11, c12, x0, x1, x2, x3, y0, y1, y2, y3, hR, hY, hB⟩ ?_
  clear hR hY hB F0 F1 F2 F3 I0 I1 I2 I3 G0 G1 G2 G3 c0 c1 c2 c3 c4 c5 c6 c7 c8 c9 c10 c11 c12 x0 x1 x2 x3 y0 y1 y2 y3
  rintro W0 ⟨c0, c1, c2, c3, c4, c5, c6, c7, c8, c9, c10, c11, c12, x0, x1, x2, x3, y0, y1, y2, y3, hR, hY, hB⟩
  obtain ⟨F0, F1, F2, F3, U0, U1, U2, U3, I0, I1, I2, I3⟩ := res_all hR
  obtain ⟨G0, G1, G2, G3, -⟩ := res_all hY
  have lz : nb + 1 < W0.heap.size := res_lt hY
  have lz' : nb < W0.heap.size := by omega
  have l0 : w.heap.size < W0.heap.size := by omega
  have l1 : w.heap.size + 1 < W0.heap.size := by omega
  have l2 : w.heap.size + 1 + 1 < W0.heap.size := by omega
  have l3 : w.heap.size + 1 + 1 + 1 < W0.heap.size := by omega
  refine Eq.mpr (rounds_succ (n := 4)) ?_
  repeat' (first | go_skip | go_guarded | go_step | go_step3 | go_upon)
  clear lz lz' l0 l1 l2 l3
  refine rounds_abs (F := fun X => X.cell? ⟨w.heap.size, 0, none⟩ = some (.int .i64 k) ∧ X.cell? ⟨w.heap.size, 1, none⟩ = some (.int .i64 l) ∧ X.cell? ⟨w.heap.size, 2, none⟩ = some (.int .i64 d) ∧ X.cell? ⟨w.heap.size, 3, none⟩ = some (.int .i64 b) ∧ X.cell? ⟨w.heap.size, 4, none⟩ = some (.int .i64 cc) ∧ X.cell? ⟨w.heap.size, 5, none⟩ = some (.bool o) ∧ X.cell? ⟨w.heap.size + 1, 0, none⟩ = some (.int .i64 at_) ∧ X.cell? ⟨w.heap.size + 1, 1, none⟩ = some (.int .i64 level) ∧ X.cell? ⟨w.heap.size + 1, 2, none⟩ = some (.int .i64 held) ∧ X.cell? ⟨w.heap.size + 1, 3, none⟩ = some (.slice a 0 c) ∧ X.cell? ⟨w.heap.size + 1 + 1, 0, none⟩ = some (.int .i64 ak) ∧ X.cell? ⟨w.heap.size + 1 + 1, 1, none⟩ = some (.int .i64 anow) ∧ X.cell? ⟨w.heap.size + 1 + 1, 2, none⟩ = some (.int .i64 acost) ∧ X.cell? ⟨nb, 0, none⟩ = some (.int .i64 aat) ∧ X.cell? ⟨nb, 1, none⟩ = some (.int .i64 alv) ∧ X.cell? ⟨nb, 2, none⟩ = some (.int .i64 ahd) ∧ X.cell? ⟨nb, 3, none⟩ = some (.slice none 0 0) ∧ X.cell? ⟨nb + 1, 0, none⟩ = some (.int .i64 0) ∧ X.cell? ⟨nb + 1, 1, none⟩ = some (.int .i64 0) ∧ X.cell? ⟨nb + 1, 2, none⟩ = some (.int .i64 0) ∧ X.cell? ⟨nb + 1, 3, none⟩ = some (.bool false) ∧ ResB X (w.heap.size + 1 + 1 + 1) ∧ ResB X (nb + 1) ∧ Below w.heap.size w X) ⟨bl_cell (bl_alloc (bl_refl _) _) c0, bl_cell (bl_alloc (bl_refl _) _) c1, bl_cell (bl_alloc (bl_refl _) _) c2, bl_cell (bl_alloc (bl_refl _) _) c3, bl_cell (bl_alloc (bl_refl _) _) c4, bl_cell (bl_alloc (bl_refl _) _) c5, bl_cell (bl_alloc (bl_refl _) _) c6, bl_cell (bl_alloc (bl_refl _) _) c7, bl_cell (bl_alloc (bl_refl _) _) c8, bl_cell (bl_alloc (bl_refl _) _) c9, bl_cell (bl_alloc (bl_refl _) _) c10, bl_cell (bl_alloc (bl_refl _) _) c11, bl_cell (bl_alloc (bl_refl _) _) c12, bl_cell (bl_alloc (bl_refl _) _) x0, bl_cell (bl_alloc (bl_refl _) _) x1, bl_cell (bl_alloc (bl_refl _) _) x2, bl_cell (bl_alloc (bl_refl _) _) x3, bl_cell (bl_alloc (bl_refl _) _) y0, bl_cell (bl_alloc (bl_refl _) _) y1, bl_cell (bl_alloc (bl_refl _) _) y2, bl_cell (bl_alloc (bl_refl _) _) y3, res_bl hR (bl_alloc (bl_refl _) _), res_bl hY (bl_alloc (bl_refl _) _), bl_alloc hB _⟩ ?_
  clear hR hY hB F0 F1 F2 F3 I0 I1 I2 I3 G0 G1 G2 G3 c0 c1 c2 c3 c4 c5 c6 c7 c8 c9 c10 c11 c12 x0 x1 x2 x3 y0 y1 y2 y3
  rintro W1 ⟨c0, c1, c2, c3, c4, c5, c6, c7, c8, c9, c10, c11, c12, x0, x1, x2, x3, y0, y1, y2, y3, hR, hY, hB⟩
  obtain ⟨F0, F1, F2, F3, U0, U1, U2, U3, I0, I1, I2, I3⟩ := res_all hR
  obtain ⟨G0, G1, G2, G3, -⟩ := res_all hY
  have lz : nb + 1 < W1.heap.size := res_lt hY
  have lz' : nb < W1.heap.size := by omega
  have l0 : w.heap.size < W1.heap.size := by omega
  have l1 : w.heap.size + 1 < W1.heap.size := by omega
  have l2 : w.heap.size + 1 + 1 < W1.heap.size := by omega
  have l3 : w.heap.size + 1 + 1 + 1 < W1.heap.size := by omega
  refine Eq.mpr (rounds_succ (n := 3)) ?_
  repeat' (first | go_skip | go_guarded | go_step | go_step3 | go_upon)
  clear lz lz' l0 l1 l2 l3
  refine rounds_abs (F := fun X => X.cell? ⟨w.heap.size, 0, none⟩ = some (.int .i64 k) ∧ X.cell? ⟨w.heap.size, 1, none⟩ = some (.int .i64 l) ∧ X.cell? ⟨w.heap.size, 2, none⟩ = some (.int .i64 d) ∧ X.cell? ⟨w.heap.size, 3, none⟩ = some (.int .i64 b) ∧ X.cell? ⟨w.heap.size, 4, none⟩ = some (.int .i64 cc) ∧ X.cell? ⟨w.heap.size, 5, none⟩ = some (.bool o) ∧ X.cell? ⟨w.heap.size + 1, 0, none⟩ = some (.int .i64 at_) ∧ X.cell? ⟨w.heap.size + 1, 1, none⟩ = some (.int .i64 level) ∧ X.cell? ⟨w.heap.size + 1, 2, none⟩ = some (.int .i64 held) ∧ X.cell? ⟨w.heap.size + 1, 3, none⟩ = some (.slice a 0 c) ∧ X.cell? ⟨w.heap.size + 1 + 1, 0, none⟩ = some (.int .i64 ak) ∧ X.cell? ⟨w.heap.size + 1 + 1, 1, none⟩ = some (.int .i64 anow) ∧ X.cell? ⟨w.heap.size + 1 + 1, 2, none⟩ = some (.int .i64 acost) ∧ X.cell? ⟨nb, 0, none⟩ = some (.int .i64 aat) ∧ X.cell? ⟨nb, 1, none⟩ = some (.int .i64 alv) ∧ X.cell? ⟨nb, 2, none⟩ = some (.int .i64 ahd) ∧ X.cell? ⟨nb, 3, none⟩ = some (.slice none 0 0) ∧ X.cell? ⟨nb + 1, 0, none⟩ = some (.int .i64 0) ∧ X.cell? ⟨nb + 1, 1, none⟩ = some (.int .i64 0) ∧ X.cell? ⟨nb + 1, 2, none⟩ = some (.int .i64 0) ∧ X.cell? ⟨nb + 1, 3, none⟩ = some (.bool false) ∧ ResB X (w.heap.size + 1 + 1 + 1) ∧ ResB X (nb + 1) ∧ Below w.heap.size w X) ⟨bl_cell (bl_alloc (bl_refl _) _) c0, bl_cell (bl_alloc (bl_refl _) _) c1, bl_cell (bl_alloc (bl_refl _) _) c2, bl_cell (bl_alloc (bl_refl _) _) c3, bl_cell (bl_alloc (bl_refl _) _) c4, bl_cell (bl_alloc (bl_refl _) _) c5, bl_cell (bl_alloc (bl_refl _) _) c6, bl_cell (bl_alloc (bl_refl _) _) c7, bl_cell (bl_alloc (bl_refl _) _) c8, bl_cell (bl_alloc (bl_refl _) _) c9, bl_cell (bl_alloc (bl_refl _) _) c10, bl_cell (bl_alloc (bl_refl _) _) c11, bl_cell (bl_alloc (bl_refl _) _) c12, bl_cell (bl_alloc (bl_refl _) _) x0, bl_cell (bl_alloc (bl_refl _) _) x1, bl_cell (bl_alloc (bl_refl _) _) x2, bl_cell (bl_alloc (bl_refl _) _) x3, bl_cell (bl_alloc (bl_refl _) _) y0, bl_cell (bl_alloc (bl_refl _) _) y1, bl_cell (bl_alloc (bl_refl _) _) y2, bl_cell (bl_alloc (bl_refl _) _) y3, res_bl hR (bl_alloc (bl_refl _) _), res_bl hY (bl_alloc (bl_refl _) _), bl_alloc hB _⟩ ?_
  clear hR hY hB F0 F1 F2 F3 I0 I1 I2 I3 G0 G1 G2 G3 c0 c1 c2 c3 c4 c5 c6 c7 c8 c9 c10 c11 c12 x0 x1 x2 x3 y0 y1 y2 y3
  rintro W2 ⟨c0, c1, c2, c3, c4, c5, c6, c7, c8, c9, c10, c11, c12, x0, x1, x2, x3, y0, y1, y2, y3, hR, hY, hB⟩
  obtain ⟨F0, F1, F2, F3, U0, U1, U2, U3, I0, I1, I2, I3⟩ := res_all hR
  obtain ⟨G0, G1, G2, G3, -⟩ := res_all hY
  have lz : nb + 1 < W2.heap.size := res_lt hY
  have lz' : nb < W2.heap.size := by omega
  have l0 : w.heap.size < W2.heap.size := by omega
  have l1 : w.heap.size + 1 < W2.heap.size := by omega
  have l2 : w.heap.size + 1 + 1 < W2.heap.size := by omega
  have l3 : w.heap.size + 1 + 1 + 1 < W2.heap.size := by omega
  refine Eq.mpr (rounds_succ (n := 2)) ?_
  repeat' (first | go_skip | go_guarded | go_step | go_step3 | go_upon)
  clear lz lz' l0 l1 l2 l3
  refine rounds_abs (F := fun X => X.cell? ⟨w.heap.size, 0, none⟩ = some (.int .i64 k) ∧ X.cell? ⟨w.heap.size, 1, none⟩ = some (.int .i64 l) ∧ X.cell? ⟨w.heap.size, 2, none⟩ = some (.int .i64 d) ∧ X.cell? ⟨w.heap.size, 3, none⟩ = some (.int .i64 b) ∧ X.cell? ⟨w.heap.size, 4, none⟩ = some (.int .i64 cc) ∧ X.cell? ⟨w.heap.size, 5, none⟩ = some (.bool o) ∧ X.cell? ⟨w.heap.size + 1, 0, none⟩ = some (.int .i64 at_) ∧ X.cell? ⟨w.heap.size + 1, 1, none⟩ = some (.int .i64 level) ∧ X.cell? ⟨w.heap.size + 1, 2, none⟩ = some (.int .i64 held) ∧ X.cell? ⟨w.heap.size + 1, 3, none⟩ = some (.slice a 0 c) ∧ X.cell? ⟨w.heap.size + 1 + 1, 0, none⟩ = some (.int .i64 ak) ∧ X.cell? ⟨w.heap.size + 1 + 1, 1, none⟩ = some (.int .i64 anow) ∧ X.cell? ⟨w.heap.size + 1 + 1, 2, none⟩ = some (.int .i64 acost) ∧ X.cell? ⟨nb, 0, none⟩ = some (.int .i64 aat) ∧ X.cell? ⟨nb, 1, none⟩ = some (.int .i64 alv) ∧ X.cell? ⟨nb, 2, none⟩ = some (.int .i64 ahd) ∧ X.cell? ⟨nb, 3, none⟩ = some (.slice none 0 0) ∧ X.cell? ⟨nb + 1, 0, none⟩ = some (.int .i64 0) ∧ X.cell? ⟨nb + 1, 1, none⟩ = some (.int .i64 0) ∧ X.cell? ⟨nb + 1, 2, none⟩ = some (.int .i64 0) ∧ X.cell? ⟨nb + 1, 3, none⟩ = some (.bool false) ∧ ResB X (w.heap.size + 1 + 1 + 1) ∧ ResB X (nb + 1) ∧ Below w.heap.size w X) ⟨bl_cell (bl_alloc (bl_refl _) _) c0, bl_cell (bl_alloc (bl_refl _) _) c1, bl_cell (bl_alloc (bl_refl _) _) c2, bl_cell (bl_alloc (bl_refl _) _) c3, bl_cell (bl_alloc (bl_refl _) _) c4, bl_cell (bl_alloc (bl_refl _) _) c5, bl_cell (bl_alloc (bl_refl _) _) c6, bl_cell (bl_alloc (bl_refl _) _) c7, bl_cell (bl_alloc (bl_refl _) _) c8, bl_cell (bl_alloc (bl_refl _) _) c9, bl_cell (bl_alloc (bl_refl _) _) c10, bl_cell (bl_alloc (bl_refl _) _) c11, bl_cell (bl_alloc (bl_refl _) _) c12, bl_cell (bl_alloc (bl_refl _) _) x0, bl_cell (bl_alloc (bl_refl _) _) x1, bl_cell (bl_alloc (bl_refl _) _) x2, bl_cell (bl_alloc (bl_refl _) _) x3, bl_cell (bl_alloc (bl_refl _) _) y0, bl_cell (bl_alloc (bl_refl _) _) y1, bl_cell (bl_alloc (bl_refl _) _) y2, bl_cell (bl_alloc (bl_refl _) _) y3, res_bl hR (bl_alloc (bl_refl _) _), res_bl hY (bl_alloc (bl_refl _) _), bl_alloc hB _⟩ ?_
  clear hR hY hB F0 F1 F2 F3 I0 I1 I2 I3 G0 G1 G2 G3 c0 c1 c2 c3 c4 c5 c6 c7 c8 c9 c10 c11 c12 x0 x1 x2 x3 y0 y1 y2 y3
  rintro W3 ⟨c0, c1, c2, c3, c4, c5, c6, c7, c8, c9, c10, c11, c12, x0, x1, x2, x3, y0, y1, y2, y3, hR, hY, hB⟩
  obtain ⟨F0, F1, F2, F3, U0, U1, U2, U3, I0, I1, I2, I3⟩ := res_all hR
  obtain ⟨G0, G1, G2, G3, -⟩ := res_all hY
  have lz : nb + 1 < W3.heap.size := res_lt hY
  have lz' : nb < W3.heap.size := by omega
  have l0 : w.heap.size < W3.heap.size := by omega
  have l1 : w.heap.size + 1 < W3.heap.size := by omega
  have l2 : w.heap.size + 1 + 1 < W3.heap.size := by omega
  have l3 : w.heap.size + 1 + 1 + 1 < W3.heap.size := by omega
  refine Eq.mpr (rounds_succ (n := 1)) ?_
  repeat' (first | go_skip | go_guarded | go_step | go_step3 | go_upon)
  clear lz lz' l0 l1 l2 l3
  refine rounds_abs (F := fun X => X.cell? ⟨w.heap.size, 0, none⟩ = some (.int .i64 k) ∧ X.cell? ⟨w.heap.size, 1, none⟩ = some (.int .i64 l) ∧ X.cell? ⟨w.heap.size, 2, none⟩ = some (.int .i64 d) ∧ X.cell? ⟨w.heap.size, 3, none⟩ = some (.int .i64 b) ∧ X.cell? ⟨w.heap.size, 4, none⟩ = some (.int .i64 cc) ∧ X.cell? ⟨w.heap.size, 5, none⟩ = some (.bool o) ∧ X.cell? ⟨w.heap.size + 1, 0, none⟩ = some (.int .i64 at_) ∧ X.cell? ⟨w.heap.size + 1, 1, none⟩ = some (.int .i64 level) ∧ X.cell? ⟨w.heap.size + 1, 2, none⟩ = some (.int .i64 held) ∧ X.cell? ⟨w.heap.size + 1, 3, none⟩ = some (.slice a 0 c) ∧ X.cell? ⟨w.heap.size + 1 + 1, 0, none⟩ = some (.int .i64 ak) ∧ X.cell? ⟨w.heap.size + 1 + 1, 1, none⟩ = some (.int .i64 anow) ∧ X.cell? ⟨w.heap.size + 1 + 1, 2, none⟩ = some (.int .i64 acost) ∧ X.cell? ⟨nb, 0, none⟩ = some (.int .i64 aat) ∧ X.cell? ⟨nb, 1, none⟩ = some (.int .i64 alv) ∧ X.cell? ⟨nb, 2, none⟩ = some (.int .i64 ahd) ∧ X.cell? ⟨nb, 3, none⟩ = some (.slice none 0 0) ∧ X.cell? ⟨nb + 1, 0, none⟩ = some (.int .i64 0) ∧ X.cell? ⟨nb + 1, 1, none⟩ = some (.int .i64 0) ∧ X.cell? ⟨nb + 1, 2, none⟩ = some (.int .i64 0) ∧ X.cell? ⟨nb + 1, 3, none⟩ = some (.bool false) ∧ ResB X (w.heap.size + 1 + 1 + 1) ∧ ResB X (nb + 1) ∧ Below w.heap.size w X) ⟨bl_cell (bl_alloc (bl_refl _) _) c0, bl_cell (bl_alloc (bl_refl _) _) c1, bl_cell (bl_alloc (bl_refl _) _) c2, bl_cell (bl_alloc (bl_refl _) _) c3, bl_cell (bl_alloc (bl_refl _) _) c4, bl_cell (bl_alloc (bl_refl _) _) c5, bl_cell (bl_alloc (bl_refl _) _) c6, bl_cell (bl_alloc (bl_refl _) _) c7, bl_cell (bl_alloc (bl_refl _) _) c8, bl_cell (bl_alloc (bl_refl _) _) c9, bl_cell (bl_alloc (bl_refl _) _) c10, bl_cell (bl_alloc (bl_refl _) _) c11, bl_cell (bl_alloc (bl_refl _) _) c12, bl_cell (bl_alloc (bl_refl _) _) x0, bl_cell (bl_alloc (bl_refl _) _) x1, bl_cell (bl_alloc (bl_refl _) _) x2, bl_cell (bl_alloc (bl_refl _) _) x3, bl_cell (bl_alloc (bl_refl _) _) y0, bl_cell (bl_alloc (bl_refl _) _) y1, bl_cell (bl_alloc (bl_refl _) _) y2, bl_cell (bl_alloc (bl_refl _) _) y3, res_bl hR (bl_alloc (bl_refl _) _), res_bl hY (bl_alloc (bl_refl _) _), bl_alloc hB _⟩ ?_
  clear hR hY hB F0 F1 F2 F3 I0 I1 I2 I3 G0 G1 G2 G3 c0 c1 c2 c3 c4 c5 c6 c7 c8 c9 c10 c11 c12 x0 x1 x2 x3 y0 y1 y2 y3
  rintro W4 ⟨c0, c1, c2, c3, c4, c5, c6, c7, c8, c9, c10, c11, c12, x0, x1, x2, x3, y0, y1, y2, y3, hR, hY, hB⟩
  obtain ⟨F0, F1, F2, F3, U0, U1, U2, U3, I0, I1, I2, I3⟩ := res_all hR
  obtain ⟨G0, G1, G2, G3, -⟩ := res_all hY
  have lz : nb + 1 < W4.heap.size := res_lt hY
  have lz' : nb < W4.heap.size := by omega
  have l0 : w.heap.size < W4.heap.size := by omega
  have l1 : w.heap.size + 1 < W4.heap.size := by omega
  have l2 : w.heap.size + 1 + 1 < W4.heap.size := by omega
  have l3 : w.heap.size + 1 + 1 + 1 < W4.heap.size := by omega
  refine Eq.mpr (rounds_succ (n := 0)) ?_
  repeat' (first | go_skip | go_guarded | go_step | go_step3 | go_upon)
  (try simp only [Exit.inBlock, Exit.then, Exit.noGoto_ret])
  refine bodyPost_ret (results_state2 rfl _ _ (by rfl) (set4r hR)) rfl ⟨by first | rfl | simp, (bl4 hB (by omega))⟩

end Go.Proofs.Ythinbjknkjpdjaa

namespace Go.Proofs.Ythinbjknkjpdjaa
open Go.RowKit
set_option linter.unusedVariables false
set_option linter.unusedSimpArgs false

set_option maxHeartbeats 2000000 in
set_option maxRecDepth 100000 in
theorem wdo_take (p : Pol) (s : St) (a : Option Addr) (n c : Nat) (anow acost : Int) (A : St) (w : World) (h : rightL p s) (hlog : LogAt w a n c s.log) (hA : A = advL p s anow) (e1 : 1 ≤ acost) (e2 : acost ≤ p.limit - s.held - sumL A.log) :
    Calls Try.prog 21 #[p.v, s.v a n c, .agg #[.int .i64 1, .int .i64 anow, .int .i64 acost]] w fun e w' => StOwn2 (noted p A acost, true) w.heap.size e w' ∧ Below w.heap.size w w' := by
  have hrt := fun W hW => wright_any p s a n c W hW
  rw [decide_eq_true h] at hrt
  have hav := fun a1 c1 W hW => wadv_any p s a1 n c1 anow W hW
  have hall := risen_all h.2.2.2.2.2.2.1
  have hsub := live_sub p.period (up s.at_ (clampT anow)) s.log
  have hssum := live_sum p.period (up s.at_ (clampT anow)) s.log (fun e he => by have := (hall e he).1; omega)
  have hAe : A.log = live p.period (up s.at_ (clampT anow)) s.log ∧ A.level = 0 ∧ A.held = s.held := by rw [hA]; unfold advL; rw [if_pos h]; exact ⟨rfl, rfl, rfl⟩
  rw [← hA] at hav
  rw [← hAe.1] at hsub hssum
  obtain ⟨⟨q0, q1, q2, q3, q4, q5, q6, q7⟩, r1, r2, r3, r4, r5, r6, r7, r8⟩ := h
  have hlen := hlog.1
  have hsb := sumL_bound A.log 1048576 (fun e he => by have := hall e (hsub.1 e he); omega)
  have hn1 : n ≤ 100 := by omega
  have hent : ∀ e ∈ A.log, 0 ≤ e.2 ∧ e.2 ≤ 1048576 := fun e he => by have := hall e (hsub.1 e he); omega
  have hw1 : IntKind.i64.wrap (p.limit - s.held) = p.limit - s.held := IntWalk.i64_in _ (by omega)
  have hw2 : IntKind.i64.wrap (p.limit - s.held - sumL A.log) = p.limit - s.held - sumL A.log := IntWalk.i64_in _ (by omega)
  have hcost : 0 ≤ acost ∧ acost ≤ 1048576 := by omega
  have hsum := fun a2 m2 c2 W (hW : LogAt W a2 m2 c2 A.log) => sum_any a2 m2 c2 A.log W hW (by have := hW.1; have := hsub.2; omega) hent
  have HX := Go.Lib.hid (And.intro hn1 (And.intro hent (And.intro hsub.2 hlen)))
  clear hall hsb hsub hssum hent hA r1 r2 r3 r4 r6 r7 r8 q0 q1 q2 q3 q4 q5 q6 q7
  obtain ⟨k, l, d, b, cc, o⟩ := p
  obtain ⟨at_, level, held, L⟩ := s
  obtain ⟨aat, alv, ahd, L2⟩ := A
  obtain ⟨-, hz1, hz2⟩ := hAe
  unfold St.v Pol.v at *
  dsimp only at *
  subst hz1 hz2 r5
  have HRT := Go.Lib.hid hrt
  have HAV := Go.Lib.hid hav
  have HSM := Go.Lib.hid hsum
  have HLOG := Go.Lib.hid hlog
  clear hrt hav hsum hlog hlen hn1
  generalize hS2 : sumL L2 = S2 at *
  clear hS2
  have hnote := fun a2 m2 c2 base W (hb0 : base ≤ W.heap.size) (hW : OwnLog W base (.slice a2 m2 c2) m2 L2) => note_any ⟨k, l, d, b, cc, o⟩ ⟨aat, 0, ahd, L2⟩ a2 m2 c2 acost base W hb0 hW (by have h1 := hW.1; have h2 := HX.out.1; have h3 := HX.out.2.2.1; have h4 := HX.out.2.2.2; rw [cellsL_len] at h1; omega) HX.out.2.1 hcost
  unfold St.v Pol.v at hnote
  dsimp only at hnote
  have HNT := Go.Lib.hid hnote
  clear hnote
  go_enter Try.func21, Try.ntmps21
  go_wp2_with fail
  refine (HRT.out _ (log_bl HLOG.out (bl_alloc (bl_alloc (bl_alloc (bl_alloc (bl_refl _) _) _) _) _))).mono ?_
  rintro e w1 ⟨rfl, hb⟩
  have hB : Below w.heap.size w w1 := bl_then (bl_alloc (bl_alloc (bl_alloc (bl_alloc (bl_refl _) _) _) _) _) hb
  have c0 := bl_cell (v := .int .i64 k) hb (show World.cell? _ ⟨w.heap.size, 0, none⟩ = _ by go_simp)
  have c1 := bl_cell (v := .int .i64 l) hb (show World.cell? _ ⟨w.heap.size, 1, none⟩ = _ by go_simp)
  have c2 := bl_cell (v := .int .i64 d) hb (show World.cell? _ ⟨w.heap.size, 2, none⟩ = _ by go_simp)
  have c3 := bl_cell (v := .int .i64 b) hb (show World.cell? _ ⟨w.heap.size, 3, none⟩ = _ by go_simp)
  have c4 := bl_cell (v := .int .i64 cc) hb (show World.cell? _ ⟨w.heap.size, 4, none⟩ = _ by go_simp)
  have c5 := bl_cell (v := .bool o) hb (show World.cell? _ ⟨w.heap.size, 5, none⟩ = _ by go_simp)
  have c6 := bl_cell (v := .int .i64 at_) hb (show World.cell? _ ⟨w.heap.size + 1, 0, none⟩ = _ by go_simp)
  have c7 := bl_cell (v := .int .i64 0) hb (show World.cell? _ ⟨w.heap.size + 1, 1, none⟩ = _ by go_simp)
  have c8 := bl_cell (v := .int .i64 ahd) hb (show World.cell? _ ⟨w.heap.size + 1, 2, none⟩ = _ by go_simp)
  have c9 := bl_cell (v := .slice a n c) hb (show World.cell? _ ⟨w.heap.size + 1, 3, none⟩ = _ by go_simp)
  have c10 := bl_cell (v := .int .i64 1) hb (show World.cell? _ ⟨w.heap.size + 1 + 1, 0, none⟩ = _ by go_simp)
  have c11 := bl_cell (v := .int .i64 anow) hb (show World.cell? _ ⟨w.heap.size + 1 + 1, 1, none⟩ = _ by go_simp)
  have c12 := bl_cell (v := .int .i64 acost) hb (show World.cell? _ ⟨w.heap.size + 1 + 1, 2, none⟩ = _ by go_simp)
  have hR : ResB w1 (w.heap.size + 1 + 1 + 1) := res_bl (res_new _ _ _ _ _ _ (by simp)) hb
  have hQ : ResB w1 (w.heap.size + 1) := res_bl (res_bl (res_new (w.alloc _) _ _ _ _ _ (by simp)) (bl_alloc (bl_alloc (bl_refl _) _) _)) hb
  have hlg1 := log_bl HLOG.out hB
  clear hb HRT HLOG
  go_wp2_with fail
  refine (clone_all _ _ _ _ _ hlg1 (by have := HX.out.1; omega)).mono ?_
  rintro e w2 ⟨v1, rfl, hown1, hb⟩
  obtain ⟨a1, cp1, rfl, hlog1⟩ := own_log hown1
  have d0 := bl_cell hb c0
  have d1 := bl_cell hb c1
  have d2 := bl_cell hb c2
  have d3 := bl_cell hb c3
  have d4 := bl_cell hb c4
  have d5 := bl_cell hb c5
  have d6 := bl_cell hb c6
  have d7 := bl_cell hb c7
  have d8 := bl_cell hb c8
  have d9 := bl_cell hb c9
  have d10 := bl_cell hb c10
  have d11 := bl_cell hb c11
  have d12 := bl_cell hb c12
  have dR := res_bl hR hb
  have dQ := res_bl hQ hb
  have dB := bl_then hB hb
  have hlt1 := res_lt hR
  have fz := (dQ 3 (by omega)).1
  clear hR hQ hB hb hlg1 c0 c1 c2 c3 c4 c5 c6 c7 c8 c9 c10 c11 c12
  go_wp2_with fail
  have hown1' := own_far hown1 ⟨w.heap.size + 1, 3, none⟩ (.slice a1 n cp1) (own_above hown1 (by dsimp only; omega))
  refine (HAV.out _ _ _ (own_at hown1')).mono ?_
  rintro e w3 ⟨⟨v2, m2, rfl, hown2⟩, hb⟩
  obtain ⟨a2, cp2, rfl, hlog2⟩ := own_log hown2
  have c0 := bl_cell hb (far_set d0 ⟨w.heap.size + 1, 3, none⟩ (.slice a1 n cp1) (by dsimp only; omega))
  have c1 := bl_cell hb (far_set d1 ⟨w.heap.size + 1, 3, none⟩ (.slice a1 n cp1) (by dsimp only; omega))
  have c2 := bl_cell hb (far_set d2 ⟨w.heap.size + 1, 3, none⟩ (.slice a1 n cp1) (by dsimp only; omega))
  have c3 := bl_cell hb (far_set d3 ⟨w.heap.size + 1, 3, none⟩ (.slice a1 n cp1) (by dsimp only; omega))
  have c4 := bl_cell hb (far_set d4 ⟨w.heap.size + 1, 3, none⟩ (.slice a1 n cp1) (by dsimp only; omega))
  have c5 := bl_cell hb (far_set d5 ⟨w.heap.size + 1, 3, none⟩ (.slice a1 n cp1) (by dsimp only; omega))
  have c6 := bl_cell hb (set_other (a := ⟨w.heap.size + 1, 3, none⟩) d6 (.slice a1 n cp1) (by simp))
  have c7 := bl_cell hb (set_other (a := ⟨w.heap.size + 1, 3, none⟩) d7 (.slice a1 n cp1) (by simp))
  have c8 := bl_cell hb (set_other (a := ⟨w.heap.size + 1, 3, none⟩) d8 (.slice a1 n cp1) (by simp))
  have c9 : w3.cell? ⟨w.heap.size + 1, 3, none⟩ = some (.slice a1 n cp1) := bl_cell hb (World.cell?_setCell_same' _ _ _ (by rw [d9]; rfl))
  have c10 := bl_cell hb (far_set d10 ⟨w.heap.size + 1, 3, none⟩ (.slice a1 n cp1) (by dsimp only; omega))
  have c11 := bl_cell hb (far_set d11 ⟨w.heap.size + 1, 3, none⟩ (.slice a1 n cp1) (by dsimp only; omega))
  have c12 := bl_cell hb (far_set d12 ⟨w.heap.size + 1, 3, none⟩ (.slice a1 n cp1) (by dsimp only; omega))
  have hR := res_bl (res_set dR ⟨w.heap.size + 1, 3, none⟩ (.slice a1 n cp1)) hb
  have hB := bl_then (bl_set dB (a := ⟨w.heap.size + 1, 3, none⟩) (by dsimp only; omega) (.slice a1 n cp1)) hb
  have hO1 := own_bl hown1' hb
  have hlt2 := res_lt (res_set dR ⟨w.heap.size + 1, 3, none⟩ (.slice a1 n cp1))
  have hle3 := hb.size
  have HV2 := Go.Lib.hid (World.ownsRow.lt hown2)
  have hle1 := hlt1
  generalize (w2.setCell ⟨w.heap.size + 1, 3, none⟩ (.slice a1 n cp1)).heap.size = base2 at *
  clear hb dR dQ dB hown1 hown1' hlog1 hlog2 HAV d0 d1 d2 d3 d4 d5 d6 d7 d8 d9 d10 d11 d12
  dsimp only
  go_wp2_with fail
  refine wp_abs (S0 := fun X => X.cell? ⟨w.heap.size, 0, none⟩ = some (.int .i64 k) ∧ X.cell? ⟨w.heap.size, 1, none⟩ = some (.int .i64 l) ∧ X.cell? ⟨w.heap.size, 2, none⟩ = some (.int .i64 d) ∧ X.cell? ⟨w.heap.size, 3, none⟩ = some (.int .i64 b) ∧ X.cell? ⟨w.heap.size, 4, none⟩ = some (.int .i64 cc) ∧ X.cell? ⟨w.heap.size, 5, none⟩ = some (.bool o) ∧ X.cell? ⟨w.heap.size + 1, 0, none⟩ = some (.int .i64 at_) ∧ X.cell? ⟨w.heap.size + 1, 1, none⟩ = some (.int .i64 0) ∧ X.cell? ⟨w.heap.size + 1, 2, none⟩ = some (.int .i64 ahd) ∧ X.cell? ⟨w.heap.size + 1, 3, none⟩ = some (.slice a1 n cp1) ∧ X.cell? ⟨w.heap.size + 1 + 1, 0, none⟩ = some (.int .i64 1) ∧ X.cell? ⟨w.heap.size + 1 + 1, 1, none⟩ = some (.int .i64 anow) ∧ X.cell? ⟨w.heap.size + 1 + 1, 2, none⟩ = some (.int .i64 acost) ∧ X.cell? ⟨w3.heap.size, 0, none⟩ = some (.int .i64 aat) ∧ X.cell? ⟨w3.heap.size, 1, none⟩ = some (.int .i64 0) ∧ X.cell? ⟨w3.heap.size, 2, none⟩ = some (.int .i64 ahd) ∧ X.cell? ⟨w3.heap.size, 3, none⟩ = some (.slice a2 m2 cp2) ∧ ResB X (w.heap.size + 1 + 1 + 1) ∧ ResB X w3.heap.size ∧ OwnLog X w1.heap.size (.slice a1 n cp1) n L ∧ OwnLog X base2 (.slice a2 m2 cp2) m2 L2 ∧ Below w.heap.size w X) ⟨bl_cell (bl_alloc (bl_refl _) _) c0, bl_cell (bl_alloc (bl_refl _) _) c1, bl_cell (bl_alloc (bl_refl _) _) c2, bl_cell (bl_alloc (bl_refl _) _) c3, bl_cell (bl_alloc (bl_refl _) _) c4, bl_cell (bl_alloc (bl_refl _) _) c5, bl_cell (bl_alloc (bl_refl _) _) c6, bl_cell (bl_alloc (bl_refl _) _) c7, bl_cell (bl_alloc (bl_refl _) _) c8, bl_cell (bl_alloc (bl_refl _) _) c9, bl_cell (bl_alloc (bl_refl _) _) c10, bl_cell (bl_alloc (bl_refl _) _) c11, bl_cell (bl_alloc (bl_refl _) _) c12, by go_simp, by go_simp, by go_simp, by go_simp, res_bl hR (bl_alloc (bl_refl _) _), res_new _ _ _ _ _ _ rfl, World.ownsRow.alloc hO1 _, World.ownsRow.alloc hown2 _, bl_alloc hB _⟩ ?_
  clear hR hO1 hown2 hB c0 c1 c2 c3 c4 c5 c6 c7 c8 c9 c10 c11 c12
  generalize w3.heap.size = nb at *
  rintro X ⟨c0, c1, c2, c3, c4, c5, c6, c7, c8, c9, c10, c11, c12, x0, x1, x2, x3, hR, hN, hO1, hO2, hB⟩
  refine wp_region_held_drew (S := fun w' => w'.cell? ⟨w.heap.size, 0, none⟩ = some (.int .i64 k) ∧ w'.cell? ⟨w.heap.size, 1, none⟩ = some (.int .i64 l) ∧ w'.cell? ⟨w.heap.size, 2, none⟩ = some (.int .i64 d) ∧ w'.cell? ⟨w.heap.size, 3, none⟩ = some (.int .i64 b) ∧ w'.cell? ⟨w.heap.size, 4, none⟩ = some (.int .i64 cc) ∧ w'.cell? ⟨w.heap.size, 5, none⟩ = some (.bool o) ∧ w'.cell? ⟨w.heap.size + 1, 0, none⟩ = some (.int .i64 at_) ∧ w'.cell? ⟨w.heap.size + 1, 1, none⟩ = some (.int .i64 0) ∧ w'.cell? ⟨w.heap.size + 1, 2, none⟩ = some (.int .i64 ahd) ∧ w'.cell? ⟨w.heap.size + 1, 3, none⟩ = some (.slice a1 n cp1) ∧ w'.cell? ⟨w.heap.size + 1 + 1, 0, none⟩ = some (.int .i64 1) ∧ w'.cell? ⟨w.heap.size + 1 + 1, 1, none⟩ = some (.int .i64 anow) ∧ w'.cell? ⟨w.heap.size + 1 + 1, 2, none⟩ = some (.int .i64 acost) ∧ w'.cell? ⟨nb, 0, none⟩ = some (.int .i64 aat) ∧ w'.cell? ⟨nb, 1, none⟩ = some (.int .i64 0) ∧ w'.cell? ⟨nb, 2, none⟩ = some (.int .i64 ahd) ∧ w'.cell? ⟨nb, 3, none⟩ = some (.slice a2 m2 cp2) ∧ ResB w' (w.heap.size + 1 + 1 + 1) ∧ ResB w' nb ∧ OwnLog w' w1.heap.size (.slice a1 n cp1) n L ∧ OwnLog w' base2 (.slice a2 m2 cp2) m2 L2 ∧ Below w.heap.size w w') (by kernel_rfl) ?_ (fun hHeld => ?_)
  · exact ⟨c0, c1, c2, c3, c4, c5, c6, c7, c8, c9, c10, c11, c12, x0, x1, x2, x3, hR, hN, hO1, hO2, bl_drew hB⟩
  try simp only [Act.put, List.setIfInBounds_toArray, List.set_cons_zero, List.set_cons_succ]
  (refine tk (i := 0) rfl rfl hHeld ?_)
  (refine tk (i := 1) rfl rfl hHeld ?_)
  (refine tk (i := 2) rfl rfl hHeld ?_)
  (refine tk (i := 3) rfl rfl hHeld ?_)
  (refine tk (i := 4) rfl rfl hHeld ?_)
  (refine tk (i := 5) rfl rfl hHeld ?_)
  (refine tk (i := 6) rfl rfl hHeld ?_)
  (refine callH (i := 7) rfl hHeld (fun W hW K hK => ?_); clear hHeld; (try dsimp only at hW); obtain ⟨h0, h1, h2, h3, h4, h5, h6, h7, h8, h9, h10, h11, h12, y0, y1, y2, y3, hr', hn', ho1', ho2', hB'⟩ := hW; go_simp; refine (HSM.out _ _ _ _ (own_at ho2')).mono ?_; rintro e w9 ⟨rfl, hb⟩; go_wp2_with fail; refine hK.out _ _ ?_ (fun hHeld => ?_); (focus ((try dsimp only); exact ⟨bl_cell hb h0, bl_cell hb h1, bl_cell hb h2, bl_cell hb h3, bl_cell hb h4, bl_cell hb h5, bl_cell hb h6, bl_cell hb h7, bl_cell hb h8, bl_cell hb h9, bl_cell hb h10, bl_cell hb h11, bl_cell hb h12, bl_cell hb y0, bl_cell hb y1, bl_cell hb y2, bl_cell hb y3, res_bl hr' hb, res_bl hn' hb, own_bl ho1' hb, own_bl ho2' hb, bl_then hB' hb⟩)); clear hK K; try simp only [Act.put, List.setIfInBounds_toArray, List.set_cons_zero, List.set_cons_succ])
  (refine tk (i := 8) rfl rfl hHeld ?_)
  (refine tk (i := 9) rfl rfl hHeld ?_)
  refine wpAnyH_done (by kernel_rfl) ?_ _
  refine then_abs (F := fun X => X.cell? ⟨w.heap.size, 0, none⟩ = some (.int .i64 k) ∧ X.cell? ⟨w.heap.size, 1, none⟩ = some (.int .i64 l) ∧ X.cell? ⟨w.heap.size, 2, none⟩ = some (.int .i64 d) ∧ X.cell? ⟨w.heap.size, 3, none⟩ = some (.int .i64 b) ∧ X.cell? ⟨w.heap.size, 4, none⟩ = some (.int .i64 cc) ∧ X.cell? ⟨w.heap.size, 5, none⟩ = some (.bool o) ∧ X.cell? ⟨w.heap.size + 1, 0, none⟩ = some (.int .i64 at_) ∧ X.cell? ⟨w.heap.size + 1, 1, none⟩ = some (.int .i64 0) ∧ X.cell? ⟨w.heap.size + 1, 2, none⟩ = some (.int .i64 ahd) ∧ X.cell? ⟨w.heap.size + 1, 3, none⟩ = some (.slice a1 n cp1) ∧ X.cell? ⟨w.heap.size + 1 + 1, 0, none⟩ = some (.int .i64 1) ∧ X.cell? ⟨w.heap.size + 1 + 1, 1, none⟩ = some (.int .i64 anow) ∧ X.cell? ⟨w.heap.size + 1 + 1, 2, none⟩ = some (.int .i64 acost) ∧ X.cell? ⟨nb, 0, none⟩ = some (.int .i64 aat) ∧ X.cell? ⟨nb, 1, none⟩ = some (.int .i64 0) ∧ X.cell? ⟨nb, 2, none⟩ = some (.int .i64 ahd) ∧ X.cell? ⟨nb, 3, none⟩ = some (.slice a2 m2 cp2) ∧ ResB X (w.heap.size + 1 + 1 + 1) ∧ ResB X nb ∧ OwnLog X w1.heap.size (.slice a1 n cp1) n L ∧ OwnLog X base2 (.slice a2 m2 cp2) m2 L2 ∧ Below w.heap.size w X) hHeld ?_
  clear hHeld hR hN hO1 hO2 hB c0 c1 c2 c3 c4 c5 c6 c7 c8 c9 c10 c11 c12 x0 x1 x2 x3
  rintro Y ⟨c0, c1, c2, c3, c4, c5, c6, c7, c8, c9, c10, c11, c12, x0, x1, x2, x3, hR, hN, hO1, hO2, hE⟩
  obtain ⟨F0, F1, F2, F3, U0, U1, U2, U3, I0, I1, I2, I3⟩ := res_all hR
  have hz2 := (hN 2 (by omega)).1
  have n0 : ¬ nb = w.heap.size := by omega
  have m0' : ¬ w.heap.size = nb := by omega
  have n1 : ¬ nb = w.heap.size + 1 := by omega
  have m1' : ¬ w.heap.size + 1 = nb := by omega
  have n2 : ¬ nb = w.heap.size + 1 + 1 := by omega
  have m2' : ¬ w.heap.size + 1 + 1 = nb := by omega
  have n3 : ¬ nb = w.heap.size + 1 + 1 + 1 := by omega
  have m3' : ¬ w.heap.size + 1 + 1 + 1 = nb := by omega
  go_wp2_with fail
  refine (HNT.out _ _ _ base2 _ (by have := res_lt hN; omega) hO2).mono ?_
  rintro e w6 ⟨v6, m6, rfl, hown6, hb6⟩
  obtain ⟨a6, cp6, rfl, -⟩ := own_log hown6
  have hR6 := res_blB hR hb6 (by omega)
  have hE6 : Below w.heap.size w w6 := (hE).trans (hb6.mono (by omega))
  obtain ⟨G0, G1, G2, G3, V0, V1, V2, V3, J0, J1, J2, J3⟩ := res_all hR6
  dsimp only
  go_wp2_with fail
  (try simp only [Exit.inBlock, Exit.then])
  refine bodyPost_ret (results_state2 rfl _ _ (by rfl) (set4r hR6)) rfl ⟨⟨_, _, by first | rfl | simp, own_mono (own_far4 hown6 (own_above hown6 (by omega))) (by omega)⟩, bl4 hE6 (by omega)⟩

set_option maxHeartbeats 2000000 in
set_option maxRecDepth 100000 in
theorem wdo_hold (p : Pol) (s : St) (a : Option Addr) (n c : Nat) (anow acost : Int) (A : St) (w : World) (h : rightL p s) (hlog : LogAt w a n c s.log) (hA : A = advL p s anow) (e1 : 1 ≤ acost) (e2 : acost ≤ p.limit - s.held - sumL A.log) :
    Calls Try.prog 21 #[p.v, s.v a n c, .agg #[.int .i64 2, .int .i64 anow, .int .i64 acost]] w fun e w' => StOwn2 ({ A with held := s.held + acost }, true) w.heap.size e w' ∧ Below w.heap.size w w' := by
  have hrt := fun W hW => wright_any p s a n c W hW
  rw [decide_eq_true h] at hrt
  have hav := fun a1 c1 W hW => wadv_any p s a1 n c1 anow W hW
  have hall := risen_all h.2.2.2.2.2.2.1
  have hsub := live_sub p.period (up s.at_ (clampT anow)) s.log
  have hssum := live_sum p.period (up s.at_ (clampT anow)) s.log (fun e he => by have := (hall e he).1; omega)
  have hAe : A.log = live p.period (up s.at_ (clampT anow)) s.log ∧ A.level = 0 ∧ A.held = s.held := by rw [hA]; unfold advL; rw [if_pos h]; exact ⟨rfl, rfl, rfl⟩
  rw [← hA] at hav
  rw [← hAe.1] at hsub hssum
  obtain ⟨⟨q0, q1, q2, q3, q4, q5, q6, q7⟩, r1, r2, r3, r4, r5, r6, r7, r8⟩ := h
  have hlen := hlog.1
  have hsb := sumL_bound A.log 1048576 (fun e he => by have := hall e (hsub.1 e he); omega)
  have hn1 : n ≤ 100 := by omega
  have hent : ∀ e ∈ A.log, 0 ≤ e.2 ∧ e.2 ≤ 1048576 := fun e he => by have := hall e (hsub.1 e he); omega
  have hw1 : IntKind.i64.wrap (p.limit - s.held) = p.limit - s.held := IntWalk.i64_in _ (by omega)
  have hw2 : IntKind.i64.wrap (p.limit - s.held - sumL A.log) = p.limit - s.held - sumL A.log := IntWalk.i64_in _ (by omega)
  have hw3 : IntKind.i64.wrap (s.held + acost) = s.held + acost := IntWalk.i64_in _ (by omega)
  have hsum := fun a2 m2 c2 W (hW : LogAt W a2 m2 c2 A.log) => sum_any a2 m2 c2 A.log W hW (by have := hW.1; have := hsub.2; omega) hent
  have HX := Go.Lib.hid (And.intro hn1 (And.intro hent (And.intro hsub.2 hlen)))
  clear hall hsb hsub hssum hent hA r1 r2 r3 r4 r6 r7 r8 q0 q1 q2 q3 q4 q5 q6 q7
  obtain ⟨k, l, d, b, cc, o⟩ := p
  obtain ⟨at_, level, held, L⟩ := s
  obtain ⟨aat, alv, ahd, L2⟩ := A
  obtain ⟨-, hz1, hz2⟩ := hAe
  unfold St.v Pol.v at *
  dsimp only at *
  subst hz1 hz2 r5
  have HRT := Go.Lib.hid hrt
  have HAV := Go.Lib.hid hav
  have HSM := Go.Lib.hid hsum
  have HLOG := Go.Lib.hid hlog
  clear hrt hav hsum hlog hlen hn1
  generalize hS2 : sumL L2 = S2 at *
  clear hS2
  go_enter Try.func21, Try.ntmps21
  go_wp2_with fail
  refine (HRT.out _ (log_bl HLOG.out (bl_alloc (bl_alloc (bl_alloc (bl_alloc (bl_refl _) _) _) _) _))).mono ?_
  rintro e w1 ⟨rfl, hb⟩
  have hB : Below w.heap.size w w1 := bl_then (bl_alloc (bl_alloc (bl_alloc (bl_alloc (bl_refl _) _) _) _) _) hb
  have c0 := bl_cell (v := .int .i64 k) hb (show World.cell? _ ⟨w.heap.size, 0, none⟩ = _ by go_simp)
  have c1 := bl_cell (v := .int .i64 l) hb (show World.cell? _ ⟨w.heap.size, 1, none⟩ = _ by go_simp)
  have c2 := bl_cell (v := .int .i64 d) hb (show World.cell? _ ⟨w.heap.size, 2, none⟩ = _ by go_simp)
  have c3 := bl_cell (v := .int .i64 b) hb (show World.cell? _ ⟨w.heap.size, 3, none⟩ = _ by go_simp)
  have c4 := bl_cell (v := .int .i64 cc) hb (show World.cell? _ ⟨w.heap.size, 4, none⟩ = _ by go_simp)
  have c5 := bl_cell (v := .bool o) hb (show World.cell? _ ⟨w.heap.size, 5, none⟩ = _ by go_simp)
  have c6 := bl_cell (v := .int .i64 at_) hb (show World.cell? _ ⟨w.heap.size + 1, 0, none⟩ = _ by go_simp)
  have c7 := bl_cell (v := .int .i64 0) hb (show World.cell? _ ⟨w.heap.size + 1, 1, none⟩ = _ by go_simp)
  have c8 := bl_cell (v := .int .i64 ahd) hb (show World.cell? _ ⟨w.heap.size + 1, 2, none⟩ = _ by go_simp)
  have c9 := bl_cell (v := .slice a n c) hb (show World.cell? _ ⟨w.heap.size + 1, 3, none⟩ = _ by go_simp)
  have c10 := bl_cell (v := .int .i64 2) hb (show World.cell? _ ⟨w.heap.size + 1 + 1, 0, none⟩ = _ by go_simp)
  have c11 := bl_cell (v := .int .i64 anow) hb (show World.cell? _ ⟨w.heap.size + 1 + 1, 1, none⟩ = _ by go_simp)
  have c12 := bl_cell (v := .int .i64 acost) hb (show World.cell? _ ⟨w.heap.size + 1 + 1, 2, none⟩ = _ by go_simp)
  have hR : ResB w1 (w.heap.size + 1 + 1 + 1) := res_bl (res_new _ _ _ _ _ _ (by simp)) hb
  have hQ : ResB w1 (w.heap.size + 1) := res_bl (res_bl (res_new (w.alloc _) _ _ _ _ _ (by simp)) (bl_alloc (bl_alloc (bl_refl _) _) _)) hb
  have hlg1 := log_bl HLOG.out hB
  clear hb HRT HLOG
  go_wp2_with fail
  refine (clone_all _ _ _ _ _ hlg1 (by have := HX.out.1; omega)).mono ?_
  rintro e w2 ⟨v1, rfl, hown1, hb⟩
  obtain ⟨a1, cp1, rfl, hlog1⟩ := own_log hown1
  have d0 := bl_cell hb c0
  have d1 := bl_cell hb c1
  have d2 := bl_cell hb c2
  have d3 := bl_cell hb c3
  have d4 := bl_cell hb c4
  have d5 := bl_cell hb c5
  have d6 := bl_cell hb c6
  have d7 := bl_cell hb c7
  have d8 := bl_cell hb c8
  have d9 := bl_cell hb c9
  have d10 := bl_cell hb c10
  have d11 := bl_cell hb c11
  have d12 := bl_cell hb c12
  have dR := res_bl hR hb
  have dQ := res_bl hQ hb
  have dB := bl_then hB hb
  have hlt1 := res_lt hR
  have fz := (dQ 3 (by omega)).1
  clear hR hQ hB hb hlg1 c0 c1 c2 c3 c4 c5 c6 c7 c8 c9 c10 c11 c12
  go_wp2_with fail
  have hown1' := own_far hown1 ⟨w.heap.size + 1, 3, none⟩ (.slice a1 n cp1) (own_above hown1 (by dsimp only; omega))
  refine (HAV.out _ _ _ (own_at hown1')).mono ?_
  rintro e w3 ⟨⟨v2, m2, rfl, hown2⟩, hb⟩
  obtain ⟨a2, cp2, rfl, hlog2⟩ := own_log hown2
  have c0 := bl_cell hb (far_set d0 ⟨w.heap.size + 1, 3, none⟩ (.slice a1 n cp1) (by dsimp only; omega))
  have c1 := bl_cell hb (far_set d1 ⟨w.heap.size + 1, 3, none⟩ (.slice a1 n cp1) (by dsimp only; omega))
  have c2 := bl_cell hb (far_set d2 ⟨w.heap.size + 1, 3, none⟩ (.slice a1 n cp1) (by dsimp only; omega))
  have c3 := bl_cell hb (far_set d3 ⟨w.heap.size + 1, 3, none⟩ (.slice a1 n cp1) (by dsimp only; omega))
  have c4 := bl_cell hb (far_set d4 ⟨w.heap.size + 1, 3, none⟩ (.slice a1 n cp1) (by dsimp only; omega))
  have c5 := bl_cell hb (far_set d5 ⟨w.heap.size + 1, 3, none⟩ (.slice a1 n cp1) (by dsimp only; omega))
  have c6 := bl_cell hb (set_other (a := ⟨w.heap.size + 1, 3, none⟩) d6 (.slice a1 n cp1) (by simp))
  have c7 := bl_cell hb (set_other (a := ⟨w.heap.size + 1, 3, none⟩) d7 (.slice a1 n cp1) (by simp))
  have c8 := bl_cell hb (set_other (a := ⟨w.heap.size + 1, 3, none⟩) d8 (.slice a1 n cp1) (by simp))
  have c9 : w3.cell? ⟨w.heap.size + 1, 3, none⟩ = some (.slice a1 n cp1) := bl_cell hb (World.cell?_setCell_same' _ _ _ (by rw [d9]; rfl))
  have c10 := bl_cell hb (far_set d10 ⟨w.heap.size + 1, 3, none⟩ (.slice a1 n cp1) (by dsimp only; omega))
  have c11 := bl_cell hb (far_set d11 ⟨w.heap.size + 1, 3, none⟩ (.slice a1 n cp1) (by dsimp only; omega))
  have c12 := bl_cell hb (far_set d12 ⟨w.heap.size + 1, 3, none⟩ (.slice a1 n cp1) (by dsimp only; omega))
  have hR := res_bl (res_set dR ⟨w.heap.size + 1, 3, none⟩ (.slice a1 n cp1)) hb
  have hB := bl_then (bl_set dB (a := ⟨w.heap.size + 1, 3, none⟩) (by dsimp only; omega) (.slice a1 n cp1)) hb
  have hO1 := own_bl hown1' hb
  have hlt2 := res_lt (res_set dR ⟨w.heap.size + 1, 3, none⟩ (.slice a1 n cp1))
  have hle3 := hb.size
  have HV2 := Go.Lib.hid (World.ownsRow.lt hown2)
  have hle1 := hlt1
  generalize (w2.setCell ⟨w.heap.size + 1, 3, none⟩ (.slice a1 n cp1)).heap.size = base2 at *
  clear hb dR dQ dB hown1 hown1' hlog1 hlog2 HAV d0 d1 d2 d3 d4 d5 d6 d7 d8 d9 d10 d11 d12
  dsimp only
  go_wp2_with fail
  refine wp_abs (S0 := fun X => X.cell? ⟨w.heap.size, 0, none⟩ = some (.int .i64 k) ∧ X.cell? ⟨w.heap.size, 1, none⟩ = some (.int .i64 l) ∧ X.cell? ⟨w.heap.size, 2, none⟩ = some (.int .i64 d) ∧ X.cell? ⟨w.heap.size, 3, none⟩ = some (.int .i64 b) ∧ X.cell? ⟨w.heap.size, 4, none⟩ = some (.int .i64 cc) ∧ X.cell? ⟨w.heap.size, 5, none⟩ = some (.bool o) ∧ X.cell? ⟨w.heap.size + 1, 0, none⟩ = some (.int .i64 at_) ∧ X.cell? ⟨w.heap.size + 1, 1, none⟩ = some (.int .i64 0) ∧ X.cell? ⟨w.heap.size + 1, 2, none⟩ = some (.int .i64 ahd) ∧ X.cell? ⟨w.heap.size + 1, 3, none⟩ = some (.slice a1 n cp1) ∧ X.cell? ⟨w.heap.size + 1 + 1, 0, none⟩ = some (.int .i64 2) ∧ X.cell? ⟨w.heap.size + 1 + 1, 1, none⟩ = some (.int .i64 anow) ∧ X.cell? ⟨w.heap.size + 1 + 1, 2, none⟩ = some (.int .i64 acost) ∧ X.cell? ⟨w3.heap.size, 0, none⟩ = some (.int .i64 aat) ∧ X.cell? ⟨w3.heap.size, 1, none⟩ = some (.int .i64 0) ∧ X.cell? ⟨w3.heap.size, 2, none⟩ = some (.int .i64 ahd) ∧ X.cell? ⟨w3.heap.size, 3, none⟩ = some (.slice a2 m2 cp2) ∧ ResB X (w.heap.size + 1 + 1 + 1) ∧ ResB X w3.heap.size ∧ OwnLog X w1.heap.size (.slice a1 n cp1) n L ∧ OwnLog X base2 (.slice a2 m2 cp2) m2 L2 ∧ Below w.heap.size w X) ⟨bl_cell (bl_alloc (bl_refl _) _) c0, bl_cell (bl_alloc (bl_refl _) _) c1, bl_cell (bl_alloc (bl_refl _) _) c2, bl_cell (bl_alloc (bl_refl _) _) c3, bl_cell (bl_alloc (bl_refl _) _) c4, bl_cell (bl_alloc (bl_refl _) _) c5, bl_cell (bl_alloc (bl_refl _) _) c6, bl_cell (bl_alloc (bl_refl _) _) c7, bl_cell (bl_alloc (bl_refl _) _) c8, bl_cell (bl_alloc (bl_refl _) _) c9, bl_cell (bl_alloc (bl_refl _) _) c10, bl_cell (bl_alloc (bl_refl _) _) c11, bl_cell (bl_alloc (bl_refl _) _) c12, by go_simp, by go_simp, by go_simp, by go_simp, res_bl hR (bl_alloc (bl_refl _) _), res_new _ _ _ _ _ _ rfl, World.ownsRow.alloc hO1 _, World.ownsRow.alloc hown2 _, bl_alloc hB _⟩ ?_
  clear hR hO1 hown2 hB c0 c1 c2 c3 c4 c5 c6 c7 c8 c9 c10 c11 c12
  generalize w3.heap.size = nb at *
  rintro X ⟨c0, c1, c2, c3, c4, c5, c6, c7, c8, c9, c10, c11, c12, x0, x1, x2, x3, hR, hN, hO1, hO2, hB⟩
  refine wp_region_held_drew (S := fun w' => w'.cell? ⟨w.heap.size, 0, none⟩ = some (.int .i64 k) ∧ w'.cell? ⟨w.heap.size, 1, none⟩ = some (.int .i64 l) ∧ w'.cell? ⟨w.heap.size, 2, none⟩ = some (.int .i64 d) ∧ w'.cell? ⟨w.heap.size, 3, none⟩ = some (.int .i64 b) ∧ w'.cell? ⟨w.heap.size, 4, none⟩ = some (.int .i64 cc) ∧ w'.cell? ⟨w.heap.size, 5, none⟩ = some (.bool o) ∧ w'.cell? ⟨w.heap.size + 1, 0, none⟩ = some (.int .i64 at_) ∧ w'.cell? ⟨w.heap.size + 1, 1, none⟩ = some (.int .i64 0) ∧ w'.cell? ⟨w.heap.size + 1, 2, none⟩ = some (.int .i64 ahd) ∧ w'.cell? ⟨w.heap.size + 1, 3, none⟩ = some (.slice a1 n cp1) ∧ w'.cell? ⟨w.heap.size + 1 + 1, 0, none⟩ = some (.int .i64 2) ∧ w'.cell? ⟨w.heap.size + 1 + 1, 1, none⟩ = some (.int .i64 anow) ∧ w'.cell? ⟨w.heap.size + 1 + 1, 2, none⟩ = some (.int .i64 acost) ∧ w'.cell? ⟨nb, 0, none⟩ = some (.int .i64 aat) ∧ w'.cell? ⟨nb, 1, none⟩ = some (.int .i64 0) ∧ w'.cell? ⟨nb, 2, none⟩ = some (.int .i64 ahd) ∧ w'.cell? ⟨nb, 3, none⟩ = some (.slice a2 m2 cp2) ∧ ResB w' (w.heap.size + 1 + 1 + 1) ∧ ResB w' nb ∧ OwnLog w' w1.heap.size (.slice a1 n cp1) n L ∧ OwnLog w' base2 (.slice a2 m2 cp2) m2 L2 ∧ Below w.heap.size w w') (by kernel_rfl) ?_ (fun hHeld => ?_)
  · exact ⟨c0, c1, c2, c3, c4, c5, c6, c7, c8, c9, c10, c11, c12, x0, x1, x2, x3, hR, hN, hO1, hO2, bl_drew hB⟩
  try simp only [Act.put, List.setIfInBounds_toArray, List.set_cons_zero, List.set_cons_succ]
  (refine tk (i := 0) rfl rfl hHeld ?_)
  (refine tk (i := 1) rfl rfl hHeld ?_)
  (refine tk (i := 2) rfl rfl hHeld ?_)
  (refine tk (i := 3) rfl rfl hHeld ?_)
  (refine tk (i := 4) rfl rfl hHeld ?_)
  (refine tk (i := 5) rfl rfl hHeld ?_)
  (refine tk (i := 6) rfl rfl hHeld ?_)
  (refine callH (i := 7) rfl hHeld (fun W hW K hK => ?_); clear hHeld; (try dsimp only at hW); obtain ⟨h0, h1, h2, h3, h4, h5, h6, h7, h8, h9, h10, h11, h12, y0, y1, y2, y3, hr', hn', ho1', ho2', hB'⟩ := hW; go_simp; refine (HSM.out _ _ _ _ (own_at ho2')).mono ?_; rintro e w9 ⟨rfl, hb⟩; go_wp2_with fail; refine hK.out _ _ ?_ (fun hHeld => ?_); (focus ((try dsimp only); exact ⟨bl_cell hb h0, bl_cell hb h1, bl_cell hb h2, bl_cell hb h3, bl_cell hb h4, bl_cell hb h5, bl_cell hb h6, bl_cell hb h7, bl_cell hb h8, bl_cell hb h9, bl_cell hb h10, bl_cell hb h11, bl_cell hb h12, bl_cell hb y0, bl_cell hb y1, bl_cell hb y2, bl_cell hb y3, res_bl hr' hb, res_bl hn' hb, own_bl ho1' hb, own_bl ho2' hb, bl_then hB' hb⟩)); clear hK K; try simp only [Act.put, List.setIfInBounds_toArray, List.set_cons_zero, List.set_cons_succ])
  (refine tk (i := 8) rfl rfl hHeld ?_)
  (refine tk (i := 9) rfl rfl hHeld ?_)
  refine wpAnyH_done (by kernel_rfl) ?_ _
  refine then_abs (F := fun X => X.cell? ⟨w.heap.size, 0, none⟩ = some (.int .i64 k) ∧ X.cell? ⟨w.heap.size, 1, none⟩ = some (.int .i64 l) ∧ X.cell? ⟨w.heap.size, 2, none⟩ = some (.int .i64 d) ∧ X.cell? ⟨w.heap.size, 3, none⟩ = some (.int .i64 b) ∧ X.cell? ⟨w.heap.size, 4, none⟩ = some (.int .i64 cc) ∧ X.cell? ⟨w.heap.size, 5, none⟩ = some (.bool o) ∧ X.cell? ⟨w.heap.size + 1, 0, none⟩ = some (.int .i64 at_) ∧ X.cell? ⟨w.heap.size + 1, 1, none⟩ = some (.int .i64 0) ∧ X.cell? ⟨w.heap.size + 1, 2, none⟩ = some (.int .i64 ahd) ∧ X.cell? ⟨w.heap.size + 1, 3, none⟩ = some (.slice a1 n cp1) ∧ X.cell? ⟨w.heap.size + 1 + 1, 0, none⟩ = some (.int .i64 2) ∧ X.cell? ⟨w.heap.size + 1 + 1, 1, none⟩ = some (.int .i64 anow) ∧ X.cell? ⟨w.heap.size + 1 + 1, 2, none⟩ = some (.int .i64 acost) ∧ X.cell? ⟨nb, 0, none⟩ = some (.int .i64 aat) ∧ X.cell? ⟨nb, 1, none⟩ = some (.int .i64 0) ∧ X.cell? ⟨nb, 2, none⟩ = some (.int .i64 ahd) ∧ X.cell? ⟨nb, 3, none⟩ = some (.slice a2 m2 cp2) ∧ ResB X (w.heap.size + 1 + 1 + 1) ∧ ResB X nb ∧ OwnLog X w1.heap.size (.slice a1 n cp1) n L ∧ OwnLog X base2 (.slice a2 m2 cp2) m2 L2 ∧ Below w.heap.size w X) hHeld ?_
  clear hHeld hR hN hO1 hO2 hB c0 c1 c2 c3 c4 c5 c6 c7 c8 c9 c10 c11 c12 x0 x1 x2 x3
  rintro Y ⟨c0, c1, c2, c3, c4, c5, c6, c7, c8, c9, c10, c11, c12, x0, x1, x2, x3, hR, hN, hO1, hO2, hE⟩
  obtain ⟨F0, F1, F2, F3, U0, U1, U2, U3, I0, I1, I2, I3⟩ := res_all hR
  have hz2 := (hN 2 (by omega)).1
  have n0 : ¬ nb = w.heap.size := by omega
  have m0' : ¬ w.heap.size = nb := by omega
  have n1 : ¬ nb = w.heap.size + 1 := by omega
  have m1' : ¬ w.heap.size + 1 = nb := by omega
  have n2 : ¬ nb = w.heap.size + 1 + 1 := by omega
  have m2' : ¬ w.heap.size + 1 + 1 = nb := by omega
  have n3 : ¬ nb = w.heap.size + 1 + 1 + 1 := by omega
  have m3' : ¬ w.heap.size + 1 + 1 + 1 = nb := by omega
  have hO3 := fun u => own_far hO2 ⟨nb, 2, none⟩ u (fun g hg => by have := (HV2.out g hg).2; dsimp only; omega)
  have HO3 := Go.Lib.hid hO3
  clear hO3
  repeat' (first | go_skip | go_guarded | go_step | go_upon)
  (try simp only [Exit.inBlock, Exit.then])
  refine bodyPost_ret (results_state2 rfl _ _ (by rfl) (set4r (res_set hR _ _))) rfl ⟨⟨_, _, by first | rfl | simp, own_mono (own_far4 (HO3.out _) (own_above hO2 (by omega))) (by omega)⟩, bl4 (bl_set hE (by dsimp only; omega) _) (by omega)⟩

set_option maxHeartbeats 2000000 in
set_option maxRecDepth 100000 in
theorem wdo_release (p : Pol) (s : St) (a : Option Addr) (n c : Nat) (anow acost : Int) (A : St) (w : World) (h : rightL p s) (hlog : LogAt w a n c s.log) (hA : A = advL p s anow) (e1 : 1 ≤ acost) (e2 : acost ≤ s.held) :
    Calls Try.prog 21 #[p.v, s.v a n c, .agg #[.int .i64 3, .int .i64 anow, .int .i64 acost]] w fun e w' => StOwn2 ({ A with held := s.held - acost }, true) w.heap.size e w' ∧ Below w.heap.size w w' := by
  have hrt := fun W hW => wright_any p s a n c W hW
  rw [decide_eq_true h] at hrt
  have hav := fun a1 c1 W hW => wadv_any p s a1 n c1 anow W hW
  have hall := risen_all h.2.2.2.2.2.2.1
  have hsub := live_sub p.period (up s.at_ (clampT anow)) s.log
  have hssum := live_sum p.period (up s.at_ (clampT anow)) s.log (fun e he => by have := (hall e he).1; omega)
  have hAe : A.log = live p.period (up s.at_ (clampT anow)) s.log ∧ A.level = 0 ∧ A.held = s.held := by rw [hA]; unfold advL; rw [if_pos h]; exact ⟨rfl, rfl, rfl⟩
  rw [← hA] at hav
  rw [← hAe.1] at hsub hssum
  obtain ⟨⟨q0, q1, q2, q3, q4, q5, q6, q7⟩, r1, r2, r3, r4, r5, r6, r7, r8⟩ := h
  have hlen := hlog.1
  have hsb := sumL_bound A.log 1048576 (fun e he => by have := hall e (hsub.1 e he); omega)
  have hn1 : n ≤ 100 := by omega
  have hent : ∀ e ∈ A.log, 0 ≤ e.2 ∧ e.2 ≤ 1048576 := fun e he => by have := hall e (hsub.1 e he); omega
  have hw1 : IntKind.i64.wrap (p.limit - s.held) = p.limit - s.held := IntWalk.i64_in _ (by omega)
  have hw2 : IntKind.i64.wrap (p.limit - s.held - sumL A.log) = p.limit - s.held - sumL A.log := IntWalk.i64_in _ (by omega)
  have hw3 : IntKind.i64.wrap (s.held - acost) = s.held - acost := IntWalk.i64_in _ (by omega)
  have hsum := fun a2 m2 c2 W (hW : LogAt W a2 m2 c2 A.log) => sum_any a2 m2 c2 A.log W hW (by have := hW.1; have := hsub.2; omega) hent
  have HX := Go.Lib.hid (And.intro hn1 (And.intro hent (And.intro hsub.2 hlen)))
  clear hall hsb hsub hssum hent hA r1 r2 r3 r4 r6 r7 r8 q0 q1 q2 q3 q4 q5 q6 q7
  obtain ⟨k, l, d, b, cc, o⟩ := p
  obtain ⟨at_, level, held, L⟩ := s
  obtain ⟨aat, alv, ahd, L2⟩ := A
  obtain ⟨-, hz1, hz2⟩ := hAe
  unfold St.v Pol.v at *
  dsimp only at *
  subst hz1 hz2 r5
  have HRT := Go.Lib.hid hrt
  have HAV := Go.Lib.hid hav
  have HSM := Go.Lib.hid hsum
  have HLOG := Go.Lib.hid hlog
  clear hrt hav hsum hlog hlen hn1
  generalize hS2 : sumL L2 = S2 at *
  clear hS2
  go_enter Try.func21, Try.ntmps21
  go_wp2_with fail
  refine (HRT.out _ (log_bl HLOG.out (bl_alloc (bl_alloc (bl_alloc (bl_alloc (bl_refl _) _) _) _) _))).mono ?_
  rintro e w1 ⟨rfl, hb⟩
  have hB : Below w.heap.size w w1 := bl_then (bl_alloc (bl_alloc (bl_alloc (bl_alloc (bl_refl _) _) _) _) _) hb
  have c0 := bl_cell (v := .int .i64 k) hb (show World.cell? _ ⟨w.heap.size, 0, none⟩ = _ by go_simp)
  have c1 := bl_cell (v := .int .i64 l) hb (show World.cell? _ ⟨w.heap.size, 1, none⟩ = _ by go_simp)
  have c2 := bl_cell (v := .int .i64 d) hb (show World.cell? _ ⟨w.heap.size, 2, none⟩ = _ by go_simp)
  have c3 := bl_cell (v := .int .i64 b) hb (show World.cell? _ ⟨w.heap.size, 3, none⟩ = _ by go_simp)
  have c4 := bl_cell (v := .int .i64 cc) hb (show World.cell? _ ⟨w.heap.size, 4, none⟩ = _ by go_simp)
  have c5 := bl_cell (v := .bool o) hb (show World.cell? _ ⟨w.heap.size, 5, none⟩ = _ by go_simp)
  have c6 := bl_cell (v := .int .i64 at_) hb (show World.cell? _ ⟨w.heap.size + 1, 0, none⟩ = _ by go_simp)
  have c7 := bl_cell (v := .int .i64 0) hb (show World.cell? _ ⟨w.heap.size + 1, 1, none⟩ = _ by go_simp)
  have c8 := bl_cell (v := .int .i64 ahd) hb (show World.cell? _ ⟨w.heap.size + 1, 2, none⟩ = _ by go_simp)
  have c9 := bl_cell (v := .slice a n c) hb (show World.cell? _ ⟨w.heap.size + 1, 3, none⟩ = _ by go_simp)
  have c10 := bl_cell (v := .int .i64 3) hb (show World.cell? _ ⟨w.heap.size + 1 + 1, 0, none⟩ = _ by go_simp)
  have c11 := bl_cell (v := .int .i64 anow) hb (show World.cell? _ ⟨w.heap.size + 1 + 1, 1, none⟩ = _ by go_simp)
  have c12 := bl_cell (v := .int .i64 acost) hb (show World.cell? _ ⟨w.heap.size + 1 + 1, 2, none⟩ = _ by go_simp)
  have hR : ResB w1 (w.heap.size + 1 + 1 + 1) := res_bl (res_new _ _ _ _ _ _ (by simp)) hb
  have hQ : ResB w1 (w.heap.size + 1) := res_bl (res_bl (res_new (w.alloc _) _ _ _ _ _ (by simp)) (bl_alloc (bl_alloc (bl_refl _) _) _)) hb
  have hlg1 := log_bl HLOG.out hB
  clear hb HRT HLOG
  go_wp2_with fail
  refine (clone_all _ _ _ _ _ hlg1 (by have := HX.out.1; omega)).mono ?_
  rintro e w2 ⟨v1, rfl, hown1, hb⟩
  obtain ⟨a1, cp1, rfl, hlog1⟩ := own_log hown1
  have d0 := bl_cell hb c0
  have d1 := bl_cell hb c1
  have d2 := bl_cell hb c2
  have d3 := bl_cell hb c3
  have d4 := bl_cell hb c4
  have d5 := bl_cell hb c5
  have d6 := bl_cell hb c6
  have d7 := bl_cell hb c7
  have d8 := bl_cell hb c8
  have d9 := bl_cell hb c9
  have d10 := bl_cell hb c10
  have d11 := bl_cell hb c11
  have d12 := bl_cell hb c12
  have dR := res_bl hR hb
  have dQ := res_bl hQ hb
  have dB := bl_then hB hb
  have hlt1 := res_lt hR
  have fz := (dQ 3 (by omega)).1
  clear hR hQ hB hb hlg1 c0 c1 c2 c3 c4 c5 c6 c7 c8 c9 c10 c11 c12
  go_wp2_with fail
  have hown1' := own_far hown1 ⟨w.heap.size + 1, 3, none⟩ (.slice a1 n cp1) (own_above hown1 (by dsimp only; omega))
  refine (HAV.out _ _ _ (own_at hown1')).mono ?_
  rintro e w3 ⟨⟨v2, m2, rfl, hown2⟩, hb⟩
  obtain ⟨a2, cp2, rfl, hlog2⟩ := own_log hown2
  have c0 := bl_cell hb (far_set d0 ⟨w.heap.size + 1, 3, none⟩ (.slice a1 n cp1) (by dsimp only; omega))
  have c1 := bl_cell hb (far_set d1 ⟨w.heap.size + 1, 3, none⟩ (.slice a1 n cp1) (by dsimp only; omega))
  have c2 := bl_cell hb (far_set d2 ⟨w.heap.size + 1, 3, none⟩ (.slice a1 n cp1) (by dsimp only; omega))
  have c3 := bl_cell hb (far_set d3 ⟨w.heap.size + 1, 3, none⟩ (.slice a1 n cp1) (by dsimp only; omega))
  have c4 := bl_cell hb (far_set d4 ⟨w.heap.size + 1, 3, none⟩ (.slice a1 n cp1) (by dsimp only; omega))
  have c5 := bl_cell hb (far_set d5 ⟨w.heap.size + 1, 3, none⟩ (.slice a1 n cp1) (by dsimp only; omega))
  have c6 := bl_cell hb (set_other (a := ⟨w.heap.size + 1, 3, none⟩) d6 (.slice a1 n cp1) (by simp))
  have c7 := bl_cell hb (set_other (a := ⟨w.heap.size + 1, 3, none⟩) d7 (.slice a1 n cp1) (by simp))
  have c8 := bl_cell hb (set_other (a := ⟨w.heap.size + 1, 3, none⟩) d8 (.slice a1 n cp1) (by simp))
  have c9 : w3.cell? ⟨w.heap.size + 1, 3, none⟩ = some (.slice a1 n cp1) := bl_cell hb (World.cell?_setCell_same' _ _ _ (by rw [d9]; rfl))
  have c10 := bl_cell hb (far_set d10 ⟨w.heap.size + 1, 3, none⟩ (.slice a1 n cp1) (by dsimp only; omega))
  have c11 := bl_cell hb (far_set d11 ⟨w.heap.size + 1, 3, none⟩ (.slice a1 n cp1) (by dsimp only; omega))
  have c12 := bl_cell hb (far_set d12 ⟨w.heap.size + 1, 3, none⟩ (.slice a1 n cp1) (by dsimp only; omega))
  have hR := res_bl (res_set dR ⟨w.heap.size + 1, 3, none⟩ (.slice a1 n cp1)) hb
  have hB := bl_then (bl_set dB (a := ⟨w.heap.size + 1, 3, none⟩) (by dsimp only; omega) (.slice a1 n cp1)) hb
  have hO1 := own_bl hown1' hb
  have hlt2 := res_lt (res_set dR ⟨w.heap.size + 1, 3, none⟩ (.slice a1 n cp1))
  have hle3 := hb.size
  have HV2 := Go.Lib.hid (World.ownsRow.lt hown2)
  have hle1 := hlt1
  generalize (w2.setCell ⟨w.heap.size + 1, 3, none⟩ (.slice a1 n cp1)).heap.size = base2 at *
  clear hb dR dQ dB hown1 hown1' hlog1 hlog2 HAV d0 d1 d2 d3 d4 d5 d6 d7 d8 d9 d10 d11 d12
  dsimp only
  go_wp2_with fail
  refine wp_abs (S0 := fun X => X.cell? ⟨w.heap.size, 0, none⟩ = some (.int .i64 k) ∧ X.cell? ⟨w.heap.size, 1, none⟩ = some (.int .i64 l) ∧ X.cell? ⟨w.heap.size, 2, none⟩ = some (.int .i64 d) ∧ X.cell? ⟨w.heap.size, 3, none⟩ = some (.int .i64 b) ∧ X.cell? ⟨w.heap.size, 4, none⟩ = some (.int .i64 cc) ∧ X.cell? ⟨w.heap.size, 5, none⟩ = some (.bool o) ∧ X.cell? ⟨w.heap.size + 1, 0, none⟩ = some (.int .i64 at_) ∧ X.cell? ⟨w.heap.size + 1, 1, none⟩ = some (.int .i64 0) ∧ X.cell? ⟨w.heap.size + 1, 2, none⟩ = some (.int .i64 ahd) ∧ X.cell? ⟨w.heap.size + 1, 3, none⟩ = some (.slice a1 n cp1) ∧ X.cell? ⟨w.heap.size + 1 + 1, 0, none⟩ = some (.int .i64 3) ∧ X.cell? ⟨w.heap.size + 1 + 1, 1, none⟩ = some (.int .i64 anow) ∧ X.cell? ⟨w.heap.size + 1 + 1, 2, none⟩ = some (.int .i64 acost) ∧ X.cell? ⟨w3.heap.size, 0, none⟩ = some (.int .i64 aat) ∧ X.cell? ⟨w3.heap.size, 1, none⟩ = some (.int .i64 0) ∧ X.cell? ⟨w3.heap.size, 2, none⟩ = some (.int .i64 ahd) ∧ X.cell? ⟨w3.heap.size, 3, none⟩ = some (.slice a2 m2 cp2) ∧ ResB X (w.heap.size + 1 + 1 + 1) ∧ ResB X w3.heap.size ∧ OwnLog X w1.heap.size (.slice a1 n cp1) n L ∧ OwnLog X base2 (.slice a2 m2 cp2) m2 L2 ∧ Below w.heap.size w X) ⟨bl_cell (bl_alloc (bl_refl _) _) c0, bl_cell (bl_alloc (bl_refl _) _) c1, bl_cell (bl_alloc (bl_refl _) _) c2, bl_cell (bl_alloc (bl_refl _) _) c3, bl_cell (bl_alloc (bl_refl _) _) c4, bl_cell (bl_alloc (bl_refl _) _) c5, bl_cell (bl_alloc (bl_refl _) _) c6, bl_cell (bl_alloc (bl_refl _) _) c7, bl_cell (bl_alloc (bl_refl _) _) c8, bl_cell (bl_alloc (bl_refl _) _) c9, bl_cell (bl_alloc (bl_refl _) _) c10, bl_cell (bl_alloc (bl_refl _) _) c11, bl_cell (bl_alloc (bl_refl _) _) c12, by go_simp, by go_simp, by go_simp, by go_simp, res_bl hR (bl_alloc (bl_refl _) _), res_new _ _ _ _ _ _ rfl, World.ownsRow.alloc hO1 _, World.ownsRow.alloc hown2 _, bl_alloc hB _⟩ ?_
  clear hR hO1 hown2 hB c0 c1 c2 c3 c4 c5 c6 c7 c8 c9 c10 c11 c12
  generalize w3.heap.size = nb at *
  rintro X ⟨c0, c1, c2, c3, c4, c5, c6, c7, c8, c9, c10, c11, c12, x0, x1, x2, x3, hR, hN, hO1, hO2, hB⟩
  refine wp_region_held_drew (S := fun w' => w'.cell? ⟨w.heap.size, 0, none⟩ = some (.int .i64 k) ∧ w'.cell? ⟨w.heap.size, 1, none⟩ = some (.int .i64 l) ∧ w'.cell? ⟨w.heap.size, 2, none⟩ = some (.int .i64 d) ∧ w'.cell? ⟨w.heap.size, 3, none⟩ = some (.int .i64 b) ∧ w'.cell? ⟨w.heap.size, 4, none⟩ = some (.int .i64 cc) ∧ w'.cell? ⟨w.heap.size, 5, none⟩ = some (.bool o) ∧ w'.cell? ⟨w.heap.size + 1, 0, none⟩ = some (.int .i64 at_) ∧ w'.cell? ⟨w.heap.size + 1, 1, none⟩ = some (.int .i64 0) ∧ w'.cell? ⟨w.heap.size + 1, 2, none⟩ = some (.int .i64 ahd) ∧ w'.cell? ⟨w.heap.size + 1, 3, none⟩ = some (.slice a1 n cp1) ∧ w'.cell? ⟨w.heap.size + 1 + 1, 0, none⟩ = some (.int .i64 3) ∧ w'.cell? ⟨w.heap.size + 1 + 1, 1, none⟩ = some (.int .i64 anow) ∧ w'.cell? ⟨w.heap.size + 1 + 1, 2, none⟩ = some (.int .i64 acost) ∧ w'.cell? ⟨nb, 0, none⟩ = some (.int .i64 aat) ∧ w'.cell? ⟨nb, 1, none⟩ = some (.int .i64 0) ∧ w'.cell? ⟨nb, 2, none⟩ = some (.int .i64 ahd) ∧ w'.cell? ⟨nb, 3, none⟩ = some (.slice a2 m2 cp2) ∧ ResB w' (w.heap.size + 1 + 1 + 1) ∧ ResB w' nb ∧ OwnLog w' w1.heap.size (.slice a1 n cp1) n L ∧ OwnLog w' base2 (.slice a2 m2 cp2) m2 L2 ∧ Below w.heap.size w w') (by kernel_rfl) ?_ (fun hHeld => ?_)
  · exact ⟨c0, c1, c2, c3, c4, c5, c6, c7, c8, c9, c10, c11, c12, x0, x1, x2, x3, hR, hN, hO1, hO2, bl_drew hB⟩
  try simp only [Act.put, List.setIfInBounds_toArray, List.set_cons_zero, List.set_cons_succ]
  (refine tk (i := 0) rfl rfl hHeld ?_)
  (refine tk (i := 1) rfl rfl hHeld ?_)
  (refine tk (i := 2) rfl rfl hHeld ?_)
  (refine tk (i := 3) rfl rfl hHeld ?_)
  (refine tk (i := 4) rfl rfl hHeld ?_)
  (refine tk (i := 5) rfl rfl hHeld ?_)
  (refine tk (i := 6) rfl rfl hHeld ?_)
  (refine callH (i := 7) rfl hHeld (fun W hW K hK => ?_); clear hHeld; (try dsimp only at hW); obtain ⟨h0, h1, h2, h3, h4, h5, h6, h7, h8, h9, h10, h11, h12, y0, y1, y2, y3, hr', hn', ho1', ho2', hB'⟩ := hW; go_simp; refine (HSM.out _ _ _ _ (own_at ho2')).mono ?_; rintro e w9 ⟨rfl, hb⟩; go_wp2_with fail; refine hK.out _ _ ?_ (fun hHeld => ?_); (focus ((try dsimp only); exact ⟨bl_cell hb h0, bl_cell hb h1, bl_cell hb h2, bl_cell hb h3, bl_cell hb h4, bl_cell hb h5, bl_cell hb h6, bl_cell hb h7, bl_cell hb h8, bl_cell hb h9, bl_cell hb h10, bl_cell hb h11, bl_cell hb h12, bl_cell hb y0, bl_cell hb y1, bl_cell hb y2, bl_cell hb y3, res_bl hr' hb, res_bl hn' hb, own_bl ho1' hb, own_bl ho2' hb, bl_then hB' hb⟩)); clear hK K; try simp only [Act.put, List.setIfInBounds_toArray, List.set_cons_zero, List.set_cons_succ])
  (refine tk (i := 8) rfl rfl hHeld ?_)
  (refine tk (i := 9) rfl rfl hHeld ?_)
  refine wpAnyH_done (by kernel_rfl) ?_ _
  refine then_abs (F := fun X => X.cell? ⟨w.heap.size, 0, none⟩ = some (.int .i64 k) ∧ X.cell? ⟨w.heap.size, 1, none⟩ = some (.int .i64 l) ∧ X.cell? ⟨w.heap.size, 2, none⟩ = some (.int .i64 d) ∧ X.cell? ⟨w.heap.size, 3, none⟩ = some (.int .i64 b) ∧ X.cell? ⟨w.heap.size, 4, none⟩ = some (.int .i64 cc) ∧ X.cell? ⟨w.heap.size, 5, none⟩ = some (.bool o) ∧ X.cell? ⟨w.heap.size + 1, 0, none⟩ = some (.int .i64 at_) ∧ X.cell? ⟨w.heap.size + 1, 1, none⟩ = some (.int .i64 0) ∧ X.cell? ⟨w.heap.size + 1, 2, none⟩ = some (.int .i64 ahd) ∧ X.cell? ⟨w.heap.size + 1, 3, none⟩ = some (.slice a1 n cp1) ∧ X.cell? ⟨w.heap.size + 1 + 1, 0, none⟩ = some (.int .i64 3) ∧ X.cell? ⟨w.heap.size + 1 + 1, 1, none⟩ = some (.int .i64 anow) ∧ X.cell? ⟨w.heap.size + 1 + 1, 2, none⟩ = some (.int .i64 acost) ∧ X.cell? ⟨nb, 0, none⟩ = some (.int .i64 aat) ∧ X.cell? ⟨nb, 1, none⟩ = some (.int .i64 0) ∧ X.cell? ⟨nb, 2, none⟩ = some (.int .i64 ahd) ∧ X.cell? ⟨nb, 3, none⟩ = some (.slice a2 m2 cp2) ∧ ResB X (w.heap.size + 1 + 1 + 1) ∧ ResB X nb ∧ OwnLog X w1.heap.size (.slice a1 n cp1) n L ∧ OwnLog X base2 (.slice a2 m2 cp2) m2 L2 ∧ Below w.heap.size w X) hHeld ?_
  clear hHeld hR hN hO1 hO2 hB c0 c1 c2 c3 c4 c5 c6 c7 c8 c9 c10 c11 c12 x0 x1 x2 x3
  rintro Y ⟨c0, c1, c2, c3, c4, c5, c6, c7, c8, c9, c10, c11, c12, x0, x1, x2, x3, hR, hN, hO1, hO2, hE⟩
  obtain ⟨F0, F1, F2, F3, U0, U1, U2, U3, I0, I1, I2, I3⟩ := res_all hR
  have hz2 := (hN 2 (by omega)).1
  have n0 : ¬ nb = w.heap.size := by omega
  have m0' : ¬ w.heap.size = nb := by omega
  have n1 : ¬ nb = w.heap.size + 1 := by omega
  have m1' : ¬ w.heap.size + 1 = nb := by omega
  have n2 : ¬ nb = w.heap.size + 1 + 1 := by omega
  have m2' : ¬ w.heap.size + 1 + 1 = nb := by omega
  have n3 : ¬ nb = w.heap.size + 1 + 1 + 1 := by omega
  have m3' : ¬ w.heap.size + 1 + 1 + 1 = nb := by omega
  have hO3 := fun u => own_far hO2 ⟨nb, 2, none⟩ u (fun g hg => by have := (HV2.out g hg).2; dsimp only; omega)
  have HO3 := Go.Lib.hid hO3
  clear hO3
  repeat' (first | go_skip | go_guarded | go_step | go_upon)
  (try simp only [Exit.inBlock, Exit.then])
  refine bodyPost_ret (results_state2 rfl _ _ (by rfl) (set4r (res_set hR _ _))) rfl ⟨⟨_, _, by first | rfl | simp, own_mono (own_far4 (HO3.out _) (own_above hO2 (by omega))) (by omega)⟩, bl4 (bl_set hE (by dsimp only; omega) _) (by omega)⟩

set_option maxHeartbeats 2000000 in
set_option maxRecDepth 100000 in
theorem wdo_commit (p : Pol) (s : St) (a : Option Addr) (n c : Nat) (anow acost : Int) (A : St) (w : World) (h : rightL p s) (hlog : LogAt w a n c s.log) (hA : A = advL p s anow) (e1 : 1 ≤ acost) (e2 : acost ≤ s.held) :
    Calls Try.prog 21 #[p.v, s.v a n c, .agg #[.int .i64 4, .int .i64 anow, .int .i64 acost]] w fun e w' => StOwn2 (noted p { A with held := s.held - acost } acost, true) w.heap.size e w' ∧ Below w.heap.size w w' := by
  have hrt := fun W hW => wright_any p s a n c W hW
  rw [decide_eq_true h] at hrt
  have hav := fun a1 c1 W hW => wadv_any p s a1 n c1 anow W hW
  have hall := risen_all h.2.2.2.2.2.2.1
  have hsub := live_sub p.period (up s.at_ (clampT anow)) s.log
  have hssum := live_sum p.period (up s.at_ (clampT anow)) s.log (fun e he => by have := (hall e he).1; omega)
  have hAe : A.log = live p.period (up s.at_ (clampT anow)) s.log ∧ A.level = 0 ∧ A.held = s.held := by rw [hA]; unfold advL; rw [if_pos h]; exact ⟨rfl, rfl, rfl⟩
  rw [← hA] at hav
  rw [← hAe.1] at hsub hssum
  obtain ⟨⟨q0, q1, q2, q3, q4, q5, q6, q7⟩, r1, r2, r3, r4, r5, r6, r7, r8⟩ := h
  have hlen := hlog.1
  have hsb := sumL_bound A.log 1048576 (fun e he => by have := hall e (hsub.1 e he); omega)
  have hn1 : n ≤ 100 := by omega
  have hent : ∀ e ∈ A.log, 0 ≤ e.2 ∧ e.2 ≤ 1048576 := fun e he => by have := hall e (hsub.1 e he); omega
  have hw1 : IntKind.i64.wrap (p.limit - s.held) = p.limit - s.held := IntWalk.i64_in _ (by omega)
  have hw2 : IntKind.i64.wrap (p.limit - s.held - sumL A.log) = p.limit - s.held - sumL A.log := IntWalk.i64_in _ (by omega)
  have hw3 : IntKind.i64.wrap (s.held - acost) = s.held - acost := IntWalk.i64_in _ (by omega)
  have hcost : 0 ≤ acost ∧ acost ≤ 1048576 := by omega
  have hsum := fun a2 m2 c2 W (hW : LogAt W a2 m2 c2 A.log) => sum_any a2 m2 c2 A.log W hW (by have := hW.1; have := hsub.2; omega) hent
  have HX := Go.Lib.hid (And.intro hn1 (And.intro hent (And.intro hsub.2 hlen)))
  clear hall hsb hsub hssum hent hA r1 r2 r3 r4 r6 r7 r8 q0 q1 q2 q3 q4 q5 q6 q7
  obtain ⟨k, l, d, b, cc, o⟩ := p
  obtain ⟨at_, level, held, L⟩ := s
  obtain ⟨aat, alv, ahd, L2⟩ := A
  obtain ⟨-, hz1, hz2⟩ := hAe
  unfold St.v Pol.v at *
  dsimp only at *
  subst hz1 hz2 r5
  have HRT := Go.Lib.hid hrt
  have HAV := Go.Lib.hid hav
  have HSM := Go.Lib.hid hsum
  have HLOG := Go.Lib.hid hlog
  clear hrt hav hsum hlog hlen hn1
  generalize hS2 : sumL L2 = S2 at *
  clear hS2
  have hnote := fun a2 m2 c2 base W (hb0 : base ≤ W.heap.size) (hW : OwnLog W base (.slice a2 m2 c2) m2 L2) => note_any ⟨k, l, d, b, cc, o⟩ ⟨aat, 0, (ahd - acost), L2⟩ a2 m2 c2 acost base W hb0 hW (by have h1 := hW.1; have h2 := HX.out.1; have h3 := HX.out.2.2.1; have h4 := HX.out.2.2.2; rw [cellsL_len] at h1; omega) HX.out.2.1 hcost
  unfold St.v Pol.v at hnote
  dsimp only at hnote
  have HNT := Go.Lib.hid hnote
  clear hnote
  go_enter Try.func21, Try.ntmps21
  go_wp2_with fail
  refine (HRT.out _ (log_bl HLOG.out (bl_alloc (bl_alloc (bl_alloc (bl_alloc (bl_refl _) _) _) _) _))).mono ?_
  rintro e w1 ⟨rfl, hb⟩
  have hB : Below w.heap.size w w1 := bl_then (bl_alloc (bl_alloc (bl_alloc (bl_alloc (bl_refl _) _) _) _) _) hb
  have c0 := bl_cell (v := .int .i64 k) hb (show World.cell? _ ⟨w.heap.size, 0, none⟩ = _ by go_simp)
  have c1 := bl_cell (v := .int .i64 l) hb (show World.cell? _ ⟨w.heap.size, 1, none⟩ = _ by go_simp)
  have c2 := bl_cell (v := .int .i64 d) hb (show World.cell? _ ⟨w.heap.size, 2, none⟩ = _ by go_simp)
  have c3 := bl_cell (v := .int .i64 b) hb (show World.cell? _ ⟨w.heap.size, 3, none⟩ = _ by go_simp)
  have c4 := bl_cell (v := .int .i64 cc) hb (show World.cell? _ ⟨w.heap.size, 4, none⟩ = _ by go_simp)
  have c5 := bl_cell (v := .bool o) hb (show World.cell? _ ⟨w.heap.size, 5, none⟩ = _ by go_simp)
  have c6 := bl_cell (v := .int .i64 at_) hb (show World.cell? _ ⟨w.heap.size + 1, 0, none⟩ = _ by go_simp)
  have c7 := bl_cell (v := .int .i64 0) hb (show World.cell? _ ⟨w.heap.size + 1, 1, none⟩ = _ by go_simp)
  have c8 := bl_cell (v := .int .i64 ahd) hb (show World.cell? _ ⟨w.heap.size + 1, 2, none⟩ = _ by go_simp)
  have c9 := bl_cell (v := .slice a n c) hb (show World.cell? _ ⟨w.heap.size + 1, 3, none⟩ = _ by go_simp)
  have c10 := bl_cell (v := .int .i64 4) hb (show World.cell? _ ⟨w.heap.size + 1 + 1, 0, none⟩ = _ by go_simp)
  have c11 := bl_cell (v := .int .i64 anow) hb (show World.cell? _ ⟨w.heap.size + 1 + 1, 1, none⟩ = _ by go_simp)
  have c12 := bl_cell (v := .int .i64 acost) hb (show World.cell? _ ⟨w.heap.size + 1 + 1, 2, none⟩ = _ by go_simp)
  have hR : ResB w1 (w.heap.size + 1 + 1 + 1) := res_bl (res_new _ _ _ _ _ _ (by simp)) hb
  have hQ : ResB w1 (w.heap.size + 1) := res_bl (res_bl (res_new (w.alloc _) _ _ _ _ _ (by simp)) (bl_alloc (bl_alloc (bl_refl _) _) _)) hb
  have hlg1 := log_bl HLOG.out hB
  clear hb HRT HLOG
  go_wp2_with fail
  refine (clone_all _ _ _ _ _ hlg1 (by have := HX.out.1; omega)).mono ?_
  rintro e w2 ⟨v1, rfl, hown1, hb⟩
  obtain ⟨a1, cp1, rfl, hlog1⟩ := own_log hown1
  have d0 := bl_cell hb c0
  have d1 := bl_cell hb c1
  have d2 := bl_cell hb c2
  have d3 := bl_cell hb c3
  have d4 := bl_cell hb c4
  have d5 := bl_cell hb c5
  have d6 := bl_cell hb c6
  have d7 := bl_cell hb c7
  have d8 := bl_cell hb c8
  have d9 := bl_cell hb c9
  have d10 := bl_cell hb c10
  have d11 := bl_cell hb c11
  have d12 := bl_cell hb c12
  have dR := res_bl hR hb
  have dQ := res_bl hQ hb
  have dB := bl_then hB hb
  have hlt1 := res_lt hR
  have fz := (dQ 3 (by omega)).1
  clear hR hQ hB hb hlg1 c0 c1 c2 c3 c4 c5 c6 c7 c8 c9 c10 c11 c12
  go_wp2_with fail
  have hown1' := own_far hown1 ⟨w.heap.size + 1, 3, none⟩ (.slice a1 n cp1) (own_above hown1 (by dsimp only; omega))
  refine (HAV.out _ _ _ (own_at hown1')).mono ?_
  rintro e w3 ⟨⟨v2, m2, rfl, hown2⟩, hb⟩
  obtain ⟨a2, cp2, rfl, hlog2⟩ := own_log hown2
  have c0 := bl_cell hb (far_set d0 ⟨w.heap.size + 1, 3, none⟩ (.slice a1 n cp1) (by dsimp only; omega))
  have c1 := bl_cell hb (far_set d1 ⟨w.heap.size + 1, 3, none⟩ (.slice a1 n cp1) (by dsimp only; omega))
  have c2 := bl_cell hb (far_set d2 ⟨w.heap.size + 1, 3, none⟩ (.slice a1 n cp1) (by dsimp only; omega))
  have c3 := bl_cell hb (far_set d3 ⟨w.heap.size + 1, 3, none⟩ (.slice a1 n cp1) (by dsimp only; omega))
  have c4 := bl_cell hb (far_set d4 ⟨w.heap.size + 1, 3, none⟩ (.slice a1 n cp1) (by dsimp only; omega))
  have c5 := bl_cell hb (far_set d5 ⟨w.heap.size + 1, 3, none⟩ (.slice a1 n cp1) (by dsimp only; omega))
  have c6 := bl_cell hb (set_other (a := ⟨w.heap.size + 1, 3, none⟩) d6 (.slice a1 n cp1) (by simp))
  have c7 := bl_cell hb (set_other (a := ⟨w.heap.size + 1, 3, none⟩) d7 (.slice a1 n cp1) (by simp))
  have c8 := bl_cell hb (set_other (a := ⟨w.heap.size + 1, 3, none⟩) d8 (.slice a1 n cp1) (by simp))
  have c9 : w3.cell? ⟨w.heap.size + 1, 3, none⟩ = some (.slice a1 n cp1) := bl_cell hb (World.cell?_setCell_same' _ _ _ (by rw [d9]; rfl))
  have c10 := bl_cell hb (far_set d10 ⟨w.heap.size + 1, 3, none⟩ (.slice a1 n cp1) (by dsimp only; omega))
  have c11 := bl_cell hb (far_set d11 ⟨w.heap.size + 1, 3, none⟩ (.slice a1 n cp1) (by dsimp only; omega))
  have c12 := bl_cell hb (far_set d12 ⟨w.heap.size + 1, 3, none⟩ (.slice a1 n cp1) (by dsimp only; omega))
  have hR := res_bl (res_set dR ⟨w.heap.size + 1, 3, none⟩ (.slice a1 n cp1)) hb
  have hB := bl_then (bl_set dB (a := ⟨w.heap.size + 1, 3, none⟩) (by dsimp only; omega) (.slice a1 n cp1)) hb
  have hO1 := own_bl hown1' hb
  have hlt2 := res_lt (res_set dR ⟨w.heap.size + 1, 3, none⟩ (.slice a1 n cp1))
  have hle3 := hb.size
  have HV2 := Go.Lib.hid (World.ownsRow.lt hown2)
  have hle1 := hlt1
  generalize (w2.setCell ⟨w.heap.size + 1, 3, none⟩ (.slice a1 n cp1)).heap.size = base2 at *
  clear hb dR dQ dB hown1 hown1' hlog1 hlog2 HAV d0 d1 d2 d3 d4 d5 d6 d7 d8 d9 d10 d11 d12
  dsimp only
  go_wp2_with fail
  refine wp_abs (S0 := fun X => X.cell? ⟨w.heap.size, 0, none⟩ = some (.int .i64 k) ∧ X.cell? ⟨w.heap.size, 1, none⟩ = some (.int .i64 l) ∧ X.cell? ⟨w.heap.size, 2, none⟩ = some (.int .i64 d) ∧ X.cell? ⟨w.heap.size, 3, none⟩ = some (.int .i64 b) ∧ X.cell? ⟨w.heap.size, 4, none⟩ = some (.int .i64 cc) ∧ X.cell? ⟨w.heap.size, 5, none⟩ = some (.bool o) ∧ X.cell? ⟨w.heap.size + 1, 0, none⟩ = some (.int .i64 at_) ∧ X.cell? ⟨w.heap.size + 1, 1, none⟩ = some (.int .i64 0) ∧ X.cell? ⟨w.heap.size + 1, 2, none⟩ = some (.int .i64 ahd) ∧ X.cell? ⟨w.heap.size + 1, 3, none⟩ = some (.slice a1 n cp1) ∧ X.cell? ⟨w.heap.size + 1 + 1, 0, none⟩ = some (.int .i64 4) ∧ X.cell? ⟨w.heap.size + 1 + 1, 1, none⟩ = some (.int .i64 anow) ∧ X.cell? ⟨w.heap.size + 1 + 1, 2, none⟩ = some (.int .i64 acost) ∧ X.cell? ⟨w3.heap.size, 0, none⟩ = some (.int .i64 aat) ∧ X.cell? ⟨w3.heap.size, 1, none⟩ = some (.int .i64 0) ∧ X.cell? ⟨w3.heap.size, 2, none⟩ = some (.int .i64 ahd) ∧ X.cell? ⟨w3.heap.size, 3, none⟩ = some (.slice a2 m2 cp2) ∧ ResB X (w.heap.size + 1 + 1 + 1) ∧ ResB X w3.heap.size ∧ OwnLog X w1.heap.size (.slice a1 n cp1) n L ∧ OwnLog X base2 (.slice a2 m2 cp2) m2 L2 ∧ Below w.heap.size w X) ⟨bl_cell (bl_alloc (bl_refl _) _) c0, bl_cell (bl_alloc (bl_refl _) _) c1, bl_cell (bl_alloc (bl_refl _) _) c2, bl_cell (bl_alloc (bl_refl _) _) c3, bl_cell (bl_alloc (bl_refl _) _) c4, bl_cell (bl_alloc (bl_refl _) _) c5, bl_cell (bl_alloc (bl_refl _) _) c6, bl_cell (bl_alloc (bl_refl _) _) c7, bl_cell (bl_alloc (bl_refl _) _) c8, bl_cell (bl_alloc (bl_refl _) _) c9, bl_cell (bl_alloc (bl_refl _) _) c10, bl_cell (bl_alloc (bl_refl _) _) c11, bl_cell (bl_alloc (bl_refl _) _) c12, by go_simp, by go_simp, by go_simp, by go_simp, res_bl hR (bl_alloc (bl_refl _) _), res_new _ _ _ _ _ _ rfl, World.ownsRow.alloc hO1 _, World.ownsRow.alloc hown2 _, bl_alloc hB _⟩ ?_
  clear hR hO1 hown2 hB c0 c1 c2 c3 c4 c5 c6 c7 c8 c9 c10 c11 c12
  generalize w3.heap.size = nb at *
  rintro X ⟨c0, c1, c2, c3, c4, c5, c6, c7, c8, c9, c10, c11, c12, x0, x1, x2, x3, hR, hN, hO1, hO2, hB⟩
  refine wp_region_held_drew (S := fun w' => w'.cell? ⟨w.heap.size, 0, none⟩ = some (.int .i64 k) ∧ w'.cell? ⟨w.heap.size, 1, none⟩ = some (.int .i64 l) ∧ w'.cell? ⟨w.heap.size, 2, none⟩ = some (.int .i64 d) ∧ w'.cell? ⟨w.heap.size, 3, none⟩ = some (.int .i64 b) ∧ w'.cell? ⟨w.heap.size, 4, none⟩ = some (.int .i64 cc) ∧ w'.cell? ⟨w.heap.size, 5, none⟩ = some (.bool o) ∧ w'.cell? ⟨w.heap.size + 1, 0, none⟩ = some (.int .i64 at_) ∧ w'.cell? ⟨w.heap.size + 1, 1, none⟩ = some (.int .i64 0) ∧ w'.cell? ⟨w.heap.size + 1, 2, none⟩ = some (.int .i64 ahd) ∧ w'.cell? ⟨w.heap.size + 1, 3, none⟩ = some (.slice a1 n cp1) ∧ w'.cell? ⟨w.heap.size + 1 + 1, 0, none⟩ = some (.int .i64 4) ∧ w'.cell? ⟨w.heap.size + 1 + 1, 1, none⟩ = some (.int .i64 anow) ∧ w'.cell? ⟨w.heap.size + 1 + 1, 2, none⟩ = some (.int .i64 acost) ∧ w'.cell? ⟨nb, 0, none⟩ = some (.int .i64 aat) ∧ w'.cell? ⟨nb, 1, none⟩ = some (.int .i64 0) ∧ w'.cell? ⟨nb, 2, none⟩ = some (.int .i64 ahd) ∧ w'.cell? ⟨nb, 3, none⟩ = some (.slice a2 m2 cp2) ∧ ResB w' (w.heap.size + 1 + 1 + 1) ∧ ResB w' nb ∧ OwnLog w' w1.heap.size (.slice a1 n cp1) n L ∧ OwnLog w' base2 (.slice a2 m2 cp2) m2 L2 ∧ Below w.heap.size w w') (by kernel_rfl) ?_ (fun hHeld => ?_)
  · exact ⟨c0, c1, c2, c3, c4, c5, c6, c7, c8, c9, c10, c11, c12, x0, x1, x2, x3, hR, hN, hO1, hO2, bl_drew hB⟩
  try simp only [Act.put, List.setIfInBounds_toArray, List.set_cons_zero, List.set_cons_succ]
  (refine tk (i := 0) rfl rfl hHeld ?_)
  (refine tk (i := 1) rfl rfl hHeld ?_)
  (refine tk (i := 2) rfl rfl hHeld ?_)
  (refine tk (i := 3) rfl rfl hHeld ?_)
  (refine tk (i := 4) rfl rfl hHeld ?_)
  (refine tk (i := 5) rfl rfl hHeld ?_)
  (refine tk (i := 6) rfl rfl hHeld ?_)
  (refine callH (i := 7) rfl hHeld (fun W hW K hK => ?_); clear hHeld; (try dsimp only at hW); obtain ⟨h0, h1, h2, h3, h4, h5, h6, h7, h8, h9, h10, h11, h12, y0, y1, y2, y3, hr', hn', ho1', ho2', hB'⟩ := hW; go_simp; refine (HSM.out _ _ _ _ (own_at ho2')).mono ?_; rintro e w9 ⟨rfl, hb⟩; go_wp2_with fail; refine hK.out _ _ ?_ (fun hHeld => ?_); (focus ((try dsimp only); exact ⟨bl_cell hb h0, bl_cell hb h1, bl_cell hb h2, bl_cell hb h3, bl_cell hb h4, bl_cell hb h5, bl_cell hb h6, bl_cell hb h7, bl_cell hb h8, bl_cell hb h9, bl_cell hb h10, bl_cell hb h11, bl_cell hb h12, bl_cell hb y0, bl_cell hb y1, bl_cell hb y2, bl_cell hb y3, res_bl hr' hb, res_bl hn' hb, own_bl ho1' hb, own_bl ho2' hb, bl_then hB' hb⟩)); clear hK K; try simp only [Act.put, List.setIfInBounds_toArray, List.set_cons_zero, List.set_cons_succ])
  (refine tk (i := 8) rfl rfl hHeld ?_)
  (refine tk (i := 9) rfl rfl hHeld ?_)
  refine wpAnyH_done (by kernel_rfl) ?_ _
  refine then_abs (F := fun X => X.cell? ⟨w.heap.size, 0, none⟩ = some (.int .i64 k) ∧ X.cell? ⟨w.heap.size, 1, none⟩ = some (.int .i64 l) ∧ X.cell? ⟨w.heap.size, 2, none⟩ = some (.int .i64 d) ∧ X.cell? ⟨w.heap.size, 3, none⟩ = some (.int .i64 b) ∧ X.cell? ⟨w.heap.size, 4, none⟩ = some (.int .i64 cc) ∧ X.cell? ⟨w.heap.size, 5, none⟩ = some (.bool o) ∧ X.cell? ⟨w.heap.size + 1, 0, none⟩ = some (.int .i64 at_) ∧ X.cell? ⟨w.heap.size + 1, 1, none⟩ = some (.int .i64 0) ∧ X.cell? ⟨w.heap.size + 1, 2, none⟩ = some (.int .i64 ahd) ∧ X.cell? ⟨w.heap.size + 1, 3, none⟩ = some (.slice a1 n cp1) ∧ X.cell? ⟨w.heap.size + 1 + 1, 0, none⟩ = some (.int .i64 4) ∧ X.cell? ⟨w.heap.size + 1 + 1, 1, none⟩ = some (.int .i64 anow) ∧ X.cell? ⟨w.heap.size + 1 + 1, 2, none⟩ = some (.int .i64 acost) ∧ X.cell? ⟨nb, 0, none⟩ = some (.int .i64 aat) ∧ X.cell? ⟨nb, 1, none⟩ = some (.int .i64 0) ∧ X.cell? ⟨nb, 2, none⟩ = some (.int .i64 ahd) ∧ X.cell? ⟨nb, 3, none⟩ = some (.slice a2 m2 cp2) ∧ ResB X (w.heap.size + 1 + 1 + 1) ∧ ResB X nb ∧ OwnLog X w1.heap.size (.slice a1 n cp1) n L ∧ OwnLog X base2 (.slice a2 m2 cp2) m2 L2 ∧ Below w.heap.size w X) hHeld ?_
  clear hHeld hR hN hO1 hO2 hB c0 c1 c2 c3 c4 c5 c6 c7 c8 c9 c10 c11 c12 x0 x1 x2 x3
  rintro Y ⟨c0, c1, c2, c3, c4, c5, c6, c7, c8, c9, c10, c11, c12, x0, x1, x2, x3, hR, hN, hO1, hO2, hE⟩
  obtain ⟨F0, F1, F2, F3, U0, U1, U2, U3, I0, I1, I2, I3⟩ := res_all hR
  have hz2 := (hN 2 (by omega)).1
  have n0 : ¬ nb = w.heap.size := by omega
  have m0' : ¬ w.heap.size = nb := by omega
  have n1 : ¬ nb = w.heap.size + 1 := by omega
  have m1' : ¬ w.heap.size + 1 = nb := by omega
  have n2 : ¬ nb = w.heap.size + 1 + 1 := by omega
  have m2' : ¬ w.heap.size + 1 + 1 = nb := by omega
  have n3 : ¬ nb = w.heap.size + 1 + 1 + 1 := by omega
  have m3' : ¬ w.heap.size + 1 + 1 + 1 = nb := by omega
  have hO3 := fun u => own_far hO2 ⟨nb, 2, none⟩ u (fun g hg => by have := (HV2.out g hg).2; dsimp only; omega)
  have HO3 := Go.Lib.hid hO3
  clear hO3
  go_wp2_with fail
  refine (HNT.out _ _ _ base2 _ (by have := res_lt hN; rw [World.size_setCell]; omega) (HO3.out _)).mono ?_
  rintro e w6 ⟨v6, m6, rfl, hown6, hb6⟩
  obtain ⟨a6, cp6, rfl, -⟩ := own_log hown6
  have hR6 := res_blB (res_set hR _ _) hb6 (by omega)
  have hE6 : Below w.heap.size w w6 := ((bl_set hE (by dsimp only; omega) _)).trans (hb6.mono (by omega))
  obtain ⟨G0, G1, G2, G3, V0, V1, V2, V3, J0, J1, J2, J3⟩ := res_all hR6
  dsimp only
  go_wp2_with fail
  (try simp only [Exit.inBlock, Exit.then])
  refine bodyPost_ret (results_state2 rfl _ _ (by rfl) (set4r hR6)) rfl ⟨⟨_, _, by first | rfl | simp, own_mono (own_far4 hown6 (own_above hown6 (by omega))) (by omega)⟩, bl4 hE6 (by omega)⟩

end Go.Proofs.Ythinbjknkjpdjaa
