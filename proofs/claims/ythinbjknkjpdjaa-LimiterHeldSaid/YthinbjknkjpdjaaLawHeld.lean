/-
  The statement LimiterHeld of this seat: for every input the law returns true, and each argument reads afterwards as it read before. No condition.
-/
import Derived.Test.YthinbjknkjpdjaaM5
import Derived.Test.YthinbjknkjpdjaaRows
import Derived.WalkKit
import Derived.ProofKit
import Derived.OpenShut
import Derived.ShutString
import Derived.ChangeOld
import Derived.Below
namespace Go.Proofs.Ythinbjknkjpdjaa
open Go.RowKit
set_option linter.unusedVariables false
set_option linter.unusedSimpArgs false

set_option maxHeartbeats 2000000 in
set_option maxRecDepth 100000 in
theorem held_long (kd lm pd bs : Int) (la : Option Addr) (m lc : Nat) (acts : List Ac) (now cost : Int) (w : World) (hm : ¬ (m : Int) ≤ 60) :
    Calls Try.prog 3 #[.int .u8 kd, .int .u16 lm, .int .u16 pd, .int .u16 bs, .slice la m lc, .int .u32 now, .int .u8 cost] w fun e w' => e = .returned (.bool true) ∧ Below w.heap.size w w' := by
  have hsm := small_any la m lc
  rw [decide_eq_false hm] at hsm
  have hkn := known_yes
  have HSM := Go.Lib.hid hsm
  have HKN := Go.Lib.hid hkn
  clear hsm hkn
  go_enter Try.func3, Try.ntmps3
  go_wp2_with go_step3
  refine (HSM.out _).mono ?_
  rintro e w1 ⟨rfl, rfl⟩
  go_wp2_with go_step3
  refine (HKN.out _).mono ?_
  rintro e w1 ⟨rfl, hb⟩
  have hsz1 : w.heap.size + 0 ≤ w1.heap.size := by have h := hb.size; (try simp at h); omega
  have hB : Below w.heap.size w w1 := hb
  clear hb
  go_wp2_with go_step3
  go_ret
  exact ⟨rfl, hB⟩

set_option maxHeartbeats 2000000 in
set_option maxRecDepth 100000 in
theorem held_none (kd lm pd bs : Int) (la : Option Addr) (m lc : Nat) (acts : List Ac) (now cost : Int) (w : World) (hkd : 0 ≤ kd ∧ kd ≤ 255) (hlm : 0 ≤ lm ∧ lm ≤ 65535) (hpd : 0 ≤ pd ∧ pd ≤ 65535) (hbs : 0 ≤ bs ∧ bs ≤ 65535) (hnow : 0 ≤ now ∧ now ≤ 4294967295) (hcost : 0 ≤ cost ∧ cost ≤ 255) (hm : (m : Int) ≤ 60) (hA : ActsIn w la m lc acts) (s : St) (hs : (runP (ofP kd lm pd bs) (newP (ofP kd lm pd bs) 0) acts).1 = s) (hh : s.held = 0) :
    Calls Try.prog 3 #[.int .u8 kd, .int .u16 lm, .int .u16 pd, .int .u16 bs, .slice la m lc, .int .u32 now, .int .u8 cost] w fun e w' => e = .returned (.bool true) ∧ Below w.heap.size w w' := by
  have hsm := small_any la m lc
  rw [decide_eq_true hm] at hsm
  have hof := fun w => ofP_any kd lm pd bs w hkd hlm hpd hbs
  obtain ⟨hC, hp1, hp2⟩ := ofP_ok kd lm pd bs hlm hpd hbs
  generalize ofP kd lm pd bs = P at *
  have KL := kern_P hC
  have hcp := capP_range hC
  have hnw := lnew_any P 0
  have hrun := fun w hw => run_any P (newP P 0) acts none 0 0 la m lc w (by rw [newP_log]; exact log_nil _ _ _ (by omega)) (by omega) hw (by omega)
  have hR : rightP P s = true := by rw [← hs]; exact right_run hC acts _ (KL.right_new 0)
  generalize runP P (newP P 0) acts = RR at *
  obtain ⟨s', rbs⟩ := RR
  dsimp only at hs
  subst hs
  rename St => s
  obtain ⟨hh0, hhc⟩ := KL.held s now hR
  have hrn := KL.room_nn s now hR
  have hmost := lmost_any P
  rw [mostP_cap hC] at hmost
  generalize hN : capP P = N at *
  have hroom := fun a n c w hw => lroom_any P s a n c now w hw
  obtain ⟨e1, e2⟩ := KL.unheld s now (s.held + 1 + cost) hR (by omega)
  have hd1 := fun a n c w hw => ldo_any P s a n c ⟨3, now, s.held + 1 + cost⟩ w hw
  have hd2 := fun a n c w hw => ldo_any P s a n c ⟨4, now, s.held + 1 + cost⟩ w hw
  generalize doP P s ⟨3, now, s.held + 1 + cost⟩ = R1 at *
  generalize doP P s ⟨4, now, s.held + 1 + cost⟩ = R2 at *
  generalize roomP P s now = RM at *
  obtain ⟨⟨r1a, r1l, r1h, r1L⟩, r1o⟩ := R1
  obtain ⟨⟨r2a, r2l, r2h, r2L⟩, r2o⟩ := R2
  dsimp only at e1 e2
  subst e1 e2
  have hxl := newP_log P 0
  generalize newP P 0 = X0 at *
  obtain ⟨sa, sl, sh, sL⟩ := s
  dsimp only at hh
  subst hh
  obtain ⟨xa, xl, xh, xL⟩ := X0
  obtain ⟨k, l, d, b, cc, o⟩ := P
  dsimp only at hxl
  subst hxl
  have hkn := known_yes
  dsimp only at *
  skip
  have hrl : RM ≤ N := by omega
  have nh1 : decide (N < RM) = false := decide_eq_false (by omega)
  clear KL hC hp1 hp2 hR hN hhc
  have ww1 : IntKind.i64.wrap now = now := IntWalk.i64_in _ (by omega)
  have ww2 : IntKind.i64.wrap cost = cost := IntWalk.i64_in _ (by omega)
  have ww3 : IntKind.i64.wrap (0 + 1) = 1 := by rfl
  have ww4 : IntKind.i64.wrap (1 + cost) = 1 + cost := IntWalk.i64_in _ (by omega)
  have ww5 : IntKind.i64.wrap RM = RM := IntWalk.i64_in _ (by omega)
  rw [show (0 : Int) + 1 + cost = 1 + cost by omega] at *
  unfold Ac.v St.v Pol.v at *
  (try dsimp only at *)
  have H_HSM := Go.Lib.hid hsm
  have H_HOF := Go.Lib.hid hof
  have H_HNW := Go.Lib.hid hnw
  have H_HRUN := Go.Lib.hid hrun
  have H_HMOST := Go.Lib.hid hmost
  have H_HROOM := Go.Lib.hid hroom
  have H_HD1 := Go.Lib.hid hd1
  have H_HD2 := Go.Lib.hid hd2
  have H_HKN := Go.Lib.hid hkn
  have H_HA := Go.Lib.hid hA
  clear hsm hof hnw hrun hmost hroom hd1 hd2 hkn hA
  go_enter Try.func3, Try.ntmps3
  go_wp2_with go_step3
  refine (H_HSM.out _).mono ?_
  rintro e w1 ⟨rfl, rfl⟩
  go_wp2_with go_step3
  refine (H_HOF.out _).mono ?_
  rintro e w1 ⟨rfl, hb⟩
  have hsz1 : w.heap.size + 0 ≤ w1.heap.size := by have h := hb.size; (try simp at h); omega
  have hB : Below w.heap.size w w1 := hb
  clear hb
  go_wp2_with go_step3
  skip
  refine wp_abs (S0 := fun X => (fun w' => w'.cell? ⟨w1.heap.size, 0, none⟩ = some (.int .i64 k) ∧ w'.cell? ⟨w1.heap.size, 1, none⟩ = some (.int .i64 l) ∧ w'.cell? ⟨w1.heap.size, 2, none⟩ = some (.int .i64 d) ∧ w'.cell? ⟨w1.heap.size, 3, none⟩ = some (.int .i64 b) ∧ w'.cell? ⟨w1.heap.size, 4, none⟩ = some (.int .i64 cc) ∧ w'.cell? ⟨w1.heap.size, 5, none⟩ = some (.bool o) ∧ Below w.heap.size w w') X ∧ w1.heap.size + 1 ≤ X.heap.size) ⟨⟨by go_simp, by go_simp, by go_simp, by go_simp, by go_simp, by go_simp, bl_alloc (hB) _⟩, by simp⟩ ?_
  clear hB
  rintro w2 ⟨⟨p0, p1, p2, p3, p4, p5, hB⟩, hsz2⟩
  have lb_p := World.block_lt_of_cell? w2 _ p0
  dsimp only at lb_p
  refine wp_region_held_drew (S := fun w' => w'.cell? ⟨w1.heap.size, 0, none⟩ = some (.int .i64 k) ∧ w'.cell? ⟨w1.heap.size, 1, none⟩ = some (.int .i64 l) ∧ w'.cell? ⟨w1.heap.size, 2, none⟩ = some (.int .i64 d) ∧ w'.cell? ⟨w1.heap.size, 3, none⟩ = some (.int .i64 b) ∧ w'.cell? ⟨w1.heap.size, 4, none⟩ = some (.int .i64 cc) ∧ w'.cell? ⟨w1.heap.size, 5, none⟩ = some (.bool o) ∧ Below w.heap.size w w') (by kernel_rfl) ?_ (fun hHeld => ?_)
  · exact ⟨p0, p1, p2, p3, p4, p5, bl_drew hB⟩
  try simp only [Act.put, List.setIfInBounds_toArray, List.set_cons_zero, List.set_cons_succ]
  clear hB p0 p1 p2 p3 p4 p5
  refine wpAnyH_abs (F := fun _ => True) hHeld trivial ?_
  clear hHeld
  rintro X0 hHeld -
  (refine tk (i := 0) rfl rfl hHeld ?_)
  (refine tk (i := 1) rfl rfl hHeld ?_)
  (refine tk (i := 3) rfl rfl hHeld ?_)
  refine callC2 (i := 2) (j := 8) rfl rfl (fun K hK => ?x1_2) (fun K hK => ?x1_8)
  case' x1_2 =>
    obtain ⟨h_p0, h_p1, h_p2, h_p3, h_p4, h_p5, h_B⟩ := (id hHeld)
    go_simp
    refine (H_HNW.out _).mono ?_
    rintro e X3 ⟨rfl, hb⟩
    go_wp2_with fail
    refine hK.out _ _ ?_ (fun hHeld2 => ?_)
    · (try dsimp only); exact ⟨bl_cell hb h_p0, bl_cell hb h_p1, bl_cell hb h_p2, bl_cell hb h_p3, bl_cell hb h_p4, bl_cell hb h_p5, bl_then h_B hb⟩
    clear hHeld hK K h_p0 h_p1 h_p2 h_p3 h_p4 h_p5 h_B hb
    have hHeld := hHeld2
    clear hHeld2
    try simp only [Act.put, List.setIfInBounds_toArray, List.set_cons_zero, List.set_cons_succ]
    refine callC2 (i := 4) (j := 8) rfl rfl (fun K hK => ?x2_4) (fun K hK => ?x2_8)
    case' x2_4 =>
      obtain ⟨h_p0, h_p1, h_p2, h_p3, h_p4, h_p5, h_B⟩ := (id hHeld)
      go_simp
      refine (H_HRUN.out _ (actsin_bl H_HA.out h_B)).mono ?_
      rintro e X4 ⟨a1, n1, c1, m1, vb, rfl, hLs, hFr, -, hb⟩
      unfold St.v
      (try dsimp only)
      go_wp2_with fail
      refine hK.out _ _ ?_ (fun hHeld2 => ?_)
      · (try dsimp only); exact ⟨bl_cell hb h_p0, bl_cell hb h_p1, bl_cell hb h_p2, bl_cell hb h_p3, bl_cell hb h_p4, bl_cell hb h_p5, bl_then h_B hb⟩
      clear hHeld hK K h_p0 h_p1 h_p2 h_p3 h_p4 h_p5 h_B hb
      have hHeld := hHeld2
      clear hHeld2
      try simp only [Act.put, List.setIfInBounds_toArray, List.set_cons_zero, List.set_cons_succ]
      (refine tk (i := 5) rfl rfl hHeld ?_)
      (refine tk (i := 6) rfl rfl hHeld ?_)
      (refine tk (i := 7) rfl rfl hHeld ?_)
      refine callC (i := 8) rfl (fun K hK => ?_)
      obtain ⟨h_p0, h_p1, h_p2, h_p3, h_p4, h_p5, h_B⟩ := (id hHeld)
      go_simp
      refine hK.out _ _ ?_ (fun hHeld2 => ?_)
      · (try dsimp only); exact ⟨bl_cell (bl_alloc (bl_refl _) _) h_p0, bl_cell (bl_alloc (bl_refl _) _) h_p1, bl_cell (bl_alloc (bl_refl _) _) h_p2, bl_cell (bl_alloc (bl_refl _) _) h_p3, bl_cell (bl_alloc (bl_refl _) _) h_p4, bl_cell (bl_alloc (bl_refl _) _) h_p5, bl_alloc h_B _⟩
      have rn0 := World.block_lt_of_cell? _ _ h_p0
      dsimp only at rn0
      have rB := h_B.size
      have hne := log_lt hLs
      replace hLs := log_bl hLs (bl_alloc (bl_refl _) (.cells #[.int .i64 0, .int .i64 0, .int .i64 0, .slice none 0 0] 32))
      clear hHeld hK K h_p0 h_p1 h_p2 h_p3 h_p4 h_p5 h_B
      have hHeld := hHeld2
      clear hHeld2
      try simp only [Act.put, List.setIfInBounds_toArray, List.set_cons_zero, List.set_cons_succ]
      refine wpAnyH_abs (F := fun X => ResB X X4.heap.size ∧ LogAt X a1 n1 c1 sL) hHeld ⟨res_new _ _ _ _ _ _ rfl, hLs⟩ ?_
      clear hHeld hLs
      generalize X4.heap.size = r at *
      replace hne := fun ad e hn => Nat.ne_of_lt (hne ad e hn)
      rintro X8 hHeld ⟨hRes, hLs⟩
      refine callC (i := 9) rfl (fun K hK => ?_)
      obtain ⟨h_p0, h_p1, h_p2, h_p3, h_p4, h_p5, h_B⟩ := (id hHeld)
      obtain ⟨f0, f1, f2, f3, u0, u1, u2, u3, i0, i1, i2, i3⟩ := res_all hRes
      go_simp
      refine hK.out _ _ ?_ (fun hHeld2 => ?_)
      · (try dsimp only); exact ⟨far4 h_p0 (by dsimp only; omega), far4 h_p1 (by dsimp only; omega), far4 h_p2 (by dsimp only; omega), far4 h_p3 (by dsimp only; omega), far4 h_p4 (by dsimp only; omega), far4 h_p5 (by dsimp only; omega), bl4 h_B (by omega)⟩
      obtain ⟨z0, z1, z2, z3⟩ := set4r (v0 := .int .i64 sa) (v1 := .int .i64 sl) (v2 := .int .i64 0) (v3 := .slice a1 n1 c1) hRes
      replace hLs := log_set4 (b := r) (v0 := .int .i64 sa) (v1 := .int .i64 sl) (v2 := .int .i64 0) (v3 := .slice a1 n1 c1) hLs hne
      replace hRes := res4 (b := r) (v0 := .int .i64 sa) (v1 := .int .i64 sl) (v2 := .int .i64 0) (v3 := .slice a1 n1 c1) hRes
      clear hHeld hK K h_p0 h_p1 h_p2 h_p3 h_p4 h_p5 h_B f0 f1 f2 f3 i0 i1 i2 i3 u0 u1 u2 u3
      have hHeld := hHeld2
      clear hHeld2
      try simp only [Act.put, List.setIfInBounds_toArray, List.set_cons_zero, List.set_cons_succ]
      (refine tk (i := 10) rfl rfl hHeld ?_)
      refine wpAnyH_done (by kernel_rfl) ?_ _
      refine then_abs (F := fun X => (fun w' => w'.cell? ⟨w1.heap.size, 0, none⟩ = some (.int .i64 k) ∧ w'.cell? ⟨w1.heap.size, 1, none⟩ = some (.int .i64 l) ∧ w'.cell? ⟨w1.heap.size, 2, none⟩ = some (.int .i64 d) ∧ w'.cell? ⟨w1.heap.size, 3, none⟩ = some (.int .i64 b) ∧ w'.cell? ⟨w1.heap.size, 4, none⟩ = some (.int .i64 cc) ∧ w'.cell? ⟨w1.heap.size, 5, none⟩ = some (.bool o) ∧ Below w.heap.size w w') X ∧ X.cell? ⟨r, 0, none⟩ = some (.int .i64 sa) ∧ X.cell? ⟨r, 1, none⟩ = some (.int .i64 sl) ∧ X.cell? ⟨r, 2, none⟩ = some (.int .i64 0) ∧ X.cell? ⟨r, 3, none⟩ = some (.slice a1 n1 c1) ∧ ResB X r ∧ LogAt X a1 n1 c1 sL) ⟨hHeld, z0, z1, z2, z3, hRes, hLs⟩ ?_
      clear hHeld z0 z1 z2 z3 hRes hLs
    case' x2_8 =>
      obtain ⟨h_p0, h_p1, h_p2, h_p3, h_p4, h_p5, h_B⟩ := (id hHeld)
      go_simp
      refine hK.out _ _ ?_ (fun hHeld2 => ?_)
      · (try dsimp only); exact ⟨bl_cell (bl_alloc (bl_refl _) _) h_p0, bl_cell (bl_alloc (bl_refl _) _) h_p1, bl_cell (bl_alloc (bl_refl _) _) h_p2, bl_cell (bl_alloc (bl_refl _) _) h_p3, bl_cell (bl_alloc (bl_refl _) _) h_p4, bl_cell (bl_alloc (bl_refl _) _) h_p5, bl_alloc h_B _⟩
      have rn0 := World.block_lt_of_cell? _ _ h_p0
      dsimp only at rn0
      have rB := h_B.size
      clear hHeld hK K h_p0 h_p1 h_p2 h_p3 h_p4 h_p5 h_B
      have hHeld := hHeld2
      clear hHeld2
      try simp only [Act.put, List.setIfInBounds_toArray, List.set_cons_zero, List.set_cons_succ]
      refine wpAnyH_abs (F := fun X => ResB X X3.heap.size) hHeld (res_new _ _ _ _ _ _ rfl) ?_
      clear hHeld
      generalize X3.heap.size = r at *
      rintro X4 hHeld hRes
      refine callC (i := 4) rfl (fun K hK => ?_)
      obtain ⟨h_p0, h_p1, h_p2, h_p3, h_p4, h_p5, h_B⟩ := (id hHeld)
      go_simp
      refine (H_HRUN.out _ (actsin_bl H_HA.out h_B)).mono ?_
      rintro e X5 ⟨a1, n1, c1, m1, vb, rfl, hLs, hFr, -, hb⟩
      unfold St.v
      (try dsimp only)
      go_wp2_with fail
      refine hK.out _ _ ?_ (fun hHeld2 => ?_)
      · (try dsimp only); exact ⟨bl_cell hb h_p0, bl_cell hb h_p1, bl_cell hb h_p2, bl_cell hb h_p3, bl_cell hb h_p4, bl_cell hb h_p5, bl_then h_B hb⟩
      have hrl := res_lt hRes
      have hne : ∀ ad, a1 = some ad → n1 ≠ 0 → ad.block ≠ r := fun ad e hn => by have := hb.size; rcases hFr with h | h; exact absurd h hn; have := h ad e; omega
      clear hrl
      replace hRes := res_bl hRes hb
      clear hHeld hK K h_p0 h_p1 h_p2 h_p3 h_p4 h_p5 h_B hb
      have hHeld := hHeld2
      clear hHeld2
      try simp only [Act.put, List.setIfInBounds_toArray, List.set_cons_zero, List.set_cons_succ]
      (refine tk (i := 5) rfl rfl hHeld ?_)
      (refine tk (i := 6) rfl rfl hHeld ?_)
      (refine tk (i := 7) rfl rfl hHeld ?_)
      refine callC (i := 9) rfl (fun K hK => ?_)
      obtain ⟨h_p0, h_p1, h_p2, h_p3, h_p4, h_p5, h_B⟩ := (id hHeld)
      obtain ⟨f0, f1, f2, f3, u0, u1, u2, u3, i0, i1, i2, i3⟩ := res_all hRes
      go_simp
      refine hK.out _ _ ?_ (fun hHeld2 => ?_)
      · (try dsimp only); exact ⟨far4 h_p0 (by dsimp only; omega), far4 h_p1 (by dsimp only; omega), far4 h_p2 (by dsimp only; omega), far4 h_p3 (by dsimp only; omega), far4 h_p4 (by dsimp only; omega), far4 h_p5 (by dsimp only; omega), bl4 h_B (by omega)⟩
      obtain ⟨z0, z1, z2, z3⟩ := set4r (v0 := .int .i64 sa) (v1 := .int .i64 sl) (v2 := .int .i64 0) (v3 := .slice a1 n1 c1) hRes
      replace hLs := log_set4 (b := r) (v0 := .int .i64 sa) (v1 := .int .i64 sl) (v2 := .int .i64 0) (v3 := .slice a1 n1 c1) hLs hne
      replace hRes := res4 (b := r) (v0 := .int .i64 sa) (v1 := .int .i64 sl) (v2 := .int .i64 0) (v3 := .slice a1 n1 c1) hRes
      clear hHeld hK K h_p0 h_p1 h_p2 h_p3 h_p4 h_p5 h_B f0 f1 f2 f3 i0 i1 i2 i3 u0 u1 u2 u3
      have hHeld := hHeld2
      clear hHeld2
      try simp only [Act.put, List.setIfInBounds_toArray, List.set_cons_zero, List.set_cons_succ]
      (refine tk (i := 10) rfl rfl hHeld ?_)
      refine wpAnyH_done (by kernel_rfl) ?_ _
      refine then_abs (F := fun X => (fun w' => w'.cell? ⟨w1.heap.size, 0, none⟩ = some (.int .i64 k) ∧ w'.cell? ⟨w1.heap.size, 1, none⟩ = some (.int .i64 l) ∧ w'.cell? ⟨w1.heap.size, 2, none⟩ = some (.int .i64 d) ∧ w'.cell? ⟨w1.heap.size, 3, none⟩ = some (.int .i64 b) ∧ w'.cell? ⟨w1.heap.size, 4, none⟩ = some (.int .i64 cc) ∧ w'.cell? ⟨w1.heap.size, 5, none⟩ = some (.bool o) ∧ Below w.heap.size w w') X ∧ X.cell? ⟨r, 0, none⟩ = some (.int .i64 sa) ∧ X.cell? ⟨r, 1, none⟩ = some (.int .i64 sl) ∧ X.cell? ⟨r, 2, none⟩ = some (.int .i64 0) ∧ X.cell? ⟨r, 3, none⟩ = some (.slice a1 n1 c1) ∧ ResB X r ∧ LogAt X a1 n1 c1 sL) ⟨hHeld, z0, z1, z2, z3, hRes, hLs⟩ ?_
      clear hHeld z0 z1 z2 z3 hRes hLs
  case' x1_8 =>
    obtain ⟨h_p0, h_p1, h_p2, h_p3, h_p4, h_p5, h_B⟩ := (id hHeld)
    go_simp
    refine hK.out _ _ ?_ (fun hHeld2 => ?_)
    · (try dsimp only); exact ⟨bl_cell (bl_alloc (bl_refl _) _) h_p0, bl_cell (bl_alloc (bl_refl _) _) h_p1, bl_cell (bl_alloc (bl_refl _) _) h_p2, bl_cell (bl_alloc (bl_refl _) _) h_p3, bl_cell (bl_alloc (bl_refl _) _) h_p4, bl_cell (bl_alloc (bl_refl _) _) h_p5, bl_alloc h_B _⟩
    have rn0 := World.block_lt_of_cell? _ _ h_p0
    dsimp only at rn0
    have rB := h_B.size
    clear hHeld hK K h_p0 h_p1 h_p2 h_p3 h_p4 h_p5 h_B
    have hHeld := hHeld2
    clear hHeld2
    try simp only [Act.put, List.setIfInBounds_toArray, List.set_cons_zero, List.set_cons_succ]
    refine wpAnyH_abs (F := fun X => ResB X X0.heap.size) hHeld (res_new _ _ _ _ _ _ rfl) ?_
    clear hHeld
    generalize X0.heap.size = r at *
    rintro X3 hHeld hRes
    refine callC (i := 2) rfl (fun K hK => ?_)
    obtain ⟨h_p0, h_p1, h_p2, h_p3, h_p4, h_p5, h_B⟩ := (id hHeld)
    go_simp
    refine (H_HNW.out _).mono ?_
    rintro e X4 ⟨rfl, hb⟩
    go_wp2_with fail
    refine hK.out _ _ ?_ (fun hHeld2 => ?_)
    · (try dsimp only); exact ⟨bl_cell hb h_p0, bl_cell hb h_p1, bl_cell hb h_p2, bl_cell hb h_p3, bl_cell hb h_p4, bl_cell hb h_p5, bl_then h_B hb⟩
    replace hRes := res_bl hRes hb
    clear hHeld hK K h_p0 h_p1 h_p2 h_p3 h_p4 h_p5 h_B hb
    have hHeld := hHeld2
    clear hHeld2
    try simp only [Act.put, List.setIfInBounds_toArray, List.set_cons_zero, List.set_cons_succ]
    refine callC (i := 4) rfl (fun K hK => ?_)
    obtain ⟨h_p0, h_p1, h_p2, h_p3, h_p4, h_p5, h_B⟩ := (id hHeld)
    go_simp
    refine (H_HRUN.out _ (actsin_bl H_HA.out h_B)).mono ?_
    rintro e X5 ⟨a1, n1, c1, m1, vb, rfl, hLs, hFr, -, hb⟩
    unfold St.v
    (try dsimp only)
    go_wp2_with fail
    refine hK.out _ _ ?_ (fun hHeld2 => ?_)
    · (try dsimp only); exact ⟨bl_cell hb h_p0, bl_cell hb h_p1, bl_cell hb h_p2, bl_cell hb h_p3, bl_cell hb h_p4, bl_cell hb h_p5, bl_then h_B hb⟩
    have hrl := res_lt hRes
    have hne : ∀ ad, a1 = some ad → n1 ≠ 0 → ad.block ≠ r := fun ad e hn => by have := hb.size; rcases hFr with h | h; exact absurd h hn; have := h ad e; omega
    clear hrl
    replace hRes := res_bl hRes hb
    clear hHeld hK K h_p0 h_p1 h_p2 h_p3 h_p4 h_p5 h_B hb
    have hHeld := hHeld2
    clear hHeld2
    try simp only [Act.put, List.setIfInBounds_toArray, List.set_cons_zero, List.set_cons_succ]
    (refine tk (i := 5) rfl rfl hHeld ?_)
    (refine tk (i := 6) rfl rfl hHeld ?_)
    (refine tk (i := 7) rfl rfl hHeld ?_)
    refine callC (i := 9) rfl (fun K hK => ?_)
    obtain ⟨h_p0, h_p1, h_p2, h_p3, h_p4, h_p5, h_B⟩ := (id hHeld)
    obtain ⟨f0, f1, f2, f3, u0, u1, u2, u3, i0, i1, i2, i3⟩ := res_all hRes
    go_simp
    refine hK.out _ _ ?_ (fun hHeld2 => ?_)
    · (try dsimp only); exact ⟨far4 h_p0 (by dsimp only; omega), far4 h_p1 (by dsimp only; omega), far4 h_p2 (by dsimp only; omega), far4 h_p3 (by dsimp only; omega), far4 h_p4 (by dsimp only; omega), far4 h_p5 (by dsimp only; omega), bl4 h_B (by omega)⟩
    obtain ⟨z0, z1, z2, z3⟩ := set4r (v0 := .int .i64 sa) (v1 := .int .i64 sl) (v2 := .int .i64 0) (v3 := .slice a1 n1 c1) hRes
    replace hLs := log_set4 (b := r) (v0 := .int .i64 sa) (v1 := .int .i64 sl) (v2 := .int .i64 0) (v3 := .slice a1 n1 c1) hLs hne
    replace hRes := res4 (b := r) (v0 := .int .i64 sa) (v1 := .int .i64 sl) (v2 := .int .i64 0) (v3 := .slice a1 n1 c1) hRes
    clear hHeld hK K h_p0 h_p1 h_p2 h_p3 h_p4 h_p5 h_B f0 f1 f2 f3 i0 i1 i2 i3 u0 u1 u2 u3
    have hHeld := hHeld2
    clear hHeld2
    try simp only [Act.put, List.setIfInBounds_toArray, List.set_cons_zero, List.set_cons_succ]
    (refine tk (i := 10) rfl rfl hHeld ?_)
    refine wpAnyH_done (by kernel_rfl) ?_ _
    refine then_abs (F := fun X => (fun w' => w'.cell? ⟨w1.heap.size, 0, none⟩ = some (.int .i64 k) ∧ w'.cell? ⟨w1.heap.size, 1, none⟩ = some (.int .i64 l) ∧ w'.cell? ⟨w1.heap.size, 2, none⟩ = some (.int .i64 d) ∧ w'.cell? ⟨w1.heap.size, 3, none⟩ = some (.int .i64 b) ∧ w'.cell? ⟨w1.heap.size, 4, none⟩ = some (.int .i64 cc) ∧ w'.cell? ⟨w1.heap.size, 5, none⟩ = some (.bool o) ∧ Below w.heap.size w w') X ∧ X.cell? ⟨r, 0, none⟩ = some (.int .i64 sa) ∧ X.cell? ⟨r, 1, none⟩ = some (.int .i64 sl) ∧ X.cell? ⟨r, 2, none⟩ = some (.int .i64 0) ∧ X.cell? ⟨r, 3, none⟩ = some (.slice a1 n1 c1) ∧ ResB X r ∧ LogAt X a1 n1 c1 sL) ⟨hHeld, z0, z1, z2, z3, hRes, hLs⟩ ?_
    clear hHeld z0 z1 z2 z3 hRes hLs
  all_goals rintro w3 ⟨⟨p0, p1, p2, p3, p4, p5, hB⟩, s0, s1, s2, s3, sR, hLs⟩
  skip
  all_goals
    replace lb_p := World.block_lt_of_cell? w3 _ p0
    dsimp only at lb_p
    have lb_s := World.block_lt_of_cell? w3 _ s0
    dsimp only at lb_s
    go_wp2_with go_step3
    refine (H_HD1.out _ _ _ _ hLs).mono ?_
    rintro e w4 ⟨a3, n3, c3, rfl, -, -, hb⟩
    have hsz3 : w3.heap.size + 0 ≤ w4.heap.size := by have h := hb.size; (try simp at h); omega
    replace p0 := bl_cell hb p0
    replace p1 := bl_cell hb p1
    replace p2 := bl_cell hb p2
    replace p3 := bl_cell hb p3
    replace p4 := bl_cell hb p4
    replace p5 := bl_cell hb p5
    replace s0 := bl_cell hb s0
    replace s1 := bl_cell hb s1
    replace s2 := bl_cell hb s2
    replace s3 := bl_cell hb s3
    replace sR := res_bl sR hb
    replace hLs := log_bl hLs hb
    replace hB : Below w.heap.size w w4 := bl_then hB hb
    replace lb_p := World.block_lt_of_cell? w4 _ p0
    dsimp only at lb_p
    replace lb_s := World.block_lt_of_cell? w4 _ s0
    dsimp only at lb_s
    clear hb
    unfold St.v
    (try dsimp only)
    go_wp2_with go_step3
    refine (H_HD2.out _ _ _ _ (log_bl hLs (bl_alloc (bl_refl _) _))).mono ?_
    rintro e w5 ⟨a4, n4, c4, rfl, -, -, hb⟩
    have hx : Below w4.heap.size w4 w5 := bl_then (bl_alloc (bl_refl _) _) hb
    have hsz4 : w4.heap.size + 1 ≤ w5.heap.size := by have h := hb.size; (try simp at h); omega
    replace p0 := bl_cell hx p0
    replace p1 := bl_cell hx p1
    replace p2 := bl_cell hx p2
    replace p3 := bl_cell hx p3
    replace p4 := bl_cell hx p4
    replace p5 := bl_cell hx p5
    replace s0 := bl_cell hx s0
    replace s1 := bl_cell hx s1
    replace s2 := bl_cell hx s2
    replace s3 := bl_cell hx s3
    replace sR := res_bl sR hx
    replace hLs := log_bl hLs hx
    have u0 := bl_cell (v := .int .i64 r1a) hb (show World.cell? _ ⟨w4.heap.size, 0, none⟩ = _ by go_simp)
    have u1 := bl_cell (v := .int .i64 r1l) hb (show World.cell? _ ⟨w4.heap.size, 1, none⟩ = _ by go_simp)
    have u2 := bl_cell (v := .int .i64 r1h) hb (show World.cell? _ ⟨w4.heap.size, 2, none⟩ = _ by go_simp)
    have u3 := bl_cell (v := .slice a3 n3 c3) hb (show World.cell? _ ⟨w4.heap.size, 3, none⟩ = _ by go_simp)
    replace hB : Below w.heap.size w w5 := bl_then hB hx
    replace lb_p := World.block_lt_of_cell? w5 _ p0
    dsimp only at lb_p
    replace lb_s := World.block_lt_of_cell? w5 _ s0
    dsimp only at lb_s
    have lb_u := World.block_lt_of_cell? w5 _ u0
    dsimp only at lb_u
    clear hb hx
    unfold St.v
    (try dsimp only)
    go_wp2_with go_step3
    skip
    refine wp_abs (S0 := fun X => (fun w' => w'.cell? ⟨w1.heap.size, 0, none⟩ = some (.int .i64 k) ∧ w'.cell? ⟨w1.heap.size, 1, none⟩ = some (.int .i64 l) ∧ w'.cell? ⟨w1.heap.size, 2, none⟩ = some (.int .i64 d) ∧ w'.cell? ⟨w1.heap.size, 3, none⟩ = some (.int .i64 b) ∧ w'.cell? ⟨w1.heap.size, 4, none⟩ = some (.int .i64 cc) ∧ w'.cell? ⟨w1.heap.size, 5, none⟩ = some (.bool o) ∧ w'.cell? ⟨r, 0, none⟩ = some (.int .i64 sa) ∧ w'.cell? ⟨r, 1, none⟩ = some (.int .i64 sl) ∧ w'.cell? ⟨r, 2, none⟩ = some (.int .i64 0) ∧ w'.cell? ⟨r, 3, none⟩ = some (.slice a1 n1 c1) ∧ ResB w' r ∧ LogAt w' a1 n1 c1 sL ∧ w'.cell? ⟨w4.heap.size, 0, none⟩ = some (.int .i64 r1a) ∧ w'.cell? ⟨w4.heap.size, 1, none⟩ = some (.int .i64 r1l) ∧ w'.cell? ⟨w4.heap.size, 2, none⟩ = some (.int .i64 r1h) ∧ w'.cell? ⟨w4.heap.size, 3, none⟩ = some (.slice a3 n3 c3) ∧ w'.cell? ⟨w5.heap.size, 0, none⟩ = some (.int .i64 r2a) ∧ w'.cell? ⟨w5.heap.size, 1, none⟩ = some (.int .i64 r2l) ∧ w'.cell? ⟨w5.heap.size, 2, none⟩ = some (.int .i64 r2h) ∧ w'.cell? ⟨w5.heap.size, 3, none⟩ = some (.slice a4 n4 c4) ∧ Below w.heap.size w w') X ∧ w5.heap.size + 1 ≤ X.heap.size) ⟨⟨bl_cell (bl_alloc (bl_refl _) _) p0, bl_cell (bl_alloc (bl_refl _) _) p1, bl_cell (bl_alloc (bl_refl _) _) p2, bl_cell (bl_alloc (bl_refl _) _) p3, bl_cell (bl_alloc (bl_refl _) _) p4, bl_cell (bl_alloc (bl_refl _) _) p5, bl_cell (bl_alloc (bl_refl _) _) s0, bl_cell (bl_alloc (bl_refl _) _) s1, bl_cell (bl_alloc (bl_refl _) _) s2, bl_cell (bl_alloc (bl_refl _) _) s3, res_bl sR (bl_alloc (bl_refl _) _), log_bl hLs (bl_alloc (bl_refl _) _), bl_cell (bl_alloc (bl_refl _) _) u0, bl_cell (bl_alloc (bl_refl _) _) u1, bl_cell (bl_alloc (bl_refl _) _) u2, bl_cell (bl_alloc (bl_refl _) _) u3, by go_simp, by go_simp, by go_simp, by go_simp, bl_alloc (hB) _⟩, by simp⟩ ?_
    clear p0 p1 p2 p3 p4 p5 s0 s1 s2 s3 sR hLs u0 u1 u2 u3 hB
    rintro w6 ⟨⟨p0, p1, p2, p3, p4, p5, s0, s1, s2, s3, sR, hLs, u0, u1, u2, u3, v0, v1, v2, v3, hB⟩, hsz5⟩
    replace lb_p := World.block_lt_of_cell? w6 _ p0
    dsimp only at lb_p
    replace lb_s := World.block_lt_of_cell? w6 _ s0
    dsimp only at lb_s
    replace lb_u := World.block_lt_of_cell? w6 _ u0
    dsimp only at lb_u
    have lb_v := World.block_lt_of_cell? w6 _ v0
    dsimp only at lb_v
    clear u0
    clear u1
    clear u2
    clear u3
    clear v0
    clear v1
    clear v2
    clear v3
    refine wp_region_held_drew (S := fun w' => w'.cell? ⟨w1.heap.size, 0, none⟩ = some (.int .i64 k) ∧ w'.cell? ⟨w1.heap.size, 1, none⟩ = some (.int .i64 l) ∧ w'.cell? ⟨w1.heap.size, 2, none⟩ = some (.int .i64 d) ∧ w'.cell? ⟨w1.heap.size, 3, none⟩ = some (.int .i64 b) ∧ w'.cell? ⟨w1.heap.size, 4, none⟩ = some (.int .i64 cc) ∧ w'.cell? ⟨w1.heap.size, 5, none⟩ = some (.bool o) ∧ w'.cell? ⟨r, 0, none⟩ = some (.int .i64 sa) ∧ w'.cell? ⟨r, 1, none⟩ = some (.int .i64 sl) ∧ w'.cell? ⟨r, 2, none⟩ = some (.int .i64 0) ∧ w'.cell? ⟨r, 3, none⟩ = some (.slice a1 n1 c1) ∧ ResB w' r ∧ LogAt w' a1 n1 c1 sL ∧ Below w.heap.size w w') (by kernel_rfl) ?_ (fun hHeld => ?_)
    · exact ⟨p0, p1, p2, p3, p4, p5, s0, s1, s2, s3, sR, hLs, bl_drew hB⟩
    try simp only [Act.put, List.setIfInBounds_toArray, List.set_cons_zero, List.set_cons_succ]
    (refine tk (i := 0) rfl rfl hHeld ?_)
    (refine tk (i := 1) rfl rfl hHeld ?_)
    first | (refine tq (i := 2) rfl rfl hHeld ?_) | (refine tk (i := 2) rfl rfl hHeld ?_)
    (refine tk (i := 3) rfl rfl hHeld ?_)
    (refine tk (i := 4) rfl rfl hHeld ?_)
    first | (refine tq (i := 5) rfl rfl hHeld ?_) | (refine tk (i := 5) rfl rfl hHeld ?_)
    first | (refine tq (i := 6) rfl rfl hHeld ?_) | (refine tk (i := 6) rfl rfl hHeld ?_)
    first | (refine tq (i := 7) rfl rfl hHeld ?_) | (refine tk (i := 7) rfl rfl hHeld ?_)
    (refine tk (i := 8) rfl rfl hHeld ?_)
    (refine tk (i := 9) rfl rfl hHeld ?_)
    first | (refine tq (i := 10) rfl rfl hHeld ?_) | (refine tk (i := 10) rfl rfl hHeld ?_)
    first | (refine tq (i := 11) rfl rfl hHeld ?_) | (refine tk (i := 11) rfl rfl hHeld ?_)
    first | (refine tq (i := 12) rfl rfl hHeld ?_) | (refine tk (i := 12) rfl rfl hHeld ?_)
    first | (refine tq (i := 13) rfl rfl hHeld ?_) | (refine tk (i := 13) rfl rfl hHeld ?_)
    first | (refine tq (i := 14) rfl rfl hHeld ?_) | (refine tk (i := 14) rfl rfl hHeld ?_)
    first | (refine tq (i := 17) rfl rfl hHeld ?_) | (refine tk (i := 17) rfl rfl hHeld ?_)
    first | (refine tq (i := 15) rfl rfl hHeld ?_) | (refine callH (i := 15) rfl hHeld (fun W hW K hK => ?_); clear hHeld; (try dsimp only at hW); obtain ⟨h_p0, h_p1, h_p2, h_p3, h_p4, h_p5, h_s0, h_s1, h_s2, h_s3, h_sR, h_hLs, h_B⟩ := hW; go_simp; refine (H_HROOM.out _ _ _ _ h_hLs).mono ?_; rintro e w9 ⟨rfl, hb⟩; go_wp2_with fail; refine hK.out _ _ ?_ (fun hHeld => ?_); (focus ((try dsimp only); exact ⟨bl_cell hb h_p0, bl_cell hb h_p1, bl_cell hb h_p2, bl_cell hb h_p3, bl_cell hb h_p4, bl_cell hb h_p5, bl_cell hb h_s0, bl_cell hb h_s1, bl_cell hb h_s2, bl_cell hb h_s3, res_bl h_sR hb, log_bl h_hLs hb, bl_then h_B hb⟩)); clear hK K; clear h_p0 h_p1 h_p2 h_p3 h_p4 h_p5 h_s0 h_s1 h_s2 h_s3 h_sR h_hLs h_B; try simp only [Act.put, List.setIfInBounds_toArray, List.set_cons_zero, List.set_cons_succ])
    first | (refine tq (i := 16) rfl rfl hHeld ?_) | (refine tk (i := 16) rfl rfl hHeld ?_)
    first | (refine tq (i := 18) rfl rfl hHeld ?_) | (refine callH (i := 18) rfl hHeld (fun W hW K hK => ?_); clear hHeld; (try dsimp only at hW); obtain ⟨h_p0, h_p1, h_p2, h_p3, h_p4, h_p5, h_s0, h_s1, h_s2, h_s3, h_sR, h_hLs, h_B⟩ := hW; go_simp; refine (H_HMOST.out _).mono ?_; rintro e w9 ⟨rfl, hb⟩; go_wp2_with fail; refine hK.out _ _ ?_ (fun hHeld => ?_); (focus ((try dsimp only); exact ⟨bl_cell hb h_p0, bl_cell hb h_p1, bl_cell hb h_p2, bl_cell hb h_p3, bl_cell hb h_p4, bl_cell hb h_p5, bl_cell hb h_s0, bl_cell hb h_s1, bl_cell hb h_s2, bl_cell hb h_s3, res_bl h_sR hb, log_bl h_hLs hb, bl_then h_B hb⟩)); clear hK K; clear h_p0 h_p1 h_p2 h_p3 h_p4 h_p5 h_s0 h_s1 h_s2 h_s3 h_sR h_hLs h_B; try simp only [Act.put, List.setIfInBounds_toArray, List.set_cons_zero, List.set_cons_succ])
    first | (refine tq (i := 19) rfl rfl hHeld ?_) | (refine tk (i := 19) rfl rfl hHeld ?_)
    (refine tk (i := 20) rfl rfl hHeld ?_)
    refine wpAnyH_done (by kernel_rfl) ?_ _
    refine then_abs (F := fun w' => w'.cell? ⟨w1.heap.size, 0, none⟩ = some (.int .i64 k) ∧ w'.cell? ⟨w1.heap.size, 1, none⟩ = some (.int .i64 l) ∧ w'.cell? ⟨w1.heap.size, 2, none⟩ = some (.int .i64 d) ∧ w'.cell? ⟨w1.heap.size, 3, none⟩ = some (.int .i64 b) ∧ w'.cell? ⟨w1.heap.size, 4, none⟩ = some (.int .i64 cc) ∧ w'.cell? ⟨w1.heap.size, 5, none⟩ = some (.bool o) ∧ w'.cell? ⟨r, 0, none⟩ = some (.int .i64 sa) ∧ w'.cell? ⟨r, 1, none⟩ = some (.int .i64 sl) ∧ w'.cell? ⟨r, 2, none⟩ = some (.int .i64 0) ∧ w'.cell? ⟨r, 3, none⟩ = some (.slice a1 n1 c1) ∧ ResB w' r ∧ LogAt w' a1 n1 c1 sL ∧ Below w.heap.size w w') hHeld ?_
    clear hHeld hB p0 p1 p2 p3 p4 p5 s0 s1 s2 s3 sR hLs
    rintro w7 ⟨p0, p1, p2, p3, p4, p5, s0, s1, s2, s3, sR, hLs, hB⟩
    replace lb_p := World.block_lt_of_cell? w7 _ p0
    dsimp only at lb_p
    replace lb_s := World.block_lt_of_cell? w7 _ s0
    dsimp only at lb_s
    go_wp2_with go_step3
    refine (H_HKN.out _).mono ?_
    rintro e w8 ⟨rfl, hb⟩
    have hsz6 : w7.heap.size + 0 ≤ w8.heap.size := by have h := hb.size; (try simp at h); omega
    replace p0 := bl_cell hb p0
    replace p1 := bl_cell hb p1
    replace p2 := bl_cell hb p2
    replace p3 := bl_cell hb p3
    replace p4 := bl_cell hb p4
    replace p5 := bl_cell hb p5
    replace s0 := bl_cell hb s0
    replace s1 := bl_cell hb s1
    replace s2 := bl_cell hb s2
    replace s3 := bl_cell hb s3
    replace sR := res_bl sR hb
    replace hLs := log_bl hLs hb
    replace hB : Below w.heap.size w w8 := bl_then hB hb
    replace lb_p := World.block_lt_of_cell? w8 _ p0
    dsimp only at lb_p
    replace lb_s := World.block_lt_of_cell? w8 _ s0
    dsimp only at lb_s
    clear hb
    go_wp2_with go_step3
    go_ret
    exact ⟨rfl, hB⟩

set_option maxHeartbeats 2000000 in
set_option maxRecDepth 100000 in
theorem held_some (kd lm pd bs : Int) (la : Option Addr) (m lc : Nat) (acts : List Ac) (now cost : Int) (w : World) (hkd : 0 ≤ kd ∧ kd ≤ 255) (hlm : 0 ≤ lm ∧ lm ≤ 65535) (hpd : 0 ≤ pd ∧ pd ≤ 65535) (hbs : 0 ≤ bs ∧ bs ≤ 65535) (hnow : 0 ≤ now ∧ now ≤ 4294967295) (hcost : 0 ≤ cost ∧ cost ≤ 255) (hm : (m : Int) ≤ 60) (hA : ActsIn w la m lc acts) (s : St) (hs : (runP (ofP kd lm pd bs) (newP (ofP kd lm pd bs) 0) acts).1 = s) (hh : ¬ s.held = 0) :
    Calls Try.prog 3 #[.int .u8 kd, .int .u16 lm, .int .u16 pd, .int .u16 bs, .slice la m lc, .int .u32 now, .int .u8 cost] w fun e w' => e = .returned (.bool true) ∧ Below w.heap.size w w' := by
  have hsm := small_any la m lc
  rw [decide_eq_true hm] at hsm
  have hof := fun w => ofP_any kd lm pd bs w hkd hlm hpd hbs
  obtain ⟨hC, hp1, hp2⟩ := ofP_ok kd lm pd bs hlm hpd hbs
  generalize ofP kd lm pd bs = P at *
  have KL := kern_P hC
  have hcp := capP_range hC
  have hnw := lnew_any P 0
  have hrun := fun w hw => run_any P (newP P 0) acts none 0 0 la m lc w (by rw [newP_log]; exact log_nil _ _ _ (by omega)) (by omega) hw (by omega)
  have hR : rightP P s = true := by rw [← hs]; exact right_run hC acts _ (KL.right_new 0)
  generalize runP P (newP P 0) acts = RR at *
  obtain ⟨s', rbs⟩ := RR
  dsimp only at hs
  subst hs
  rename St => s
  obtain ⟨hh0, hhc⟩ := KL.held s now hR
  have hrn := KL.room_nn s now hR
  have hmost := lmost_any P
  rw [mostP_cap hC] at hmost
  generalize hN : capP P = N at *
  have hroom := fun a n c w hw => lroom_any P s a n c now w hw
  obtain ⟨e1, e2⟩ := KL.unheld s now (s.held + 1 + cost) hR (by omega)
  have hd1 := fun a n c w hw => ldo_any P s a n c ⟨3, now, s.held + 1 + cost⟩ w hw
  have hd2 := fun a n c w hw => ldo_any P s a n c ⟨4, now, s.held + 1 + cost⟩ w hw
  generalize doP P s ⟨3, now, s.held + 1 + cost⟩ = R1 at *
  generalize doP P s ⟨4, now, s.held + 1 + cost⟩ = R2 at *
  obtain ⟨e3, e4, e5, e6⟩ := KL.free s now hR (by omega)
  have hfr := KL.free_room s now hR (by omega)
  have hd3 := fun a n c w hw => ldo_any P s a n c ⟨3, now, s.held⟩ w hw
  have hd4 := fun a n c w hw => ldo_any P s a n c ⟨4, now, s.held⟩ w hw
  have hrt := fun a n c w hw => lroom_any P (doP P s ⟨3, now, s.held⟩).1 a n c now w hw
  have hru := fun a n c w hw => lroom_any P (doP P s ⟨4, now, s.held⟩).1 a n c now w hw
  generalize doP P s ⟨3, now, s.held⟩ = R3 at *
  generalize doP P s ⟨4, now, s.held⟩ = R4 at *
  generalize roomP P R3.1 now = RT at *
  generalize roomP P R4.1 now = RU at *
  obtain ⟨⟨r3a, r3l, r3h, r3L⟩, r3o⟩ := R3
  obtain ⟨⟨r4a, r4l, r4h, r4L⟩, r4o⟩ := R4
  dsimp only at e3 e4 e5 e6 hfr
  subst e3 e4 e5 e6
  generalize roomP P s now = RM at *
  obtain ⟨⟨r1a, r1l, r1h, r1L⟩, r1o⟩ := R1
  obtain ⟨⟨r2a, r2l, r2h, r2L⟩, r2o⟩ := R2
  dsimp only at e1 e2
  subst e1 e2
  have hxl := newP_log P 0
  generalize newP P 0 = X0 at *
  obtain ⟨sa, sl, sh, sL⟩ := s
  dsimp only at hh
  obtain ⟨xa, xl, xh, xL⟩ := X0
  obtain ⟨k, l, d, b, cc, o⟩ := P
  dsimp only at hxl
  subst hxl
  have hkn := known_yes
  dsimp only at *
  skip
  have hrl : sh + RM ≤ N := hhc
  have nh0 : decide (sh < 0) = false := decide_eq_false (by omega)
  have nh1 : decide (N < sh + RM) = false := decide_eq_false (by omega)
  have nh2 : decide (RU ≤ RT) = true := decide_eq_true hfr
  clear KL hC hp1 hp2 hR hN hhc
  have ww1 : IntKind.i64.wrap now = now := IntWalk.i64_in _ (by omega)
  have ww2 : IntKind.i64.wrap cost = cost := IntWalk.i64_in _ (by omega)
  have ww3 : IntKind.i64.wrap (sh + 1) = sh + 1 := IntWalk.i64_in _ (by omega)
  have ww4 : IntKind.i64.wrap (sh + 1 + cost) = sh + 1 + cost := IntWalk.i64_in _ (by omega)
  have ww5 : IntKind.i64.wrap (sh + RM) = sh + RM := IntWalk.i64_in _ (by omega)
  unfold Ac.v St.v Pol.v at *
  (try dsimp only at *)
  have H_HSM := Go.Lib.hid hsm
  have H_HOF := Go.Lib.hid hof
  have H_HNW := Go.Lib.hid hnw
  have H_HRUN := Go.Lib.hid hrun
  have H_HMOST := Go.Lib.hid hmost
  have H_HROOM := Go.Lib.hid hroom
  have H_HD1 := Go.Lib.hid hd1
  have H_HD2 := Go.Lib.hid hd2
  have H_HKN := Go.Lib.hid hkn
  have H_HA := Go.Lib.hid hA
  have H_HD3 := Go.Lib.hid hd3
  have H_HD4 := Go.Lib.hid hd4
  have H_HRT := Go.Lib.hid hrt
  have H_HRU := Go.Lib.hid hru
  clear hsm hof hnw hrun hmost hroom hd1 hd2 hkn hA hd3 hd4 hrt hru
  go_enter Try.func3, Try.ntmps3
  go_wp2_with go_step3
  refine (H_HSM.out _).mono ?_
  rintro e w1 ⟨rfl, rfl⟩
  go_wp2_with go_step3
  refine (H_HOF.out _).mono ?_
  rintro e w1 ⟨rfl, hb⟩
  have hsz1 : w.heap.size + 0 ≤ w1.heap.size := by have h := hb.size; (try simp at h); omega
  have hB : Below w.heap.size w w1 := hb
  clear hb
  go_wp2_with go_step3
  skip
  refine wp_abs (S0 := fun X => (fun w' => w'.cell? ⟨w1.heap.size, 0, none⟩ = some (.int .i64 k) ∧ w'.cell? ⟨w1.heap.size, 1, none⟩ = some (.int .i64 l) ∧ w'.cell? ⟨w1.heap.size, 2, none⟩ = some (.int .i64 d) ∧ w'.cell? ⟨w1.heap.size, 3, none⟩ = some (.int .i64 b) ∧ w'.cell? ⟨w1.heap.size, 4, none⟩ = some (.int .i64 cc) ∧ w'.cell? ⟨w1.heap.size, 5, none⟩ = some (.bool o) ∧ Below w.heap.size w w') X ∧ w1.heap.size + 1 ≤ X.heap.size) ⟨⟨by go_simp, by go_simp, by go_simp, by go_simp, by go_simp, by go_simp, bl_alloc (hB) _⟩, by simp⟩ ?_
  clear hB
  rintro w2 ⟨⟨p0, p1, p2, p3, p4, p5, hB⟩, hsz2⟩
  have lb_p := World.block_lt_of_cell? w2 _ p0
  dsimp only at lb_p
  refine wp_region_held_drew (S := fun w' => w'.cell? ⟨w1.heap.size, 0, none⟩ = some (.int .i64 k) ∧ w'.cell? ⟨w1.heap.size, 1, none⟩ = some (.int .i64 l) ∧ w'.cell? ⟨w1.heap.size, 2, none⟩ = some (.int .i64 d) ∧ w'.cell? ⟨w1.heap.size, 3, none⟩ = some (.int .i64 b) ∧ w'.cell? ⟨w1.heap.size, 4, none⟩ = some (.int .i64 cc) ∧ w'.cell? ⟨w1.heap.size, 5, none⟩ = some (.bool o) ∧ Below w.heap.size w w') (by kernel_rfl) ?_ (fun hHeld => ?_)
  · exact ⟨p0, p1, p2, p3, p4, p5, bl_drew hB⟩
  try simp only [Act.put, List.setIfInBounds_toArray, List.set_cons_zero, List.set_cons_succ]
  clear hB p0 p1 p2 p3 p4 p5
  refine wpAnyH_abs (F := fun _ => True) hHeld trivial ?_
  clear hHeld
  rintro X0 hHeld -
  (refine tk (i := 0) rfl rfl hHeld ?_)
  (refine tk (i := 1) rfl rfl hHeld ?_)
  (refine tk (i := 3) rfl rfl hHeld ?_)
  refine callC2 (i := 2) (j := 8) rfl rfl (fun K hK => ?x1_2) (fun K hK => ?x1_8)
  case' x1_2 =>
    obtain ⟨h_p0, h_p1, h_p2, h_p3, h_p4, h_p5, h_B⟩ := (id hHeld)
    go_simp
    refine (H_HNW.out _).mono ?_
    rintro e X3 ⟨rfl, hb⟩
    go_wp2_with fail
    refine hK.out _ _ ?_ (fun hHeld2 => ?_)
    · (try dsimp only); exact ⟨bl_cell hb h_p0, bl_cell hb h_p1, bl_cell hb h_p2, bl_cell hb h_p3, bl_cell hb h_p4, bl_cell hb h_p5, bl_then h_B hb⟩
    clear hHeld hK K h_p0 h_p1 h_p2 h_p3 h_p4 h_p5 h_B hb
    have hHeld := hHeld2
    clear hHeld2
    try simp only [Act.put, List.setIfInBounds_toArray, List.set_cons_zero, List.set_cons_succ]
    refine callC2 (i := 4) (j := 8) rfl rfl (fun K hK => ?x2_4) (fun K hK => ?x2_8)
    case' x2_4 =>
      obtain ⟨h_p0, h_p1, h_p2, h_p3, h_p4, h_p5, h_B⟩ := (id hHeld)
      go_simp
      refine (H_HRUN.out _ (actsin_bl H_HA.out h_B)).mono ?_
      rintro e X4 ⟨a1, n1, c1, m1, vb, rfl, hLs, hFr, -, hb⟩
      unfold St.v
      (try dsimp only)
      go_wp2_with fail
      refine hK.out _ _ ?_ (fun hHeld2 => ?_)
      · (try dsimp only); exact ⟨bl_cell hb h_p0, bl_cell hb h_p1, bl_cell hb h_p2, bl_cell hb h_p3, bl_cell hb h_p4, bl_cell hb h_p5, bl_then h_B hb⟩
      clear hHeld hK K h_p0 h_p1 h_p2 h_p3 h_p4 h_p5 h_B hb
      have hHeld := hHeld2
      clear hHeld2
      try simp only [Act.put, List.setIfInBounds_toArray, List.set_cons_zero, List.set_cons_succ]
      (refine tk (i := 5) rfl rfl hHeld ?_)
      (refine tk (i := 6) rfl rfl hHeld ?_)
      (refine tk (i := 7) rfl rfl hHeld ?_)
      refine callC (i := 8) rfl (fun K hK => ?_)
      obtain ⟨h_p0, h_p1, h_p2, h_p3, h_p4, h_p5, h_B⟩ := (id hHeld)
      go_simp
      refine hK.out _ _ ?_ (fun hHeld2 => ?_)
      · (try dsimp only); exact ⟨bl_cell (bl_alloc (bl_refl _) _) h_p0, bl_cell (bl_alloc (bl_refl _) _) h_p1, bl_cell (bl_alloc (bl_refl _) _) h_p2, bl_cell (bl_alloc (bl_refl _) _) h_p3, bl_cell (bl_alloc (bl_refl _) _) h_p4, bl_cell (bl_alloc (bl_refl _) _) h_p5, bl_alloc h_B _⟩
      have rn0 := World.block_lt_of_cell? _ _ h_p0
      dsimp only at rn0
      have rB := h_B.size
      have hne := log_lt hLs
      replace hLs := log_bl hLs (bl_alloc (bl_refl _) (.cells #[.int .i64 0, .int .i64 0, .int .i64 0, .slice none 0 0] 32))
      clear hHeld hK K h_p0 h_p1 h_p2 h_p3 h_p4 h_p5 h_B
      have hHeld := hHeld2
      clear hHeld2
      try simp only [Act.put, List.setIfInBounds_toArray, List.set_cons_zero, List.set_cons_succ]
      refine wpAnyH_abs (F := fun X => ResB X X4.heap.size ∧ LogAt X a1 n1 c1 sL) hHeld ⟨res_new _ _ _ _ _ _ rfl, hLs⟩ ?_
      clear hHeld hLs
      generalize X4.heap.size = r at *
      replace hne := fun ad e hn => Nat.ne_of_lt (hne ad e hn)
      rintro X8 hHeld ⟨hRes, hLs⟩
      refine callC (i := 9) rfl (fun K hK => ?_)
      obtain ⟨h_p0, h_p1, h_p2, h_p3, h_p4, h_p5, h_B⟩ := (id hHeld)
      obtain ⟨f0, f1, f2, f3, u0, u1, u2, u3, i0, i1, i2, i3⟩ := res_all hRes
      go_simp
      refine hK.out _ _ ?_ (fun hHeld2 => ?_)
      · (try dsimp only); exact ⟨far4 h_p0 (by dsimp only; omega), far4 h_p1 (by dsimp only; omega), far4 h_p2 (by dsimp only; omega), far4 h_p3 (by dsimp only; omega), far4 h_p4 (by dsimp only; omega), far4 h_p5 (by dsimp only; omega), bl4 h_B (by omega)⟩
      obtain ⟨z0, z1, z2, z3⟩ := set4r (v0 := .int .i64 sa) (v1 := .int .i64 sl) (v2 := .int .i64 sh) (v3 := .slice a1 n1 c1) hRes
      replace hLs := log_set4 (b := r) (v0 := .int .i64 sa) (v1 := .int .i64 sl) (v2 := .int .i64 sh) (v3 := .slice a1 n1 c1) hLs hne
      replace hRes := res4 (b := r) (v0 := .int .i64 sa) (v1 := .int .i64 sl) (v2 := .int .i64 sh) (v3 := .slice a1 n1 c1) hRes
      clear hHeld hK K h_p0 h_p1 h_p2 h_p3 h_p4 h_p5 h_B f0 f1 f2 f3 i0 i1 i2 i3 u0 u1 u2 u3
      have hHeld := hHeld2
      clear hHeld2
      try simp only [Act.put, List.setIfInBounds_toArray, List.set_cons_zero, List.set_cons_succ]
      (refine tk (i := 10) rfl rfl hHeld ?_)
      refine wpAnyH_done (by kernel_rfl) ?_ _
      refine then_abs (F := fun X => (fun w' => w'.cell? ⟨w1.heap.size, 0, none⟩ = some (.int .i64 k) ∧ w'.cell? ⟨w1.heap.size, 1, none⟩ = some (.int .i64 l) ∧ w'.cell? ⟨w1.heap.size, 2, none⟩ = some (.int .i64 d) ∧ w'.cell? ⟨w1.heap.size, 3, none⟩ = some (.int .i64 b) ∧ w'.cell? ⟨w1.heap.size, 4, none⟩ = some (.int .i64 cc) ∧ w'.cell? ⟨w1.heap.size, 5, none⟩ = some (.bool o) ∧ Below w.heap.size w w') X ∧ X.cell? ⟨r, 0, none⟩ = some (.int .i64 sa) ∧ X.cell? ⟨r, 1, none⟩ = some (.int .i64 sl) ∧ X.cell? ⟨r, 2, none⟩ = some (.int .i64 sh) ∧ X.cell? ⟨r, 3, none⟩ = some (.slice a1 n1 c1) ∧ ResB X r ∧ LogAt X a1 n1 c1 sL) ⟨hHeld, z0, z1, z2, z3, hRes, hLs⟩ ?_
      clear hHeld z0 z1 z2 z3 hRes hLs
    case' x2_8 =>
      obtain ⟨h_p0, h_p1, h_p2, h_p3, h_p4, h_p5, h_B⟩ := (id hHeld)
      go_simp
      refine hK.out _ _ ?_ (fun hHeld2 => ?_)
      · (try dsimp only); exact ⟨bl_cell (bl_alloc (bl_refl _) _) h_p0, bl_cell (bl_alloc (bl_refl _) _) h_p1, bl_cell (bl_alloc (bl_refl _) _) h_p2, bl_cell (bl_alloc (bl_refl _) _) h_p3, bl_cell (bl_alloc (bl_refl _) _) h_p4, bl_cell (bl_alloc (bl_refl _) _) h_p5, bl_alloc h_B _⟩
      have rn0 := World.block_lt_of_cell? _ _ h_p0
      dsimp only at rn0
      have rB := h_B.size
      clear hHeld hK K h_p0 h_p1 h_p2 h_p3 h_p4 h_p5 h_B
      have hHeld := hHeld2
      clear hHeld2
      try simp only [Act.put, List.setIfInBounds_toArray, List.set_cons_zero, List.set_cons_succ]
      refine wpAnyH_abs (F := fun X => ResB X X3.heap.size) hHeld (res_new _ _ _ _ _ _ rfl) ?_
      clear hHeld
      generalize X3.heap.size = r at *
      rintro X4 hHeld hRes
      refine callC (i := 4) rfl (fun K hK => ?_)
      obtain ⟨h_p0, h_p1, h_p2, h_p3, h_p4, h_p5, h_B⟩ := (id hHeld)
      go_simp
      refine (H_HRUN.out _ (actsin_bl H_HA.out h_B)).mono ?_
      rintro e X5 ⟨a1, n1, c1, m1, vb, rfl, hLs, hFr, -, hb⟩
      unfold St.v
      (try dsimp only)
      go_wp2_with fail
      refine hK.out _ _ ?_ (fun hHeld2 => ?_)
      · (try dsimp only); exact ⟨bl_cell hb h_p0, bl_cell hb h_p1, bl_cell hb h_p2, bl_cell hb h_p3, bl_cell hb h_p4, bl_cell hb h_p5, bl_then h_B hb⟩
      have hrl := res_lt hRes
      have hne : ∀ ad, a1 = some ad → n1 ≠ 0 → ad.block ≠ r := fun ad e hn => by have := hb.size; rcases hFr with h | h; exact absurd h hn; have := h ad e; omega
      clear hrl
      replace hRes := res_bl hRes hb
      clear hHeld hK K h_p0 h_p1 h_p2 h_p3 h_p4 h_p5 h_B hb
      have hHeld := hHeld2
      clear hHeld2
      try simp only [Act.put, List.setIfInBounds_toArray, List.set_cons_zero, List.set_cons_succ]
      (refine tk (i := 5) rfl rfl hHeld ?_)
      (refine tk (i := 6) rfl rfl hHeld ?_)
      (refine tk (i := 7) rfl rfl hHeld ?_)
      refine callC (i := 9) rfl (fun K hK => ?_)
      obtain ⟨h_p0, h_p1, h_p2, h_p3, h_p4, h_p5, h_B⟩ := (id hHeld)
      obtain ⟨f0, f1, f2, f3, u0, u1, u2, u3, i0, i1, i2, i3⟩ := res_all hRes
      go_simp
      refine hK.out _ _ ?_ (fun hHeld2 => ?_)
      · (try dsimp only); exact ⟨far4 h_p0 (by dsimp only; omega), far4 h_p1 (by dsimp only; omega), far4 h_p2 (by dsimp only; omega), far4 h_p3 (by dsimp only; omega), far4 h_p4 (by dsimp only; omega), far4 h_p5 (by dsimp only; omega), bl4 h_B (by omega)⟩
      obtain ⟨z0, z1, z2, z3⟩ := set4r (v0 := .int .i64 sa) (v1 := .int .i64 sl) (v2 := .int .i64 sh) (v3 := .slice a1 n1 c1) hRes
      replace hLs := log_set4 (b := r) (v0 := .int .i64 sa) (v1 := .int .i64 sl) (v2 := .int .i64 sh) (v3 := .slice a1 n1 c1) hLs hne
      replace hRes := res4 (b := r) (v0 := .int .i64 sa) (v1 := .int .i64 sl) (v2 := .int .i64 sh) (v3 := .slice a1 n1 c1) hRes
      clear hHeld hK K h_p0 h_p1 h_p2 h_p3 h_p4 h_p5 h_B f0 f1 f2 f3 i0 i1 i2 i3 u0 u1 u2 u3
      have hHeld := hHeld2
      clear hHeld2
      try simp only [Act.put, List.setIfInBounds_toArray, List.set_cons_zero, List.set_cons_succ]
      (refine tk (i := 10) rfl rfl hHeld ?_)
      refine wpAnyH_done (by kernel_rfl) ?_ _
      refine then_abs (F := fun X => (fun w' => w'.cell? ⟨w1.heap.size, 0, none⟩ = some (.int .i64 k) ∧ w'.cell? ⟨w1.heap.size, 1, none⟩ = some (.int .i64 l) ∧ w'.cell? ⟨w1.heap.size, 2, none⟩ = some (.int .i64 d) ∧ w'.cell? ⟨w1.heap.size, 3, none⟩ = some (.int .i64 b) ∧ w'.cell? ⟨w1.heap.size, 4, none⟩ = some (.int .i64 cc) ∧ w'.cell? ⟨w1.heap.size, 5, none⟩ = some (.bool o) ∧ Below w.heap.size w w') X ∧ X.cell? ⟨r, 0, none⟩ = some (.int .i64 sa) ∧ X.cell? ⟨r, 1, none⟩ = some (.int .i64 sl) ∧ X.cell? ⟨r, 2, none⟩ = some (.int .i64 sh) ∧ X.cell? ⟨r, 3, none⟩ = some (.slice a1 n1 c1) ∧ ResB X r ∧ LogAt X a1 n1 c1 sL) ⟨hHeld, z0, z1, z2, z3, hRes, hLs⟩ ?_
      clear hHeld z0 z1 z2 z3 hRes hLs
  case' x1_8 =>
    obtain ⟨h_p0, h_p1, h_p2, h_p3, h_p4, h_p5, h_B⟩ := (id hHeld)
    go_simp
    refine hK.out _ _ ?_ (fun hHeld2 => ?_)
    · (try dsimp only); exact ⟨bl_cell (bl_alloc (bl_refl _) _) h_p0, bl_cell (bl_alloc (bl_refl _) _) h_p1, bl_cell (bl_alloc (bl_refl _) _) h_p2, bl_cell (bl_alloc (bl_refl _) _) h_p3, bl_cell (bl_alloc (bl_refl _) _) h_p4, bl_cell (bl_alloc (bl_refl _) _) h_p5, bl_alloc h_B _⟩
    have rn0 := World.block_lt_of_cell? _ _ h_p0
    dsimp only at rn0
    have rB := h_B.size
    clear hHeld hK K h_p0 h_p1 h_p2 h_p3 h_p4 h_p5 h_B
    have hHeld := hHeld2
    clear hHeld2
    try simp only [Act.put, List.setIfInBounds_toArray, List.set_cons_zero, List.set_cons_succ]
    refine wpAnyH_abs (F := fun X => ResB X X0.heap.size) hHeld (res_new _ _ _ _ _ _ rfl) ?_
    clear hHeld
    generalize X0.heap.size = r at *
    rintro X3 hHeld hRes
    refine callC (i := 2) rfl (fun K hK => ?_)
    obtain ⟨h_p0, h_p1, h_p2, h_p3, h_p4, h_p5, h_B⟩ := (id hHeld)
    go_simp
    refine (H_HNW.out _).mono ?_
    rintro e X4 ⟨rfl, hb⟩
    go_wp2_with fail
    refine hK.out _ _ ?_ (fun hHeld2 => ?_)
    · (try dsimp only); exact ⟨bl_cell hb h_p0, bl_cell hb h_p1, bl_cell hb h_p2, bl_cell hb h_p3, bl_cell hb h_p4, bl_cell hb h_p5, bl_then h_B hb⟩
    replace hRes := res_bl hRes hb
    clear hHeld hK K h_p0 h_p1 h_p2 h_p3 h_p4 h_p5 h_B hb
    have hHeld := hHeld2
    clear hHeld2
    try simp only [Act.put, List.setIfInBounds_toArray, List.set_cons_zero, List.set_cons_succ]
    refine callC (i := 4) rfl (fun K hK => ?_)
    obtain ⟨h_p0, h_p1, h_p2, h_p3, h_p4, h_p5, h_B⟩ := (id hHeld)
    go_simp
    refine (H_HRUN.out _ (actsin_bl H_HA.out h_B)).mono ?_
    rintro e X5 ⟨a1, n1, c1, m1, vb, rfl, hLs, hFr, -, hb⟩
    unfold St.v
    (try dsimp only)
    go_wp2_with fail
    refine hK.out _ _ ?_ (fun hHeld2 => ?_)
    · (try dsimp only); exact ⟨bl_cell hb h_p0, bl_cell hb h_p1, bl_cell hb h_p2, bl_cell hb h_p3, bl_cell hb h_p4, bl_cell hb h_p5, bl_then h_B hb⟩
    have hrl := res_lt hRes
    have hne : ∀ ad, a1 = some ad → n1 ≠ 0 → ad.block ≠ r := fun ad e hn => by have := hb.size; rcases hFr with h | h; exact absurd h hn; have := h ad e; omega
    clear hrl
    replace hRes := res_bl hRes hb
    clear hHeld hK K h_p0 h_p1 h_p2 h_p3 h_p4 h_p5 h_B hb
    have hHeld := hHeld2
    clear hHeld2
    try simp only [Act.put, List.setIfInBounds_toArray, List.set_cons_zero, List.set_cons_succ]
    (refine tk (i := 5) rfl rfl hHeld ?_)
    (refine tk (i := 6) rfl rfl hHeld ?_)
    (refine tk (i := 7) rfl rfl hHeld ?_)
    refine callC (i := 9) rfl (fun K hK => ?_)
    obtain ⟨h_p0, h_p1, h_p2, h_p3, h_p4, h_p5, h_B⟩ := (id hHeld)
    obtain ⟨f0, f1, f2, f3, u0, u1, u2, u3, i0, i1, i2, i3⟩ := res_all hRes
    go_simp
    refine hK.out _ _ ?_ (fun hHeld2 => ?_)
    · (try dsimp only); exact ⟨far4 h_p0 (by dsimp only; omega), far4 h_p1 (by dsimp only; omega), far4 h_p2 (by dsimp only; omega), far4 h_p3 (by dsimp only; omega), far4 h_p4 (by dsimp only; omega), far4 h_p5 (by dsimp only; omega), bl4 h_B (by omega)⟩
    obtain ⟨z0, z1, z2, z3⟩ := set4r (v0 := .int .i64 sa) (v1 := .int .i64 sl) (v2 := .int .i64 sh) (v3 := .slice a1 n1 c1) hRes
    replace hLs := log_set4 (b := r) (v0 := .int .i64 sa) (v1 := .int .i64 sl) (v2 := .int .i64 sh) (v3 := .slice a1 n1 c1) hLs hne
    replace hRes := res4 (b := r) (v0 := .int .i64 sa) (v1 := .int .i64 sl) (v2 := .int .i64 sh) (v3 := .slice a1 n1 c1) hRes
    clear hHeld hK K h_p0 h_p1 h_p2 h_p3 h_p4 h_p5 h_B f0 f1 f2 f3 i0 i1 i2 i3 u0 u1 u2 u3
    have hHeld := hHeld2
    clear hHeld2
    try simp only [Act.put, List.setIfInBounds_toArray, List.set_cons_zero, List.set_cons_succ]
    (refine tk (i := 10) rfl rfl hHeld ?_)
    refine wpAnyH_done (by kernel_rfl) ?_ _
    refine then_abs (F := fun X => (fun w' => w'.cell? ⟨w1.heap.size, 0, none⟩ = some (.int .i64 k) ∧ w'.cell? ⟨w1.heap.size, 1, none⟩ = some (.int .i64 l) ∧ w'.cell? ⟨w1.heap.size, 2, none⟩ = some (.int .i64 d) ∧ w'.cell? ⟨w1.heap.size, 3, none⟩ = some (.int .i64 b) ∧ w'.cell? ⟨w1.heap.size, 4, none⟩ = some (.int .i64 cc) ∧ w'.cell? ⟨w1.heap.size, 5, none⟩ = some (.bool o) ∧ Below w.heap.size w w') X ∧ X.cell? ⟨r, 0, none⟩ = some (.int .i64 sa) ∧ X.cell? ⟨r, 1, none⟩ = some (.int .i64 sl) ∧ X.cell? ⟨r, 2, none⟩ = some (.int .i64 sh) ∧ X.cell? ⟨r, 3, none⟩ = some (.slice a1 n1 c1) ∧ ResB X r ∧ LogAt X a1 n1 c1 sL) ⟨hHeld, z0, z1, z2, z3, hRes, hLs⟩ ?_
    clear hHeld z0 z1 z2 z3 hRes hLs
  all_goals rintro w3 ⟨⟨p0, p1, p2, p3, p4, p5, hB⟩, s0, s1, s2, s3, sR, hLs⟩
  skip
  all_goals
    replace lb_p := World.block_lt_of_cell? w3 _ p0
    dsimp only at lb_p
    have lb_s := World.block_lt_of_cell? w3 _ s0
    dsimp only at lb_s
    go_wp2_with go_step3
    refine (H_HD1.out _ _ _ _ hLs).mono ?_
    rintro e w4 ⟨a3, n3, c3, rfl, -, -, hb⟩
    have hsz3 : w3.heap.size + 0 ≤ w4.heap.size := by have h := hb.size; (try simp at h); omega
    replace p0 := bl_cell hb p0
    replace p1 := bl_cell hb p1
    replace p2 := bl_cell hb p2
    replace p3 := bl_cell hb p3
    replace p4 := bl_cell hb p4
    replace p5 := bl_cell hb p5
    replace s0 := bl_cell hb s0
    replace s1 := bl_cell hb s1
    replace s2 := bl_cell hb s2
    replace s3 := bl_cell hb s3
    replace sR := res_bl sR hb
    replace hLs := log_bl hLs hb
    replace hB : Below w.heap.size w w4 := bl_then hB hb
    replace lb_p := World.block_lt_of_cell? w4 _ p0
    dsimp only at lb_p
    replace lb_s := World.block_lt_of_cell? w4 _ s0
    dsimp only at lb_s
    clear hb
    unfold St.v
    (try dsimp only)
    go_wp2_with go_step3
    refine (H_HD2.out _ _ _ _ (log_bl hLs (bl_alloc (bl_refl _) _))).mono ?_
    rintro e w5 ⟨a4, n4, c4, rfl, -, -, hb⟩
    have hx : Below w4.heap.size w4 w5 := bl_then (bl_alloc (bl_refl _) _) hb
    have hsz4 : w4.heap.size + 1 ≤ w5.heap.size := by have h := hb.size; (try simp at h); omega
    replace p0 := bl_cell hx p0
    replace p1 := bl_cell hx p1
    replace p2 := bl_cell hx p2
    replace p3 := bl_cell hx p3
    replace p4 := bl_cell hx p4
    replace p5 := bl_cell hx p5
    replace s0 := bl_cell hx s0
    replace s1 := bl_cell hx s1
    replace s2 := bl_cell hx s2
    replace s3 := bl_cell hx s3
    replace sR := res_bl sR hx
    replace hLs := log_bl hLs hx
    have u0 := bl_cell (v := .int .i64 r1a) hb (show World.cell? _ ⟨w4.heap.size, 0, none⟩ = _ by go_simp)
    have u1 := bl_cell (v := .int .i64 r1l) hb (show World.cell? _ ⟨w4.heap.size, 1, none⟩ = _ by go_simp)
    have u2 := bl_cell (v := .int .i64 r1h) hb (show World.cell? _ ⟨w4.heap.size, 2, none⟩ = _ by go_simp)
    have u3 := bl_cell (v := .slice a3 n3 c3) hb (show World.cell? _ ⟨w4.heap.size, 3, none⟩ = _ by go_simp)
    replace hB : Below w.heap.size w w5 := bl_then hB hx
    replace lb_p := World.block_lt_of_cell? w5 _ p0
    dsimp only at lb_p
    replace lb_s := World.block_lt_of_cell? w5 _ s0
    dsimp only at lb_s
    have lb_u := World.block_lt_of_cell? w5 _ u0
    dsimp only at lb_u
    clear hb hx
    unfold St.v
    (try dsimp only)
    go_wp2_with go_step3
    skip
    refine wp_abs (S0 := fun X => (fun w' => w'.cell? ⟨w1.heap.size, 0, none⟩ = some (.int .i64 k) ∧ w'.cell? ⟨w1.heap.size, 1, none⟩ = some (.int .i64 l) ∧ w'.cell? ⟨w1.heap.size, 2, none⟩ = some (.int .i64 d) ∧ w'.cell? ⟨w1.heap.size, 3, none⟩ = some (.int .i64 b) ∧ w'.cell? ⟨w1.heap.size, 4, none⟩ = some (.int .i64 cc) ∧ w'.cell? ⟨w1.heap.size, 5, none⟩ = some (.bool o) ∧ w'.cell? ⟨r, 0, none⟩ = some (.int .i64 sa) ∧ w'.cell? ⟨r, 1, none⟩ = some (.int .i64 sl) ∧ w'.cell? ⟨r, 2, none⟩ = some (.int .i64 sh) ∧ w'.cell? ⟨r, 3, none⟩ = some (.slice a1 n1 c1) ∧ ResB w' r ∧ LogAt w' a1 n1 c1 sL ∧ w'.cell? ⟨w4.heap.size, 0, none⟩ = some (.int .i64 r1a) ∧ w'.cell? ⟨w4.heap.size, 1, none⟩ = some (.int .i64 r1l) ∧ w'.cell? ⟨w4.heap.size, 2, none⟩ = some (.int .i64 r1h) ∧ w'.cell? ⟨w4.heap.size, 3, none⟩ = some (.slice a3 n3 c3) ∧ w'.cell? ⟨w5.heap.size, 0, none⟩ = some (.int .i64 r2a) ∧ w'.cell? ⟨w5.heap.size, 1, none⟩ = some (.int .i64 r2l) ∧ w'.cell? ⟨w5.heap.size, 2, none⟩ = some (.int .i64 r2h) ∧ w'.cell? ⟨w5.heap.size, 3, none⟩ = some (.slice a4 n4 c4) ∧ Below w.heap.size w w') X ∧ w5.heap.size + 1 ≤ X.heap.size) ⟨⟨bl_cell (bl_alloc (bl_refl _) _) p0, bl_cell (bl_alloc (bl_refl _) _) p1, bl_cell (bl_alloc (bl_refl _) _) p2, bl_cell (bl_alloc (bl_refl _) _) p3, bl_cell (bl_alloc (bl_refl _) _) p4, bl_cell (bl_alloc (bl_refl _) _) p5, bl_cell (bl_alloc (bl_refl _) _) s0, bl_cell (bl_alloc (bl_refl _) _) s1, bl_cell (bl_alloc (bl_refl _) _) s2, bl_cell (bl_alloc (bl_refl _) _) s3, res_bl sR (bl_alloc (bl_refl _) _), log_bl hLs (bl_alloc (bl_refl _) _), bl_cell (bl_alloc (bl_refl _) _) u0, bl_cell (bl_alloc (bl_refl _) _) u1, bl_cell (bl_alloc (bl_refl _) _) u2, bl_cell (bl_alloc (bl_refl _) _) u3, by go_simp, by go_simp, by go_simp, by go_simp, bl_alloc (hB) _⟩, by simp⟩ ?_
    clear p0 p1 p2 p3 p4 p5 s0 s1 s2 s3 sR hLs u0 u1 u2 u3 hB
    rintro w6 ⟨⟨p0, p1, p2, p3, p4, p5, s0, s1, s2, s3, sR, hLs, u0, u1, u2, u3, v0, v1, v2, v3, hB⟩, hsz5⟩
    replace lb_p := World.block_lt_of_cell? w6 _ p0
    dsimp only at lb_p
    replace lb_s := World.block_lt_of_cell? w6 _ s0
    dsimp only at lb_s
    replace lb_u := World.block_lt_of_cell? w6 _ u0
    dsimp only at lb_u
    have lb_v := World.block_lt_of_cell? w6 _ v0
    dsimp only at lb_v
    clear u0
    clear u1
    clear u2
    clear u3
    clear v0
    clear v1
    clear v2
    clear v3
    refine wp_region_held_drew (S := fun w' => w'.cell? ⟨w1.heap.size, 0, none⟩ = some (.int .i64 k) ∧ w'.cell? ⟨w1.heap.size, 1, none⟩ = some (.int .i64 l) ∧ w'.cell? ⟨w1.heap.size, 2, none⟩ = some (.int .i64 d) ∧ w'.cell? ⟨w1.heap.size, 3, none⟩ = some (.int .i64 b) ∧ w'.cell? ⟨w1.heap.size, 4, none⟩ = some (.int .i64 cc) ∧ w'.cell? ⟨w1.heap.size, 5, none⟩ = some (.bool o) ∧ w'.cell? ⟨r, 0, none⟩ = some (.int .i64 sa) ∧ w'.cell? ⟨r, 1, none⟩ = some (.int .i64 sl) ∧ w'.cell? ⟨r, 2, none⟩ = some (.int .i64 sh) ∧ w'.cell? ⟨r, 3, none⟩ = some (.slice a1 n1 c1) ∧ ResB w' r ∧ LogAt w' a1 n1 c1 sL ∧ Below w.heap.size w w') (by kernel_rfl) ?_ (fun hHeld => ?_)
    · exact ⟨p0, p1, p2, p3, p4, p5, s0, s1, s2, s3, sR, hLs, bl_drew hB⟩
    try simp only [Act.put, List.setIfInBounds_toArray, List.set_cons_zero, List.set_cons_succ]
    (refine tk (i := 0) rfl rfl hHeld ?_)
    (refine tk (i := 1) rfl rfl hHeld ?_)
    first | (refine tq (i := 2) rfl rfl hHeld ?_) | (refine tk (i := 2) rfl rfl hHeld ?_)
    (refine tk (i := 3) rfl rfl hHeld ?_)
    (refine tk (i := 4) rfl rfl hHeld ?_)
    first | (refine tq (i := 5) rfl rfl hHeld ?_) | (refine tk (i := 5) rfl rfl hHeld ?_)
    first | (refine tq (i := 6) rfl rfl hHeld ?_) | (refine tk (i := 6) rfl rfl hHeld ?_)
    first | (refine tq (i := 7) rfl rfl hHeld ?_) | (refine tk (i := 7) rfl rfl hHeld ?_)
    (refine tk (i := 8) rfl rfl hHeld ?_)
    (refine tk (i := 9) rfl rfl hHeld ?_)
    first | (refine tq (i := 10) rfl rfl hHeld ?_) | (refine tk (i := 10) rfl rfl hHeld ?_)
    first | (refine tq (i := 11) rfl rfl hHeld ?_) | (refine tk (i := 11) rfl rfl hHeld ?_)
    first | (refine tq (i := 12) rfl rfl hHeld ?_) | (refine tk (i := 12) rfl rfl hHeld ?_)
    first | (refine tq (i := 13) rfl rfl hHeld ?_) | (refine tk (i := 13) rfl rfl hHeld ?_)
    first | (refine tq (i := 14) rfl rfl hHeld ?_) | (refine tk (i := 14) rfl rfl hHeld ?_)
    first | (refine tq (i := 17) rfl rfl hHeld ?_) | (refine tk (i := 17) rfl rfl hHeld ?_)
    first | (refine tq (i := 15) rfl rfl hHeld ?_) | (refine callH (i := 15) rfl hHeld (fun W hW K hK => ?_); clear hHeld; (try dsimp only at hW); obtain ⟨h_p0, h_p1, h_p2, h_p3, h_p4, h_p5, h_s0, h_s1, h_s2, h_s3, h_sR, h_hLs, h_B⟩ := hW; go_simp; refine (H_HROOM.out _ _ _ _ h_hLs).mono ?_; rintro e w9 ⟨rfl, hb⟩; go_wp2_with fail; refine hK.out _ _ ?_ (fun hHeld => ?_); (focus ((try dsimp only); exact ⟨bl_cell hb h_p0, bl_cell hb h_p1, bl_cell hb h_p2, bl_cell hb h_p3, bl_cell hb h_p4, bl_cell hb h_p5, bl_cell hb h_s0, bl_cell hb h_s1, bl_cell hb h_s2, bl_cell hb h_s3, res_bl h_sR hb, log_bl h_hLs hb, bl_then h_B hb⟩)); clear hK K; clear h_p0 h_p1 h_p2 h_p3 h_p4 h_p5 h_s0 h_s1 h_s2 h_s3 h_sR h_hLs h_B; try simp only [Act.put, List.setIfInBounds_toArray, List.set_cons_zero, List.set_cons_succ])
    first | (refine tq (i := 16) rfl rfl hHeld ?_) | (refine tk (i := 16) rfl rfl hHeld ?_)
    first | (refine tq (i := 18) rfl rfl hHeld ?_) | (refine callH (i := 18) rfl hHeld (fun W hW K hK => ?_); clear hHeld; (try dsimp only at hW); obtain ⟨h_p0, h_p1, h_p2, h_p3, h_p4, h_p5, h_s0, h_s1, h_s2, h_s3, h_sR, h_hLs, h_B⟩ := hW; go_simp; refine (H_HMOST.out _).mono ?_; rintro e w9 ⟨rfl, hb⟩; go_wp2_with fail; refine hK.out _ _ ?_ (fun hHeld => ?_); (focus ((try dsimp only); exact ⟨bl_cell hb h_p0, bl_cell hb h_p1, bl_cell hb h_p2, bl_cell hb h_p3, bl_cell hb h_p4, bl_cell hb h_p5, bl_cell hb h_s0, bl_cell hb h_s1, bl_cell hb h_s2, bl_cell hb h_s3, res_bl h_sR hb, log_bl h_hLs hb, bl_then h_B hb⟩)); clear hK K; clear h_p0 h_p1 h_p2 h_p3 h_p4 h_p5 h_s0 h_s1 h_s2 h_s3 h_sR h_hLs h_B; try simp only [Act.put, List.setIfInBounds_toArray, List.set_cons_zero, List.set_cons_succ])
    first | (refine tq (i := 19) rfl rfl hHeld ?_) | (refine tk (i := 19) rfl rfl hHeld ?_)
    (refine tk (i := 20) rfl rfl hHeld ?_)
    refine wpAnyH_done (by kernel_rfl) ?_ _
    refine then_abs (F := fun w' => w'.cell? ⟨w1.heap.size, 0, none⟩ = some (.int .i64 k) ∧ w'.cell? ⟨w1.heap.size, 1, none⟩ = some (.int .i64 l) ∧ w'.cell? ⟨w1.heap.size, 2, none⟩ = some (.int .i64 d) ∧ w'.cell? ⟨w1.heap.size, 3, none⟩ = some (.int .i64 b) ∧ w'.cell? ⟨w1.heap.size, 4, none⟩ = some (.int .i64 cc) ∧ w'.cell? ⟨w1.heap.size, 5, none⟩ = some (.bool o) ∧ w'.cell? ⟨r, 0, none⟩ = some (.int .i64 sa) ∧ w'.cell? ⟨r, 1, none⟩ = some (.int .i64 sl) ∧ w'.cell? ⟨r, 2, none⟩ = some (.int .i64 sh) ∧ w'.cell? ⟨r, 3, none⟩ = some (.slice a1 n1 c1) ∧ ResB w' r ∧ LogAt w' a1 n1 c1 sL ∧ Below w.heap.size w w') hHeld ?_
    clear hHeld hB p0 p1 p2 p3 p4 p5 s0 s1 s2 s3 sR hLs
    rintro w7 ⟨p0, p1, p2, p3, p4, p5, s0, s1, s2, s3, sR, hLs, hB⟩
    replace lb_p := World.block_lt_of_cell? w7 _ p0
    dsimp only at lb_p
    replace lb_s := World.block_lt_of_cell? w7 _ s0
    dsimp only at lb_s
    go_wp2_with go_step3
    refine (H_HD3.out _ _ _ _ hLs).mono ?_
    rintro e w8 ⟨a5, n5, c5, rfl, hL3, -, hb⟩
    have hsz6 : w7.heap.size + 0 ≤ w8.heap.size := by have h := hb.size; (try simp at h); omega
    replace p0 := bl_cell hb p0
    replace p1 := bl_cell hb p1
    replace p2 := bl_cell hb p2
    replace p3 := bl_cell hb p3
    replace p4 := bl_cell hb p4
    replace p5 := bl_cell hb p5
    replace s0 := bl_cell hb s0
    replace s1 := bl_cell hb s1
    replace s2 := bl_cell hb s2
    replace s3 := bl_cell hb s3
    replace sR := res_bl sR hb
    replace hLs := log_bl hLs hb
    replace hB : Below w.heap.size w w8 := bl_then hB hb
    replace lb_p := World.block_lt_of_cell? w8 _ p0
    dsimp only at lb_p
    replace lb_s := World.block_lt_of_cell? w8 _ s0
    dsimp only at lb_s
    clear hb
    unfold St.v
    (try dsimp only)
    go_wp2_with go_step3
    refine (H_HD4.out _ _ _ _ (log_bl hLs (bl_alloc (bl_refl _) _))).mono ?_
    rintro e w9 ⟨a6, n6, c6, rfl, hL4, -, hb⟩
    have hx : Below w8.heap.size w8 w9 := bl_then (bl_alloc (bl_refl _) _) hb
    have hsz7 : w8.heap.size + 1 ≤ w9.heap.size := by have h := hb.size; (try simp at h); omega
    replace p0 := bl_cell hx p0
    replace p1 := bl_cell hx p1
    replace p2 := bl_cell hx p2
    replace p3 := bl_cell hx p3
    replace p4 := bl_cell hx p4
    replace p5 := bl_cell hx p5
    replace s0 := bl_cell hx s0
    replace s1 := bl_cell hx s1
    replace s2 := bl_cell hx s2
    replace s3 := bl_cell hx s3
    replace sR := res_bl sR hx
    replace hLs := log_bl hLs hx
    replace hL3 := log_bl hL3 hx
    have tt0 := bl_cell (v := .int .i64 r3a) hb (show World.cell? _ ⟨w8.heap.size, 0, none⟩ = _ by go_simp)
    have tt1 := bl_cell (v := .int .i64 r3l) hb (show World.cell? _ ⟨w8.heap.size, 1, none⟩ = _ by go_simp)
    have tt2 := bl_cell (v := .int .i64 0) hb (show World.cell? _ ⟨w8.heap.size, 2, none⟩ = _ by go_simp)
    have tt3 := bl_cell (v := .slice a5 n5 c5) hb (show World.cell? _ ⟨w8.heap.size, 3, none⟩ = _ by go_simp)
    replace hB : Below w.heap.size w w9 := bl_then hB hx
    replace lb_p := World.block_lt_of_cell? w9 _ p0
    dsimp only at lb_p
    replace lb_s := World.block_lt_of_cell? w9 _ s0
    dsimp only at lb_s
    have lb_tt := World.block_lt_of_cell? w9 _ tt0
    dsimp only at lb_tt
    clear hb hx
    unfold St.v
    (try dsimp only)
    go_wp2_with go_step3
    skip
    refine wp_abs (S0 := fun X => (fun w' => w'.cell? ⟨w1.heap.size, 0, none⟩ = some (.int .i64 k) ∧ w'.cell? ⟨w1.heap.size, 1, none⟩ = some (.int .i64 l) ∧ w'.cell? ⟨w1.heap.size, 2, none⟩ = some (.int .i64 d) ∧ w'.cell? ⟨w1.heap.size, 3, none⟩ = some (.int .i64 b) ∧ w'.cell? ⟨w1.heap.size, 4, none⟩ = some (.int .i64 cc) ∧ w'.cell? ⟨w1.heap.size, 5, none⟩ = some (.bool o) ∧ w'.cell? ⟨r, 0, none⟩ = some (.int .i64 sa) ∧ w'.cell? ⟨r, 1, none⟩ = some (.int .i64 sl) ∧ w'.cell? ⟨r, 2, none⟩ = some (.int .i64 sh) ∧ w'.cell? ⟨r, 3, none⟩ = some (.slice a1 n1 c1) ∧ ResB w' r ∧ LogAt w' a1 n1 c1 sL ∧ LogAt w' a5 n5 c5 r3L ∧ w'.cell? ⟨w8.heap.size, 0, none⟩ = some (.int .i64 r3a) ∧ w'.cell? ⟨w8.heap.size, 1, none⟩ = some (.int .i64 r3l) ∧ w'.cell? ⟨w8.heap.size, 2, none⟩ = some (.int .i64 0) ∧ w'.cell? ⟨w8.heap.size, 3, none⟩ = some (.slice a5 n5 c5) ∧ LogAt w' a6 n6 c6 r4L ∧ w'.cell? ⟨w9.heap.size, 0, none⟩ = some (.int .i64 r4a) ∧ w'.cell? ⟨w9.heap.size, 1, none⟩ = some (.int .i64 r4l) ∧ w'.cell? ⟨w9.heap.size, 2, none⟩ = some (.int .i64 0) ∧ w'.cell? ⟨w9.heap.size, 3, none⟩ = some (.slice a6 n6 c6) ∧ Below w.heap.size w w') X ∧ w9.heap.size + 1 ≤ X.heap.size) ⟨⟨bl_cell (bl_alloc (bl_refl _) _) p0, bl_cell (bl_alloc (bl_refl _) _) p1, bl_cell (bl_alloc (bl_refl _) _) p2, bl_cell (bl_alloc (bl_refl _) _) p3, bl_cell (bl_alloc (bl_refl _) _) p4, bl_cell (bl_alloc (bl_refl _) _) p5, bl_cell (bl_alloc (bl_refl _) _) s0, bl_cell (bl_alloc (bl_refl _) _) s1, bl_cell (bl_alloc (bl_refl _) _) s2, bl_cell (bl_alloc (bl_refl _) _) s3, res_bl sR (bl_alloc (bl_refl _) _), log_bl hLs (bl_alloc (bl_refl _) _), log_bl hL3 (bl_alloc (bl_refl _) _), bl_cell (bl_alloc (bl_refl _) _) tt0, bl_cell (bl_alloc (bl_refl _) _) tt1, bl_cell (bl_alloc (bl_refl _) _) tt2, bl_cell (bl_alloc (bl_refl _) _) tt3, log_bl hL4 (bl_alloc (bl_refl _) _), by go_simp, by go_simp, by go_simp, by go_simp, bl_alloc (hB) _⟩, by simp⟩ ?_
    clear p0 p1 p2 p3 p4 p5 s0 s1 s2 s3 sR hLs hL3 tt0 tt1 tt2 tt3 hL4 hB
    rintro w10 ⟨⟨p0, p1, p2, p3, p4, p5, s0, s1, s2, s3, sR, hLs, hL3, tt0, tt1, tt2, tt3, hL4, uu0, uu1, uu2, uu3, hB⟩, hsz8⟩
    replace lb_p := World.block_lt_of_cell? w10 _ p0
    dsimp only at lb_p
    replace lb_s := World.block_lt_of_cell? w10 _ s0
    dsimp only at lb_s
    replace lb_tt := World.block_lt_of_cell? w10 _ tt0
    dsimp only at lb_tt
    have lb_uu := World.block_lt_of_cell? w10 _ uu0
    dsimp only at lb_uu
    refine wp_region_held_drew (S := fun w' => w'.cell? ⟨w1.heap.size, 0, none⟩ = some (.int .i64 k) ∧ w'.cell? ⟨w1.heap.size, 1, none⟩ = some (.int .i64 l) ∧ w'.cell? ⟨w1.heap.size, 2, none⟩ = some (.int .i64 d) ∧ w'.cell? ⟨w1.heap.size, 3, none⟩ = some (.int .i64 b) ∧ w'.cell? ⟨w1.heap.size, 4, none⟩ = some (.int .i64 cc) ∧ w'.cell? ⟨w1.heap.size, 5, none⟩ = some (.bool o) ∧ w'.cell? ⟨r, 0, none⟩ = some (.int .i64 sa) ∧ w'.cell? ⟨r, 1, none⟩ = some (.int .i64 sl) ∧ w'.cell? ⟨r, 2, none⟩ = some (.int .i64 sh) ∧ w'.cell? ⟨r, 3, none⟩ = some (.slice a1 n1 c1) ∧ ResB w' r ∧ LogAt w' a1 n1 c1 sL ∧ LogAt w' a5 n5 c5 r3L ∧ w'.cell? ⟨w8.heap.size, 0, none⟩ = some (.int .i64 r3a) ∧ w'.cell? ⟨w8.heap.size, 1, none⟩ = some (.int .i64 r3l) ∧ w'.cell? ⟨w8.heap.size, 2, none⟩ = some (.int .i64 0) ∧ w'.cell? ⟨w8.heap.size, 3, none⟩ = some (.slice a5 n5 c5) ∧ LogAt w' a6 n6 c6 r4L ∧ w'.cell? ⟨w9.heap.size, 0, none⟩ = some (.int .i64 r4a) ∧ w'.cell? ⟨w9.heap.size, 1, none⟩ = some (.int .i64 r4l) ∧ w'.cell? ⟨w9.heap.size, 2, none⟩ = some (.int .i64 0) ∧ w'.cell? ⟨w9.heap.size, 3, none⟩ = some (.slice a6 n6 c6) ∧ Below w.heap.size w w') (by kernel_rfl) ?_ (fun hHeld => ?_)
    · exact ⟨p0, p1, p2, p3, p4, p5, s0, s1, s2, s3, sR, hLs, hL3, tt0, tt1, tt2, tt3, hL4, uu0, uu1, uu2, uu3, bl_drew hB⟩
    try simp only [Act.put, List.setIfInBounds_toArray, List.set_cons_zero, List.set_cons_succ]
    (refine tk (i := 0) rfl rfl hHeld ?_)
    (refine tk (i := 1) rfl rfl hHeld ?_)
    first | (refine tq (i := 2) rfl rfl hHeld ?_) | (refine tk (i := 2) rfl rfl hHeld ?_)
    (refine tk (i := 3) rfl rfl hHeld ?_)
    (refine tk (i := 4) rfl rfl hHeld ?_)
    first | (refine tq (i := 5) rfl rfl hHeld ?_) | (refine tk (i := 5) rfl rfl hHeld ?_)
    first | (refine tq (i := 6) rfl rfl hHeld ?_) | (refine tk (i := 6) rfl rfl hHeld ?_)
    first | (refine tq (i := 7) rfl rfl hHeld ?_) | (refine tk (i := 7) rfl rfl hHeld ?_)
    (refine tk (i := 8) rfl rfl hHeld ?_)
    (refine tk (i := 9) rfl rfl hHeld ?_)
    first | (refine tq (i := 10) rfl rfl hHeld ?_) | (refine tk (i := 10) rfl rfl hHeld ?_)
    first | (refine tq (i := 11) rfl rfl hHeld ?_) | (refine tk (i := 11) rfl rfl hHeld ?_)
    first | (refine tq (i := 12) rfl rfl hHeld ?_) | (refine tk (i := 12) rfl rfl hHeld ?_)
    (refine tk (i := 13) rfl rfl hHeld ?_)
    (refine tk (i := 14) rfl rfl hHeld ?_)
    first | (refine tq (i := 15) rfl rfl hHeld ?_) | (refine tk (i := 15) rfl rfl hHeld ?_)
    first | (refine tq (i := 16) rfl rfl hHeld ?_) | (refine tk (i := 16) rfl rfl hHeld ?_)
    first | (refine tq (i := 17) rfl rfl hHeld ?_) | (refine tk (i := 17) rfl rfl hHeld ?_)
    first | (refine tq (i := 19) rfl rfl hHeld ?_) | (refine tk (i := 19) rfl rfl hHeld ?_)
    first | (refine tq (i := 20) rfl rfl hHeld ?_) | (refine tk (i := 20) rfl rfl hHeld ?_)
    first | (refine tq (i := 21) rfl rfl hHeld ?_) | (refine tk (i := 21) rfl rfl hHeld ?_)
    first | (refine tq (i := 18) rfl rfl hHeld ?_) | (refine callH (i := 18) rfl hHeld (fun W hW K hK => ?_); clear hHeld; (try dsimp only at hW); obtain ⟨h_p0, h_p1, h_p2, h_p3, h_p4, h_p5, h_s0, h_s1, h_s2, h_s3, h_sR, h_hLs, h_hL3, h_tt0, h_tt1, h_tt2, h_tt3, h_hL4, h_uu0, h_uu1, h_uu2, h_uu3, h_B⟩ := hW; go_simp; refine (H_HRT.out _ _ _ _ h_hL3).mono ?_; rintro e w9 ⟨rfl, hb⟩; go_wp2_with fail; refine hK.out _ _ ?_ (fun hHeld => ?_); (focus ((try dsimp only); exact ⟨bl_cell hb h_p0, bl_cell hb h_p1, bl_cell hb h_p2, bl_cell hb h_p3, bl_cell hb h_p4, bl_cell hb h_p5, bl_cell hb h_s0, bl_cell hb h_s1, bl_cell hb h_s2, bl_cell hb h_s3, res_bl h_sR hb, log_bl h_hLs hb, log_bl h_hL3 hb, bl_cell hb h_tt0, bl_cell hb h_tt1, bl_cell hb h_tt2, bl_cell hb h_tt3, log_bl h_hL4 hb, bl_cell hb h_uu0, bl_cell hb h_uu1, bl_cell hb h_uu2, bl_cell hb h_uu3, bl_then h_B hb⟩)); clear hK K; clear h_p0 h_p1 h_p2 h_p3 h_p4 h_p5 h_s0 h_s1 h_s2 h_s3 h_sR h_hLs h_hL3 h_tt0 h_tt1 h_tt2 h_tt3 h_hL4 h_uu0 h_uu1 h_uu2 h_uu3 h_B; try simp only [Act.put, List.setIfInBounds_toArray, List.set_cons_zero, List.set_cons_succ])
    first | (refine tq (i := 22) rfl rfl hHeld ?_) | (refine callH (i := 22) rfl hHeld (fun W hW K hK => ?_); clear hHeld; (try dsimp only at hW); obtain ⟨h_p0, h_p1, h_p2, h_p3, h_p4, h_p5, h_s0, h_s1, h_s2, h_s3, h_sR, h_hLs, h_hL3, h_tt0, h_tt1, h_tt2, h_tt3, h_hL4, h_uu0, h_uu1, h_uu2, h_uu3, h_B⟩ := hW; go_simp; refine (H_HRU.out _ _ _ _ h_hL4).mono ?_; rintro e w9 ⟨rfl, hb⟩; go_wp2_with fail; refine hK.out _ _ ?_ (fun hHeld => ?_); (focus ((try dsimp only); exact ⟨bl_cell hb h_p0, bl_cell hb h_p1, bl_cell hb h_p2, bl_cell hb h_p3, bl_cell hb h_p4, bl_cell hb h_p5, bl_cell hb h_s0, bl_cell hb h_s1, bl_cell hb h_s2, bl_cell hb h_s3, res_bl h_sR hb, log_bl h_hLs hb, log_bl h_hL3 hb, bl_cell hb h_tt0, bl_cell hb h_tt1, bl_cell hb h_tt2, bl_cell hb h_tt3, log_bl h_hL4 hb, bl_cell hb h_uu0, bl_cell hb h_uu1, bl_cell hb h_uu2, bl_cell hb h_uu3, bl_then h_B hb⟩)); clear hK K; clear h_p0 h_p1 h_p2 h_p3 h_p4 h_p5 h_s0 h_s1 h_s2 h_s3 h_sR h_hLs h_hL3 h_tt0 h_tt1 h_tt2 h_tt3 h_hL4 h_uu0 h_uu1 h_uu2 h_uu3 h_B; try simp only [Act.put, List.setIfInBounds_toArray, List.set_cons_zero, List.set_cons_succ])
    first | (refine tq (i := 23) rfl rfl hHeld ?_) | (refine tk (i := 23) rfl rfl hHeld ?_)
    (refine tk (i := 24) rfl rfl hHeld ?_)
    (refine tk (i := 25) rfl rfl hHeld ?_)
    first | (refine tq (i := 26) rfl rfl hHeld ?_) | (refine callH (i := 26) rfl hHeld (fun W hW K hK => ?_); clear hHeld; (try dsimp only at hW); obtain ⟨h_p0, h_p1, h_p2, h_p3, h_p4, h_p5, h_s0, h_s1, h_s2, h_s3, h_sR, h_hLs, h_hL3, h_tt0, h_tt1, h_tt2, h_tt3, h_hL4, h_uu0, h_uu1, h_uu2, h_uu3, h_B⟩ := hW; go_simp; refine (H_HKN.out _).mono ?_; rintro e w9 ⟨rfl, hb⟩; go_wp2_with fail; refine hK.out _ _ ?_ (fun hHeld => ?_); (focus ((try dsimp only); exact ⟨bl_cell hb h_p0, bl_cell hb h_p1, bl_cell hb h_p2, bl_cell hb h_p3, bl_cell hb h_p4, bl_cell hb h_p5, bl_cell hb h_s0, bl_cell hb h_s1, bl_cell hb h_s2, bl_cell hb h_s3, res_bl h_sR hb, log_bl h_hLs hb, log_bl h_hL3 hb, bl_cell hb h_tt0, bl_cell hb h_tt1, bl_cell hb h_tt2, bl_cell hb h_tt3, log_bl h_hL4 hb, bl_cell hb h_uu0, bl_cell hb h_uu1, bl_cell hb h_uu2, bl_cell hb h_uu3, bl_then h_B hb⟩)); clear hK K; clear h_p0 h_p1 h_p2 h_p3 h_p4 h_p5 h_s0 h_s1 h_s2 h_s3 h_sR h_hLs h_hL3 h_tt0 h_tt1 h_tt2 h_tt3 h_hL4 h_uu0 h_uu1 h_uu2 h_uu3 h_B; try simp only [Act.put, List.setIfInBounds_toArray, List.set_cons_zero, List.set_cons_succ])
    (refine tk (i := 27) rfl rfl hHeld ?_)
    (refine tk (i := 28) rfl rfl hHeld ?_)
    refine wpAnyH_done (by kernel_rfl) ?_ _
    obtain ⟨-, -, -, -, -, -, -, -, -, -, -, -, -, -, -, -, -, -, -, -, -, -, hE⟩ := hHeld
    repeat' (first | go_skip | go_guarded | go_step | go_upon)
    go_ret
    exact ⟨rfl, hE⟩


theorem held_walk (kd lm pd bs : Int) (la : Option Addr) (m lc : Nat) (acts : List Ac) (now cost : Int) (w : World) (hk1 : 0 ≤ kd) (hk2 : kd ≤ 255) (hl1 : 0 ≤ lm) (hl2 : lm ≤ 65535) (hp1 : 0 ≤ pd) (hp2 : pd ≤ 65535) (hb1 : 0 ≤ bs) (hb2 : bs ≤ 65535) (hA : ActsIn w la m lc acts) (hn1 : 0 ≤ now) (hn2 : now ≤ 4294967295) (hc1 : 0 ≤ cost) (hc2 : cost ≤ 255) :
    Calls Try.prog 3 #[.int .u8 kd, .int .u16 lm, .int .u16 pd, .int .u16 bs, .slice la m lc, .int .u32 now, .int .u8 cost] w fun e w' => e = .returned (.bool true) ∧ Below w.heap.size w w' := by
  by_cases hm : (m : Int) ≤ 60
  · by_cases hh : (runP (ofP kd lm pd bs) (newP (ofP kd lm pd bs) 0) acts).1.held = 0
    · exact held_none kd lm pd bs la m lc acts now cost w ⟨hk1, hk2⟩ ⟨hl1, hl2⟩ ⟨hp1, hp2⟩ ⟨hb1, hb2⟩ ⟨hn1, hn2⟩ ⟨hc1, hc2⟩ hm hA _ rfl hh
    · exact held_some kd lm pd bs la m lc acts now cost w ⟨hk1, hk2⟩ ⟨hl1, hl2⟩ ⟨hp1, hp2⟩ ⟨hb1, hb2⟩ ⟨hn1, hn2⟩ ⟨hc1, hc2⟩ hm hA _ rfl hh
  · exact held_long kd lm pd bs la m lc acts now cost w hm
end Go.Proofs.Ythinbjknkjpdjaa

namespace Go.Proofs.Ythinbjknkjpdjaa.limiterHeld
open Go.ChangeShapes Go.WideShapes Go.ChangeAt Go.RowKit
open Go.ChangeMaps (open_string shut_string)
set_option linter.unusedVariables false
set_option linter.unusedSimpArgs false

theorem own : ownKnob Try.prog.godebug = none := by kernel_rfl
theorem laidOut : laidOutB Try.prog = true := by kernel_rfl

set_option maxHeartbeats 1000000 in
set_option maxRecDepth 100000 in
theorem lifted (os : Os) (started : os.Started) (H : Type) (enc : TypeId × Value → H) :
    ReturnsInHanded {} Try.checked os 3 .any (Rows.limiterHeldSpec.pre6 enc Try.prog Try.f3 Rows.limiterHeldRow.domain false) (Rows.limiterHeldSpec.post enc Try.prog Try.f3 false true false false) := by
  refine returnsInHanded_of_change (C := Try.checked) own started (by kernel_rfl) Try.func3
    (ChangeSpec.witness6 (enc := enc) (C := Try.checked) false ⟨#[], #[.int .u8 0, .int .u16 0, .int .u16 0, .int .u16 0, .slice none 0 0, .int .u32 0, .int .u8 0], []⟩ 8 (by kernel_rfl) (by kernel_rfl) (by kernel_rfl) (by kernel_rfl)) ?_
  intro W base args ds gs before hval0 hW hcnd _
  have hval : ∀ (j : Nat) t v, Try.f3.params[j]? = some t → args[j]? = some v → Value.okWide Try.prog W .any base t v := hval0
  have hW' := hW
  obtain ⟨p, q, hA0, hV, rfl, hfz, hnd⟩ := hW
  have hA : DataW.TrodAll enc Try.prog W 0 (fun _ => true) true Try.f3.params.toList args.toList ds p := hA0
  rw [Try.params3] at hA hval
  obtain ⟨v0, vs0, d0, ds0', p0, q0, hargs, rfl, rfl, h0, r0⟩ := trodAll_cons hA
  obtain ⟨v1, vs1, d1, ds1', p1, q1, rfl, rfl, rfl, h1, r1⟩ := trodAll_cons r0
  obtain ⟨v2, vs2, d2, ds2', p2, q2, rfl, rfl, rfl, h2, r2⟩ := trodAll_cons r1
  obtain ⟨v3, vs3, d3, ds3', p3, q3, rfl, rfl, rfl, h3, r3⟩ := trodAll_cons r2
  obtain ⟨v4, vs4, d4, ds4', p4, q4, rfl, rfl, rfl, h4, r4⟩ := trodAll_cons r3
  obtain ⟨v5, vs5, d5, ds5', p5, q5, rfl, rfl, rfl, h5, r5⟩ := trodAll_cons r4
  obtain ⟨v6, vs6, d6, ds6', p6, q6, rfl, rfl, rfl, h6, r6⟩ := trodAll_cons r5
  obtain ⟨rfl, rfl, rfl⟩ := trodAll_nil r6
  obtain rfl : args = #[v0, v1, v2, v3, v4, v5, v6] := by cases args; simp_all
  obtain ⟨rfl, rfl⟩ := trodVars_none hV
  obtain ⟨a0, rfl, rfl, rfl, w0⟩ := open_int Try.underlying5 (hval 0 5 v0 rfl rfl) h0
  have b0l : 0 ≤ a0 := by have h := w0; simp only [Lit.wf, Bool.and_eq_true, decide_eq_true_eq] at h; exact h.1
  have b0h : a0 ≤ 255 := by have h := w0; simp only [Lit.wf, Bool.and_eq_true, decide_eq_true_eq] at h; exact h.2
  obtain ⟨a1, rfl, rfl, rfl, w1⟩ := open_int Try.underlying22 (hval 1 22 v1 rfl rfl) h1
  have b1l : 0 ≤ a1 := by have h := w1; simp only [Lit.wf, Bool.and_eq_true, decide_eq_true_eq] at h; exact h.1
  have b1h : a1 ≤ 65535 := by have h := w1; simp only [Lit.wf, Bool.and_eq_true, decide_eq_true_eq] at h; exact h.2
  obtain ⟨a2, rfl, rfl, rfl, w2⟩ := open_int Try.underlying22 (hval 2 22 v2 rfl rfl) h2
  have b2l : 0 ≤ a2 := by have h := w2; simp only [Lit.wf, Bool.and_eq_true, decide_eq_true_eq] at h; exact h.1
  have b2h : a2 ≤ 65535 := by have h := w2; simp only [Lit.wf, Bool.and_eq_true, decide_eq_true_eq] at h; exact h.2
  obtain ⟨a3, rfl, rfl, rfl, w3⟩ := open_int Try.underlying22 (hval 3 22 v3 rfl rfl) h3
  have b3l : 0 ≤ a3 := by have h := w3; simp only [Lit.wf, Bool.and_eq_true, decide_eq_true_eq] at h; exact h.1
  have b3h : a3 ≤ 65535 := by have h := w3; simp only [Lit.wf, Bool.and_eq_true, decide_eq_true_eq] at h; exact h.2
  obtain ⟨a4, len4, cap4, rfl⟩ := okWide_slice Try.underlying23 (hval 4 23 v4 rfl rfl)
  have k4 := h4
  have lt4 : ∀ x ∈ p4, x.block < W.heap.size := by obtain ⟨m, hm⟩ := k4; exact DataW.trod_lt m _ _ _ hm
  obtain ⟨ds4, w4⟩ : ∃ ds, ActsIn W a4 len4 cap4 ds := by obtain ⟨fuel, hf⟩ := h4; exact open_acts (by simpa [Value.cells] using hf)
  obtain ⟨a5, rfl, rfl, rfl, w5⟩ := open_int Try.underlying24 (hval 5 24 v5 rfl rfl) h5
  have b5l : 0 ≤ a5 := by have h := w5; simp only [Lit.wf, Bool.and_eq_true, decide_eq_true_eq] at h; exact h.1
  have b5h : a5 ≤ 4294967295 := by have h := w5; simp only [Lit.wf, Bool.and_eq_true, decide_eq_true_eq] at h; exact h.2
  obtain ⟨a6, rfl, rfl, rfl, w6⟩ := open_int Try.underlying5 (hval 6 5 v6 rfl rfl) h6
  have b6l : 0 ≤ a6 := by have h := w6; simp only [Lit.wf, Bool.and_eq_true, decide_eq_true_eq] at h; exact h.1
  have b6h : a6 ≤ 255 := by have h := w6; simp only [Lit.wf, Bool.and_eq_true, decide_eq_true_eq] at h; exact h.2
  clear hA0 hval0
  refine (held_walk a0 a1 a2 a3 a4 len4 cap4 ds4 a5 a6 W b0l b0h b1l b1h b2l b2h b3l b3h w4 b5l b5h b6l b6h).mono fun e W' ⟨he, bel⟩ => ?_
  subst he
  exact ⟨_, rfl, _, _, _, [], _, [], hW', trodAll_mk1 (shut_bool Try.underlying4 _), (trodAll_cons_mk (shut_int Try.underlying5 w0) (trodAll_cons_mk (shut_int Try.underlying22 w1) (trodAll_cons_mk (shut_int Try.underlying22 w2) (trodAll_cons_mk (shut_int Try.underlying22 w3) (trodAll_cons_mk (Below.trod laidOut (by kernel_rfl) (of_decide_eq_true (by kernel_rfl)) k4 bel lt4) (trodAll_cons_mk (shut_int Try.underlying24 w5) (trodAll_cons_mk (shut_int Try.underlying5 w6) trodAll_mk0))))))), rfl, bel.frame _, fun h => by cases h⟩

theorem over : Rows.limiterHeldRow.holds Try.pinned (OpenSpec.ofChange Rows.limiterHeldSpec) :=
  OpenClaim.holds_of_wide 3 Try.f3 rfl rfl rfl rfl rfl rfl rfl ⟨rfl, rfl, rfl, rfl, rfl⟩ rfl rfl rfl rfl rfl (by kernel_rfl) Try.func3 (by kernel_rfl)
    (of_decide_eq_true (by kernel_rfl)) (by unfold Func.isWrapper; first | (rw [if_pos (by decide +kernel)]; kernel_rfl) | (rw [if_neg (by decide +kernel)]; exact ⟨rfl, rfl⟩))
    (fun os started H enc _ => lifted os started H enc)

/-- The statement. -/
theorem proved : Rows.LimiterHeldSaid := over
end Go.Proofs.Ythinbjknkjpdjaa.limiterHeld
