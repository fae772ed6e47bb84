/-
  The statement LimiterFresh of this seat: for every input the law returns true, and each argument reads afterwards as it read before. No condition.
-/
import Derived.Test.YthinbjknkjpdjaaM5
import Derived.Test.YthinbjknkjpdjaaRows
import Derived.WalkKit
import Derived.ProofKit
import Derived.OpenShut
import Derived.ShutString
import Derived.ChangeOld
import Derived.Below
namespace Go.Proofs.Ythinbjknkjpdjaa
open Go.RowKit
set_option linter.unusedVariables false
set_option linter.unusedSimpArgs false

set_option maxHeartbeats 2000000 in
set_option maxRecDepth 100000 in
theorem fresh_long1 (kd lm pd bs : Int) (la : Option Addr) (m lc : Nat) (acts : List Ac) (la2 : Option Addr) (m2 lc2 : Nat) (acts2 : List Ac) (w : World) (hm : ¬ (m : Int) ≤ 60) :
    Calls Try.prog 6 #[.int .u8 kd, .int .u16 lm, .int .u16 pd, .int .u16 bs, .slice la m lc, .slice la2 m2 lc2] w fun e w' => e = .returned (.bool true) ∧ Below w.heap.size w w' := by
  have hsm := small_any la m lc
  rw [decide_eq_false hm] at hsm
  have hkn := known_yes
  have HSM := Go.Lib.hid hsm
  have HKN := Go.Lib.hid hkn
  clear hsm hkn
  go_enter Try.func6, Try.ntmps6
  go_wp2_with go_step3
  refine (HSM.out _).mono ?_
  rintro e w1 ⟨rfl, rfl⟩
  go_wp2_with go_step3
  refine (HKN.out _).mono ?_
  rintro e w1 ⟨rfl, hb⟩
  have hsz1 : w.heap.size + 0 ≤ w1.heap.size := by have h := hb.size; (try simp at h); omega
  have hB : Below w.heap.size w w1 := hb
  clear hb
  go_wp2_with go_step3
  go_ret
  exact ⟨rfl, hB⟩

set_option maxHeartbeats 2000000 in
set_option maxRecDepth 100000 in
theorem fresh_long2 (kd lm pd bs : Int) (la : Option Addr) (m lc : Nat) (acts : List Ac) (la2 : Option Addr) (m2 lc2 : Nat) (acts2 : List Ac) (w : World) (hm : (m : Int) ≤ 60) (hm2 : ¬ (m2 : Int) ≤ 60) :
    Calls Try.prog 6 #[.int .u8 kd, .int .u16 lm, .int .u16 pd, .int .u16 bs, .slice la m lc, .slice la2 m2 lc2] w fun e w' => e = .returned (.bool true) ∧ Below w.heap.size w w' := by
  have hsm := small_any la m lc
  rw [decide_eq_true hm] at hsm
  have hsm2 := small_any la2 m2 lc2
  rw [decide_eq_false hm2] at hsm2
  have hkn := known_yes
  have HSM := Go.Lib.hid hsm
  have HSM2 := Go.Lib.hid hsm2
  have HKN := Go.Lib.hid hkn
  clear hsm hsm2 hkn
  go_enter Try.func6, Try.ntmps6
  go_wp2_with go_step3
  refine (HSM.out _).mono ?_
  rintro e w1 ⟨rfl, rfl⟩
  go_wp2_with go_step3
  refine (HSM2.out _).mono ?_
  rintro e w1 ⟨rfl, rfl⟩
  go_wp2_with go_step3
  refine (HKN.out _).mono ?_
  rintro e w1 ⟨rfl, hb⟩
  have hsz1 : w.heap.size + 0 ≤ w1.heap.size := by have h := hb.size; (try simp at h); omega
  have hB : Below w.heap.size w w1 := hb
  clear hb
  go_wp2_with go_step3
  go_ret
  exact ⟨rfl, hB⟩

set_option maxHeartbeats 2000000 in
set_option maxRecDepth 100000 in
theorem fresh_held (kd lm pd bs : Int) (la : Option Addr) (m lc : Nat) (acts : List Ac) (la2 : Option Addr) (m2 lc2 : Nat) (acts2 : List Ac) (w : World) (hkd : 0 ≤ kd ∧ kd ≤ 255) (hlm : 0 ≤ lm ∧ lm ≤ 65535) (hpd : 0 ≤ pd ∧ pd ≤ 65535) (hbs : 0 ≤ bs ∧ bs ≤ 65535) (hm : (m : Int) ≤ 60) (hm2 : (m2 : Int) ≤ 60) (hA : ActsIn w la m lc acts) (hA2 : ActsIn w la2 m2 lc2 acts2) (s : St) (hs : (runP (ofP kd lm pd bs) (newP (ofP kd lm pd bs) 0) acts).1 = s) (hu : untilP (ofP kd lm pd bs) s 0 < 0) :
    Calls Try.prog 6 #[.int .u8 kd, .int .u16 lm, .int .u16 pd, .int .u16 bs, .slice la m lc, .slice la2 m2 lc2] w fun e w' => e = .returned (.bool true) ∧ Below w.heap.size w w' := by
  have hsm := small_any la m lc
  rw [decide_eq_true hm] at hsm
  have hsm2 := small_any la2 m2 lc2
  rw [decide_eq_true hm2] at hsm2
  have hof := fun w => ofP_any kd lm pd bs w hkd hlm hpd hbs
  obtain ⟨hC, hp1, hp2⟩ := ofP_ok kd lm pd bs hlm hpd hbs
  generalize ofP kd lm pd bs = P at *
  have KL := kern_P hC
  have hcp := capP_range hC
  have hnw := lnew_any P 0
  have hrun := fun w hw => run_any P (newP P 0) acts none 0 0 la m lc w (by rw [newP_log]; exact log_nil _ _ _ (by omega)) (by omega) hw (by omega)
  have hR : rightP P s = true := by rw [← hs]; exact right_run hC acts _ (KL.right_new 0)
  generalize runP P (newP P 0) acts = RR at *
  obtain ⟨s', rbs⟩ := RR
  dsimp only at hs
  subst hs
  rename St => s
  have hat := KL.at_range s hR
  have hng := KL.until_neg s 0 hR
  have hul := KL.until_le s hR
  have hxl := newP_log P 0
  have hup : capP P * P.period ≤ 4294967296 := Int.le_trans (Pu.mulr hp2 (by omega)) (by omega)
  have hun := fun a n c w hw => luntil_any P s a n c 0 w hw
  have hne : ¬ untilP P s 0 = 0 := by omega
  have hfr := fun a n c w hw => lfresh_any P s a n c 0 w hw
  rw [show (untilP P s 0 == 0) = false by simpa using hne] at hfr
  have hh := hng.1 hu
  generalize newP P 0 = X0 at *
  generalize hU : untilP P s 0 = U at *
  obtain ⟨sa, sl, sh, sL⟩ := s
  obtain ⟨xa, xl, xh, xL⟩ := X0
  dsimp only at *
  subst hxl
  clear KL hC hp1 hp2 hup hul hR hU hcp hng hat
  obtain ⟨k, l, d, b, cc, o⟩ := P
  have hkn := known_yes
  unfold Ac.v St.v Pol.v at *
  (try dsimp only at *)
  have H_HSM := Go.Lib.hid hsm
  have H_HSM2 := Go.Lib.hid hsm2
  have H_HOF := Go.Lib.hid hof
  have H_HNW := Go.Lib.hid hnw
  have H_HRUN := Go.Lib.hid hrun
  have H_HUN := Go.Lib.hid hun
  have H_HKN := Go.Lib.hid hkn
  have H_HA := Go.Lib.hid hA
  have H_HA2 := Go.Lib.hid hA2
  have H_HFR := Go.Lib.hid hfr
  clear hsm hsm2 hof hnw hrun hun hkn hA hA2 hfr
  go_enter Try.func6, Try.ntmps6
  go_wp2_with go_step3
  refine (H_HSM.out _).mono ?_
  rintro e w1 ⟨rfl, rfl⟩
  go_wp2_with go_step3
  refine (H_HSM2.out _).mono ?_
  rintro e w1 ⟨rfl, rfl⟩
  go_wp2_with go_step3
  refine (H_HOF.out _).mono ?_
  rintro e w1 ⟨rfl, hb⟩
  have hsz1 : w.heap.size + 0 ≤ w1.heap.size := by have h := hb.size; (try simp at h); omega
  have hB : Below w.heap.size w w1 := hb
  clear hb
  go_wp2_with go_step3
  skip
  refine wp_abs (S0 := fun X => (fun w' => w'.cell? ⟨w1.heap.size, 0, none⟩ = some (.int .i64 k) ∧ w'.cell? ⟨w1.heap.size, 1, none⟩ = some (.int .i64 l) ∧ w'.cell? ⟨w1.heap.size, 2, none⟩ = some (.int .i64 d) ∧ w'.cell? ⟨w1.heap.size, 3, none⟩ = some (.int .i64 b) ∧ w'.cell? ⟨w1.heap.size, 4, none⟩ = some (.int .i64 cc) ∧ w'.cell? ⟨w1.heap.size, 5, none⟩ = some (.bool o) ∧ Below w.heap.size w w') X ∧ w1.heap.size + 1 ≤ X.heap.size) ⟨⟨by go_simp, by go_simp, by go_simp, by go_simp, by go_simp, by go_simp, bl_alloc (hB) _⟩, by simp⟩ ?_
  clear hB
  rintro w2 ⟨⟨p0, p1, p2, p3, p4, p5, hB⟩, hsz2⟩
  have lb_p := World.block_lt_of_cell? w2 _ p0
  dsimp only at lb_p
  refine wp_region_held_drew (S := fun w' => w'.cell? ⟨w1.heap.size, 0, none⟩ = some (.int .i64 k) ∧ w'.cell? ⟨w1.heap.size, 1, none⟩ = some (.int .i64 l) ∧ w'.cell? ⟨w1.heap.size, 2, none⟩ = some (.int .i64 d) ∧ w'.cell? ⟨w1.heap.size, 3, none⟩ = some (.int .i64 b) ∧ w'.cell? ⟨w1.heap.size, 4, none⟩ = some (.int .i64 cc) ∧ w'.cell? ⟨w1.heap.size, 5, none⟩ = some (.bool o) ∧ Below w.heap.size w w') (by kernel_rfl) ?_ (fun hHeld => ?_)
  · exact ⟨p0, p1, p2, p3, p4, p5, bl_drew hB⟩
  try simp only [Act.put, List.setIfInBounds_toArray, List.set_cons_zero, List.set_cons_succ]
  clear hB p0 p1 p2 p3 p4 p5
  refine wpAnyH_abs (F := fun _ => True) hHeld trivial ?_
  clear hHeld
  rintro X0 hHeld -
  (refine tk (i := 0) rfl rfl hHeld ?_)
  (refine tk (i := 1) rfl rfl hHeld ?_)
  (refine tk (i := 3) rfl rfl hHeld ?_)
  refine callC2 (i := 2) (j := 8) rfl rfl (fun K hK => ?x1_2) (fun K hK => ?x1_8)
  case' x1_2 =>
    obtain ⟨h_p0, h_p1, h_p2, h_p3, h_p4, h_p5, h_B⟩ := (id hHeld)
    go_simp
    refine (H_HNW.out _).mono ?_
    rintro e X3 ⟨rfl, hb⟩
    go_wp2_with fail
    refine hK.out _ _ ?_ (fun hHeld2 => ?_)
    · (try dsimp only); exact ⟨bl_cell hb h_p0, bl_cell hb h_p1, bl_cell hb h_p2, bl_cell hb h_p3, bl_cell hb h_p4, bl_cell hb h_p5, bl_then h_B hb⟩
    clear hHeld hK K h_p0 h_p1 h_p2 h_p3 h_p4 h_p5 h_B hb
    have hHeld := hHeld2
    clear hHeld2
    try simp only [Act.put, List.setIfInBounds_toArray, List.set_cons_zero, List.set_cons_succ]
    refine callC2 (i := 4) (j := 8) rfl rfl (fun K hK => ?x2_4) (fun K hK => ?x2_8)
    case' x2_4 =>
      obtain ⟨h_p0, h_p1, h_p2, h_p3, h_p4, h_p5, h_B⟩ := (id hHeld)
      go_simp
      refine (H_HRUN.out _ (actsin_bl H_HA.out h_B)).mono ?_
      rintro e X4 ⟨a1, n1, c1, m1, vb, rfl, hLs, hFr, -, hb⟩
      unfold St.v
      (try dsimp only)
      go_wp2_with fail
      refine hK.out _ _ ?_ (fun hHeld2 => ?_)
      · (try dsimp only); exact ⟨bl_cell hb h_p0, bl_cell hb h_p1, bl_cell hb h_p2, bl_cell hb h_p3, bl_cell hb h_p4, bl_cell hb h_p5, bl_then h_B hb⟩
      clear hHeld hK K h_p0 h_p1 h_p2 h_p3 h_p4 h_p5 h_B hb
      have hHeld := hHeld2
      clear hHeld2
      try simp only [Act.put, List.setIfInBounds_toArray, List.set_cons_zero, List.set_cons_succ]
      (refine tk (i := 5) rfl rfl hHeld ?_)
      (refine tk (i := 6) rfl rfl hHeld ?_)
      (refine tk (i := 7) rfl rfl hHeld ?_)
      refine callC (i := 8) rfl (fun K hK => ?_)
      obtain ⟨h_p0, h_p1, h_p2, h_p3, h_p4, h_p5, h_B⟩ := (id hHeld)
      go_simp
      refine hK.out _ _ ?_ (fun hHeld2 => ?_)
      · (try dsimp only); exact ⟨bl_cell (bl_alloc (bl_refl _) _) h_p0, bl_cell (bl_alloc (bl_refl _) _) h_p1, bl_cell (bl_alloc (bl_refl _) _) h_p2, bl_cell (bl_alloc (bl_refl _) _) h_p3, bl_cell (bl_alloc (bl_refl _) _) h_p4, bl_cell (bl_alloc (bl_refl _) _) h_p5, bl_alloc h_B _⟩
      have rn0 := World.block_lt_of_cell? _ _ h_p0
      dsimp only at rn0
      have rB := h_B.size
      have hne := log_lt hLs
      replace hLs := log_bl hLs (bl_alloc (bl_refl _) (.cells #[.int .i64 0, .int .i64 0, .int .i64 0, .slice none 0 0] 32))
      clear hHeld hK K h_p0 h_p1 h_p2 h_p3 h_p4 h_p5 h_B
      have hHeld := hHeld2
      clear hHeld2
      try simp only [Act.put, List.setIfInBounds_toArray, List.set_cons_zero, List.set_cons_succ]
      refine wpAnyH_abs (F := fun X => ResB X X4.heap.size ∧ LogAt X a1 n1 c1 sL) hHeld ⟨res_new _ _ _ _ _ _ rfl, hLs⟩ ?_
      clear hHeld hLs
      generalize X4.heap.size = r at *
      replace hne := fun ad e hn => Nat.ne_of_lt (hne ad e hn)
      rintro X8 hHeld ⟨hRes, hLs⟩
      refine callC (i := 9) rfl (fun K hK => ?_)
      obtain ⟨h_p0, h_p1, h_p2, h_p3, h_p4, h_p5, h_B⟩ := (id hHeld)
      obtain ⟨f0, f1, f2, f3, u0, u1, u2, u3, i0, i1, i2, i3⟩ := res_all hRes
      go_simp
      refine hK.out _ _ ?_ (fun hHeld2 => ?_)
      · (try dsimp only); exact ⟨far4 h_p0 (by dsimp only; omega), far4 h_p1 (by dsimp only; omega), far4 h_p2 (by dsimp only; omega), far4 h_p3 (by dsimp only; omega), far4 h_p4 (by dsimp only; omega), far4 h_p5 (by dsimp only; omega), bl4 h_B (by omega)⟩
      obtain ⟨z0, z1, z2, z3⟩ := set4r (v0 := .int .i64 sa) (v1 := .int .i64 sl) (v2 := .int .i64 sh) (v3 := .slice a1 n1 c1) hRes
      replace hLs := log_set4 (b := r) (v0 := .int .i64 sa) (v1 := .int .i64 sl) (v2 := .int .i64 sh) (v3 := .slice a1 n1 c1) hLs hne
      replace hRes := res4 (b := r) (v0 := .int .i64 sa) (v1 := .int .i64 sl) (v2 := .int .i64 sh) (v3 := .slice a1 n1 c1) hRes
      clear hHeld hK K h_p0 h_p1 h_p2 h_p3 h_p4 h_p5 h_B f0 f1 f2 f3 i0 i1 i2 i3 u0 u1 u2 u3
      have hHeld := hHeld2
      clear hHeld2
      try simp only [Act.put, List.setIfInBounds_toArray, List.set_cons_zero, List.set_cons_succ]
      (refine tk (i := 10) rfl rfl hHeld ?_)
      refine wpAnyH_done (by kernel_rfl) ?_ _
      refine then_abs (F := fun X => (fun w' => w'.cell? ⟨w1.heap.size, 0, none⟩ = some (.int .i64 k) ∧ w'.cell? ⟨w1.heap.size, 1, none⟩ = some (.int .i64 l) ∧ w'.cell? ⟨w1.heap.size, 2, none⟩ = some (.int .i64 d) ∧ w'.cell? ⟨w1.heap.size, 3, none⟩ = some (.int .i64 b) ∧ w'.cell? ⟨w1.heap.size, 4, none⟩ = some (.int .i64 cc) ∧ w'.cell? ⟨w1.heap.size, 5, none⟩ = some (.bool o) ∧ Below w.heap.size w w') X ∧ X.cell? ⟨r, 0, none⟩ = some (.int .i64 sa) ∧ X.cell? ⟨r, 1, none⟩ = some (.int .i64 sl) ∧ X.cell? ⟨r, 2, none⟩ = some (.int .i64 sh) ∧ X.cell? ⟨r, 3, none⟩ = some (.slice a1 n1 c1) ∧ ResB X r ∧ LogAt X a1 n1 c1 sL) ⟨hHeld, z0, z1, z2, z3, hRes, hLs⟩ ?_
      clear hHeld z0 z1 z2 z3 hRes hLs
    case' x2_8 =>
      obtain ⟨h_p0, h_p1, h_p2, h_p3, h_p4, h_p5, h_B⟩ := (id hHeld)
      go_simp
      refine hK.out _ _ ?_ (fun hHeld2 => ?_)
      · (try dsimp only); exact ⟨bl_cell (bl_alloc (bl_refl _) _) h_p0, bl_cell (bl_alloc (bl_refl _) _) h_p1, bl_cell (bl_alloc (bl_refl _) _) h_p2, bl_cell (bl_alloc (bl_refl _) _) h_p3, bl_cell (bl_alloc (bl_refl _) _) h_p4, bl_cell (bl_alloc (bl_refl _) _) h_p5, bl_alloc h_B _⟩
      have rn0 := World.block_lt_of_cell? _ _ h_p0
      dsimp only at rn0
      have rB := h_B.size
      clear hHeld hK K h_p0 h_p1 h_p2 h_p3 h_p4 h_p5 h_B
      have hHeld := hHeld2
      clear hHeld2
      try simp only [Act.put, List.setIfInBounds_toArray, List.set_cons_zero, List.set_cons_succ]
      refine wpAnyH_abs (F := fun X => ResB X X3.heap.size) hHeld (res_new _ _ _ _ _ _ rfl) ?_
      clear hHeld
      generalize X3.heap.size = r at *
      rintro X4 hHeld hRes
      refine callC (i := 4) rfl (fun K hK => ?_)
      obtain ⟨h_p0, h_p1, h_p2, h_p3, h_p4, h_p5, h_B⟩ := (id hHeld)
      go_simp
      refine (H_HRUN.out _ (actsin_bl H_HA.out h_B)).mono ?_
      rintro e X5 ⟨a1, n1, c1, m1, vb, rfl, hLs, hFr, -, hb⟩
      unfold St.v
      (try dsimp only)
      go_wp2_with fail
      refine hK.out _ _ ?_ (fun hHeld2 => ?_)
      · (try dsimp only); exact ⟨bl_cell hb h_p0, bl_cell hb h_p1, bl_cell hb h_p2, bl_cell hb h_p3, bl_cell hb h_p4, bl_cell hb h_p5, bl_then h_B hb⟩
      have hrl := res_lt hRes
      have hne : ∀ ad, a1 = some ad → n1 ≠ 0 → ad.block ≠ r := fun ad e hn => by have := hb.size; rcases hFr with h | h; exact absurd h hn; have := h ad e; omega
      clear hrl
      replace hRes := res_bl hRes hb
      clear hHeld hK K h_p0 h_p1 h_p2 h_p3 h_p4 h_p5 h_B hb
      have hHeld := hHeld2
      clear hHeld2
      try simp only [Act.put, List.setIfInBounds_toArray, List.set_cons_zero, List.set_cons_succ]
      (refine tk (i := 5) rfl rfl hHeld ?_)
      (refine tk (i := 6) rfl rfl hHeld ?_)
      (refine tk (i := 7) rfl rfl hHeld ?_)
      refine callC (i := 9) rfl (fun K hK => ?_)
      obtain ⟨h_p0, h_p1, h_p2, h_p3, h_p4, h_p5, h_B⟩ := (id hHeld)
      obtain ⟨f0, f1, f2, f3, u0, u1, u2, u3, i0, i1, i2, i3⟩ := res_all hRes
      go_simp
      refine hK.out _ _ ?_ (fun hHeld2 => ?_)
      · (try dsimp only); exact ⟨far4 h_p0 (by dsimp only; omega), far4 h_p1 (by dsimp only; omega), far4 h_p2 (by dsimp only; omega), far4 h_p3 (by dsimp only; omega), far4 h_p4 (by dsimp only; omega), far4 h_p5 (by dsimp only; omega), bl4 h_B (by omega)⟩
      obtain ⟨z0, z1, z2, z3⟩ := set4r (v0 := .int .i64 sa) (v1 := .int .i64 sl) (v2 := .int .i64 sh) (v3 := .slice a1 n1 c1) hRes
      replace hLs := log_set4 (b := r) (v0 := .int .i64 sa) (v1 := .int .i64 sl) (v2 := .int .i64 sh) (v3 := .slice a1 n1 c1) hLs hne
      replace hRes := res4 (b := r) (v0 := .int .i64 sa) (v1 := .int .i64 sl) (v2 := .int .i64 sh) (v3 := .slice a1 n1 c1) hRes
      clear hHeld hK K h_p0 h_p1 h_p2 h_p3 h_p4 h_p5 h_B f0 f1 f2 f3 i0 i1 i2 i3 u0 u1 u2 u3
      have hHeld := hHeld2
      clear hHeld2
      try simp only [Act.put, List.setIfInBounds_toArray, List.set_cons_zero, List.set_cons_succ]
      (refine tk (i := 10) rfl rfl hHeld ?_)
      refine wpAnyH_done (by kernel_rfl) ?_ _
      refine then_abs (F := fun X => (fun w' => w'.cell? ⟨w1.heap.size, 0, none⟩ = some (.int .i64 k) ∧ w'.cell? ⟨w1.heap.size, 1, none⟩ = some (.int .i64 l) ∧ w'.cell? ⟨w1.heap.size, 2, none⟩ = some (.int .i64 d) ∧ w'.cell? ⟨w1.heap.size, 3, none⟩ = some (.int .i64 b) ∧ w'.cell? ⟨w1.heap.size, 4, none⟩ = some (.int .i64 cc) ∧ w'.cell? ⟨w1.heap.size, 5, none⟩ = some (.bool o) ∧ Below w.heap.size w w') X ∧ X.cell? ⟨r, 0, none⟩ = some (.int .i64 sa) ∧ X.cell? ⟨r, 1, none⟩ = some (.int .i64 sl) ∧ X.cell? ⟨r, 2, none⟩ = some (.int .i64 sh) ∧ X.cell? ⟨r, 3, none⟩ = some (.slice a1 n1 c1) ∧ ResB X r ∧ LogAt X a1 n1 c1 sL) ⟨hHeld, z0, z1, z2, z3, hRes, hLs⟩ ?_
      clear hHeld z0 z1 z2 z3 hRes hLs
  case' x1_8 =>
    obtain ⟨h_p0, h_p1, h_p2, h_p3, h_p4, h_p5, h_B⟩ := (id hHeld)
    go_simp
    refine hK.out _ _ ?_ (fun hHeld2 => ?_)
    · (try dsimp only); exact ⟨bl_cell (bl_alloc (bl_refl _) _) h_p0, bl_cell (bl_alloc (bl_refl _) _) h_p1, bl_cell (bl_alloc (bl_refl _) _) h_p2, bl_cell (bl_alloc (bl_refl _) _) h_p3, bl_cell (bl_alloc (bl_refl _) _) h_p4, bl_cell (bl_alloc (bl_refl _) _) h_p5, bl_alloc h_B _⟩
    have rn0 := World.block_lt_of_cell? _ _ h_p0
    dsimp only at rn0
    have rB := h_B.size
    clear hHeld hK K h_p0 h_p1 h_p2 h_p3 h_p4 h_p5 h_B
    have hHeld := hHeld2
    clear hHeld2
    try simp only [Act.put, List.setIfInBounds_toArray, List.set_cons_zero, List.set_cons_succ]
    refine wpAnyH_abs (F := fun X => ResB X X0.heap.size) hHeld (res_new _ _ _ _ _ _ rfl) ?_
    clear hHeld
    generalize X0.heap.size = r at *
    rintro X3 hHeld hRes
    refine callC (i := 2) rfl (fun K hK => ?_)
    obtain ⟨h_p0, h_p1, h_p2, h_p3, h_p4, h_p5, h_B⟩ := (id hHeld)
    go_simp
    refine (H_HNW.out _).mono ?_
    rintro e X4 ⟨rfl, hb⟩
    go_wp2_with fail
    refine hK.out _ _ ?_ (fun hHeld2 => ?_)
    · (try dsimp only); exact ⟨bl_cell hb h_p0, bl_cell hb h_p1, bl_cell hb h_p2, bl_cell hb h_p3, bl_cell hb h_p4, bl_cell hb h_p5, bl_then h_B hb⟩
    replace hRes := res_bl hRes hb
    clear hHeld hK K h_p0 h_p1 h_p2 h_p3 h_p4 h_p5 h_B hb
    have hHeld := hHeld2
    clear hHeld2
    try simp only [Act.put, List.setIfInBounds_toArray, List.set_cons_zero, List.set_cons_succ]
    refine callC (i := 4) rfl (fun K hK => ?_)
    obtain ⟨h_p0, h_p1, h_p2, h_p3, h_p4, h_p5, h_B⟩ := (id hHeld)
    go_simp
    refine (H_HRUN.out _ (actsin_bl H_HA.out h_B)).mono ?_
    rintro e X5 ⟨a1, n1, c1, m1, vb, rfl, hLs, hFr, -, hb⟩
    unfold St.v
    (try dsimp only)
    go_wp2_with fail
    refine hK.out _ _ ?_ (fun hHeld2 => ?_)
    · (try dsimp only); exact ⟨bl_cell hb h_p0, bl_cell hb h_p1, bl_cell hb h_p2, bl_cell hb h_p3, bl_cell hb h_p4, bl_cell hb h_p5, bl_then h_B hb⟩
    have hrl := res_lt hRes
    have hne : ∀ ad, a1 = some ad → n1 ≠ 0 → ad.block ≠ r := fun ad e hn => by have := hb.size; rcases hFr with h | h; exact absurd h hn; have := h ad e; omega
    clear hrl
    replace hRes := res_bl hRes hb
    clear hHeld hK K h_p0 h_p1 h_p2 h_p3 h_p4 h_p5 h_B hb
    have hHeld := hHeld2
    clear hHeld2
    try simp only [Act.put, List.setIfInBounds_toArray, List.set_cons_zero, List.set_cons_succ]
    (refine tk (i := 5) rfl rfl hHeld ?_)
    (refine tk (i := 6) rfl rfl hHeld ?_)
    (refine tk (i := 7) rfl rfl hHeld ?_)
    refine callC (i := 9) rfl (fun K hK => ?_)
    obtain ⟨h_p0, h_p1, h_p2, h_p3, h_p4, h_p5, h_B⟩ := (id hHeld)
    obtain ⟨f0, f1, f2, f3, u0, u1, u2, u3, i0, i1, i2, i3⟩ := res_all hRes
    go_simp
    refine hK.out _ _ ?_ (fun hHeld2 => ?_)
    · (try dsimp only); exact ⟨far4 h_p0 (by dsimp only; omega), far4 h_p1 (by dsimp only; omega), far4 h_p2 (by dsimp only; omega), far4 h_p3 (by dsimp only; omega), far4 h_p4 (by dsimp only; omega), far4 h_p5 (by dsimp only; omega), bl4 h_B (by omega)⟩
    obtain ⟨z0, z1, z2, z3⟩ := set4r (v0 := .int .i64 sa) (v1 := .int .i64 sl) (v2 := .int .i64 sh) (v3 := .slice a1 n1 c1) hRes
    replace hLs := log_set4 (b := r) (v0 := .int .i64 sa) (v1 := .int .i64 sl) (v2 := .int .i64 sh) (v3 := .slice a1 n1 c1) hLs hne
    replace hRes := res4 (b := r) (v0 := .int .i64 sa) (v1 := .int .i64 sl) (v2 := .int .i64 sh) (v3 := .slice a1 n1 c1) hRes
    clear hHeld hK K h_p0 h_p1 h_p2 h_p3 h_p4 h_p5 h_B f0 f1 f2 f3 i0 i1 i2 i3 u0 u1 u2 u3
    have hHeld := hHeld2
    clear hHeld2
    try simp only [Act.put, List.setIfInBounds_toArray, List.set_cons_zero, List.set_cons_succ]
    (refine tk (i := 10) rfl rfl hHeld ?_)
    refine wpAnyH_done (by kernel_rfl) ?_ _
    refine then_abs (F := fun X => (fun w' => w'.cell? ⟨w1.heap.size, 0, none⟩ = some (.int .i64 k) ∧ w'.cell? ⟨w1.heap.size, 1, none⟩ = some (.int .i64 l) ∧ w'.cell? ⟨w1.heap.size, 2, none⟩ = some (.int .i64 d) ∧ w'.cell? ⟨w1.heap.size, 3, none⟩ = some (.int .i64 b) ∧ w'.cell? ⟨w1.heap.size, 4, none⟩ = some (.int .i64 cc) ∧ w'.cell? ⟨w1.heap.size, 5, none⟩ = some (.bool o) ∧ Below w.heap.size w w') X ∧ X.cell? ⟨r, 0, none⟩ = some (.int .i64 sa) ∧ X.cell? ⟨r, 1, none⟩ = some (.int .i64 sl) ∧ X.cell? ⟨r, 2, none⟩ = some (.int .i64 sh) ∧ X.cell? ⟨r, 3, none⟩ = some (.slice a1 n1 c1) ∧ ResB X r ∧ LogAt X a1 n1 c1 sL) ⟨hHeld, z0, z1, z2, z3, hRes, hLs⟩ ?_
    clear hHeld z0 z1 z2 z3 hRes hLs
  all_goals rintro w3 ⟨⟨p0, p1, p2, p3, p4, p5, hB⟩, s0, s1, s2, s3, sR, hLs⟩
  all_goals
    replace lb_p := World.block_lt_of_cell? w3 _ p0
    dsimp only at lb_p
    have lb_s := World.block_lt_of_cell? w3 _ s0
    dsimp only at lb_s
    go_wp2_with go_step3
    refine (H_HUN.out _ _ _ _ hLs).mono ?_
    rintro e w4 ⟨rfl, hb⟩
    have hsz3 : w3.heap.size + 0 ≤ w4.heap.size := by have h := hb.size; (try simp at h); omega
    replace p0 := bl_cell hb p0
    replace p1 := bl_cell hb p1
    replace p2 := bl_cell hb p2
    replace p3 := bl_cell hb p3
    replace p4 := bl_cell hb p4
    replace p5 := bl_cell hb p5
    replace s0 := bl_cell hb s0
    replace s1 := bl_cell hb s1
    replace s2 := bl_cell hb s2
    replace s3 := bl_cell hb s3
    replace sR := res_bl sR hb
    replace hLs := log_bl hLs hb
    replace hB : Below w.heap.size w w4 := bl_then hB hb
    replace lb_p := World.block_lt_of_cell? w4 _ p0
    dsimp only at lb_p
    replace lb_s := World.block_lt_of_cell? w4 _ s0
    dsimp only at lb_s
    clear hb
    go_wp2_with go_step3
    refine (H_HFR.out _ _ _ _ hLs).mono ?_
    rintro e w5 ⟨rfl, hb⟩
    have hsz4 : w4.heap.size + 0 ≤ w5.heap.size := by have h := hb.size; (try simp at h); omega
    replace p0 := bl_cell hb p0
    replace p1 := bl_cell hb p1
    replace p2 := bl_cell hb p2
    replace p3 := bl_cell hb p3
    replace p4 := bl_cell hb p4
    replace p5 := bl_cell hb p5
    replace s0 := bl_cell hb s0
    replace s1 := bl_cell hb s1
    replace s2 := bl_cell hb s2
    replace s3 := bl_cell hb s3
    replace sR := res_bl sR hb
    replace hLs := log_bl hLs hb
    replace hB : Below w.heap.size w w5 := bl_then hB hb
    replace lb_p := World.block_lt_of_cell? w5 _ p0
    dsimp only at lb_p
    replace lb_s := World.block_lt_of_cell? w5 _ s0
    dsimp only at lb_s
    clear hb
    go_wp2_with go_step3
    refine (H_HKN.out _).mono ?_
    rintro e w6 ⟨rfl, hb⟩
    have hsz5 : w5.heap.size + 0 ≤ w6.heap.size := by have h := hb.size; (try simp at h); omega
    replace p0 := bl_cell hb p0
    replace p1 := bl_cell hb p1
    replace p2 := bl_cell hb p2
    replace p3 := bl_cell hb p3
    replace p4 := bl_cell hb p4
    replace p5 := bl_cell hb p5
    replace s0 := bl_cell hb s0
    replace s1 := bl_cell hb s1
    replace s2 := bl_cell hb s2
    replace s3 := bl_cell hb s3
    replace sR := res_bl sR hb
    replace hLs := log_bl hLs hb
    replace hB : Below w.heap.size w w6 := bl_then hB hb
    replace lb_p := World.block_lt_of_cell? w6 _ p0
    dsimp only at lb_p
    replace lb_s := World.block_lt_of_cell? w6 _ s0
    dsimp only at lb_s
    clear hb
    go_wp2_with go_step3
    go_ret
    exact ⟨rfl, hB⟩

set_option maxHeartbeats 2000000 in
set_option maxRecDepth 100000 in
theorem fresh_late (kd lm pd bs : Int) (la : Option Addr) (m lc : Nat) (acts : List Ac) (la2 : Option Addr) (m2 lc2 : Nat) (acts2 : List Ac) (w : World) (hkd : 0 ≤ kd ∧ kd ≤ 255) (hlm : 0 ≤ lm ∧ lm ≤ 65535) (hpd : 0 ≤ pd ∧ pd ≤ 65535) (hbs : 0 ≤ bs ∧ bs ≤ 65535) (hm : (m : Int) ≤ 60) (hm2 : (m2 : Int) ≤ 60) (hA : ActsIn w la m lc acts) (hA2 : ActsIn w la2 m2 lc2 acts2) (s : St) (hs : (runP (ofP kd lm pd bs) (newP (ofP kd lm pd bs) 0) acts).1 = s) (hu : ¬ untilP (ofP kd lm pd bs) s 0 < 0) (ht : 4503599627370496 < s.at_ + untilP (ofP kd lm pd bs) s 0) :
    Calls Try.prog 6 #[.int .u8 kd, .int .u16 lm, .int .u16 pd, .int .u16 bs, .slice la m lc, .slice la2 m2 lc2] w fun e w' => e = .returned (.bool true) ∧ Below w.heap.size w w' := by
  have hsm := small_any la m lc
  rw [decide_eq_true hm] at hsm
  have hsm2 := small_any la2 m2 lc2
  rw [decide_eq_true hm2] at hsm2
  have hof := fun w => ofP_any kd lm pd bs w hkd hlm hpd hbs
  obtain ⟨hC, hp1, hp2⟩ := ofP_ok kd lm pd bs hlm hpd hbs
  generalize ofP kd lm pd bs = P at *
  have KL := kern_P hC
  have hcp := capP_range hC
  have hnw := lnew_any P 0
  have hrun := fun w hw => run_any P (newP P 0) acts none 0 0 la m lc w (by rw [newP_log]; exact log_nil _ _ _ (by omega)) (by omega) hw (by omega)
  have hR : rightP P s = true := by rw [← hs]; exact right_run hC acts _ (KL.right_new 0)
  generalize runP P (newP P 0) acts = RR at *
  obtain ⟨s', rbs⟩ := RR
  dsimp only at hs
  subst hs
  rename St => s
  have hat := KL.at_range s hR
  have hng := KL.until_neg s 0 hR
  have hul := KL.until_le s hR
  have hxl := newP_log P 0
  have hup : capP P * P.period ≤ 4294967296 := Int.le_trans (Pu.mulr hp2 (by omega)) (by omega)
  have hun := fun a n c w hw => luntil_any P s a n c 0 w hw
  generalize newP P 0 = X0 at *
  generalize hU : untilP P s 0 = U at *
  obtain ⟨sa, sl, sh, sL⟩ := s
  obtain ⟨xa, xl, xh, xL⟩ := X0
  dsimp only at *
  subst hxl
  have ww1 : IntKind.i64.wrap (sa + U) = sa + U := IntWalk.i64_in _ (by omega)
  clear KL hC hp1 hp2 hup hul hR hU hcp hng hat
  obtain ⟨k, l, d, b, cc, o⟩ := P
  have hkn := known_yes
  unfold Ac.v St.v Pol.v at *
  (try dsimp only at *)
  have H_HSM := Go.Lib.hid hsm
  have H_HSM2 := Go.Lib.hid hsm2
  have H_HOF := Go.Lib.hid hof
  have H_HNW := Go.Lib.hid hnw
  have H_HRUN := Go.Lib.hid hrun
  have H_HUN := Go.Lib.hid hun
  have H_HKN := Go.Lib.hid hkn
  have H_HA := Go.Lib.hid hA
  have H_HA2 := Go.Lib.hid hA2
  clear hsm hsm2 hof hnw hrun hun hkn hA hA2
  go_enter Try.func6, Try.ntmps6
  go_wp2_with go_step3
  refine (H_HSM.out _).mono ?_
  rintro e w1 ⟨rfl, rfl⟩
  go_wp2_with go_step3
  refine (H_HSM2.out _).mono ?_
  rintro e w1 ⟨rfl, rfl⟩
  go_wp2_with go_step3
  refine (H_HOF.out _).mono ?_
  rintro e w1 ⟨rfl, hb⟩
  have hsz1 : w.heap.size + 0 ≤ w1.heap.size := by have h := hb.size; (try simp at h); omega
  have hB : Below w.heap.size w w1 := hb
  clear hb
  go_wp2_with go_step3
  skip
  refine wp_abs (S0 := fun X => (fun w' => w'.cell? ⟨w1.heap.size, 0, none⟩ = some (.int .i64 k) ∧ w'.cell? ⟨w1.heap.size, 1, none⟩ = some (.int .i64 l) ∧ w'.cell? ⟨w1.heap.size, 2, none⟩ = some (.int .i64 d) ∧ w'.cell? ⟨w1.heap.size, 3, none⟩ = some (.int .i64 b) ∧ w'.cell? ⟨w1.heap.size, 4, none⟩ = some (.int .i64 cc) ∧ w'.cell? ⟨w1.heap.size, 5, none⟩ = some (.bool o) ∧ Below w.heap.size w w') X ∧ w1.heap.size + 1 ≤ X.heap.size) ⟨⟨by go_simp, by go_simp, by go_simp, by go_simp, by go_simp, by go_simp, bl_alloc (hB) _⟩, by simp⟩ ?_
  clear hB
  rintro w2 ⟨⟨p0, p1, p2, p3, p4, p5, hB⟩, hsz2⟩
  have lb_p := World.block_lt_of_cell? w2 _ p0
  dsimp only at lb_p
  refine wp_region_held_drew (S := fun w' => w'.cell? ⟨w1.heap.size, 0, none⟩ = some (.int .i64 k) ∧ w'.cell? ⟨w1.heap.size, 1, none⟩ = some (.int .i64 l) ∧ w'.cell? ⟨w1.heap.size, 2, none⟩ = some (.int .i64 d) ∧ w'.cell? ⟨w1.heap.size, 3, none⟩ = some (.int .i64 b) ∧ w'.cell? ⟨w1.heap.size, 4, none⟩ = some (.int .i64 cc) ∧ w'.cell? ⟨w1.heap.size, 5, none⟩ = some (.bool o) ∧ Below w.heap.size w w') (by kernel_rfl) ?_ (fun hHeld => ?_)
  · exact ⟨p0, p1, p2, p3, p4, p5, bl_drew hB⟩
  try simp only [Act.put, List.setIfInBounds_toArray, List.set_cons_zero, List.set_cons_succ]
  clear hB p0 p1 p2 p3 p4 p5
  refine wpAnyH_abs (F := fun _ => True) hHeld trivial ?_
  clear hHeld
  rintro X0 hHeld -
  (refine tk (i := 0) rfl rfl hHeld ?_)
  (refine tk (i := 1) rfl rfl hHeld ?_)
  (refine tk (i := 3) rfl rfl hHeld ?_)
  refine callC2 (i := 2) (j := 8) rfl rfl (fun K hK => ?x1_2) (fun K hK => ?x1_8)
  case' x1_2 =>
    obtain ⟨h_p0, h_p1, h_p2, h_p3, h_p4, h_p5, h_B⟩ := (id hHeld)
    go_simp
    refine (H_HNW.out _).mono ?_
    rintro e X3 ⟨rfl, hb⟩
    go_wp2_with fail
    refine hK.out _ _ ?_ (fun hHeld2 => ?_)
    · (try dsimp only); exact ⟨bl_cell hb h_p0, bl_cell hb h_p1, bl_cell hb h_p2, bl_cell hb h_p3, bl_cell hb h_p4, bl_cell hb h_p5, bl_then h_B hb⟩
    clear hHeld hK K h_p0 h_p1 h_p2 h_p3 h_p4 h_p5 h_B hb
    have hHeld := hHeld2
    clear hHeld2
    try simp only [Act.put, List.setIfInBounds_toArray, List.set_cons_zero, List.set_cons_succ]
    refine callC2 (i := 4) (j := 8) rfl rfl (fun K hK => ?x2_4) (fun K hK => ?x2_8)
    case' x2_4 =>
      obtain ⟨h_p0, h_p1, h_p2, h_p3, h_p4, h_p5, h_B⟩ := (id hHeld)
      go_simp
      refine (H_HRUN.out _ (actsin_bl H_HA.out h_B)).mono ?_
      rintro e X4 ⟨a1, n1, c1, m1, vb, rfl, hLs, hFr, -, hb⟩
      unfold St.v
      (try dsimp only)
      go_wp2_with fail
      refine hK.out _ _ ?_ (fun hHeld2 => ?_)
      · (try dsimp only); exact ⟨bl_cell hb h_p0, bl_cell hb h_p1, bl_cell hb h_p2, bl_cell hb h_p3, bl_cell hb h_p4, bl_cell hb h_p5, bl_then h_B hb⟩
      clear hHeld hK K h_p0 h_p1 h_p2 h_p3 h_p4 h_p5 h_B hb
      have hHeld := hHeld2
      clear hHeld2
      try simp only [Act.put, List.setIfInBounds_toArray, List.set_cons_zero, List.set_cons_succ]
      (refine tk (i := 5) rfl rfl hHeld ?_)
      (refine tk (i := 6) rfl rfl hHeld ?_)
      (refine tk (i := 7) rfl rfl hHeld ?_)
      refine callC (i := 8) rfl (fun K hK => ?_)
      obtain ⟨h_p0, h_p1, h_p2, h_p3, h_p4, h_p5, h_B⟩ := (id hHeld)
      go_simp
      refine hK.out _ _ ?_ (fun hHeld2 => ?_)
      · (try dsimp only); exact ⟨bl_cell (bl_alloc (bl_refl _) _) h_p0, bl_cell (bl_alloc (bl_refl _) _) h_p1, bl_cell (bl_alloc (bl_refl _) _) h_p2, bl_cell (bl_alloc (bl_refl _) _) h_p3, bl_cell (bl_alloc (bl_refl _) _) h_p4, bl_cell (bl_alloc (bl_refl _) _) h_p5, bl_alloc h_B _⟩
      have rn0 := World.block_lt_of_cell? _ _ h_p0
      dsimp only at rn0
      have rB := h_B.size
      have hne := log_lt hLs
      replace hLs := log_bl hLs (bl_alloc (bl_refl _) (.cells #[.int .i64 0, .int .i64 0, .int .i64 0, .slice none 0 0] 32))
      clear hHeld hK K h_p0 h_p1 h_p2 h_p3 h_p4 h_p5 h_B
      have hHeld := hHeld2
      clear hHeld2
      try simp only [Act.put, List.setIfInBounds_toArray, List.set_cons_zero, List.set_cons_succ]
      refine wpAnyH_abs (F := fun X => ResB X X4.heap.size ∧ LogAt X a1 n1 c1 sL) hHeld ⟨res_new _ _ _ _ _ _ rfl, hLs⟩ ?_
      clear hHeld hLs
      generalize X4.heap.size = r at *
      replace hne := fun ad e hn => Nat.ne_of_lt (hne ad e hn)
      rintro X8 hHeld ⟨hRes, hLs⟩
      refine callC (i := 9) rfl (fun K hK => ?_)
      obtain ⟨h_p0, h_p1, h_p2, h_p3, h_p4, h_p5, h_B⟩ := (id hHeld)
      obtain ⟨f0, f1, f2, f3, u0, u1, u2, u3, i0, i1, i2, i3⟩ := res_all hRes
      go_simp
      refine hK.out _ _ ?_ (fun hHeld2 => ?_)
      · (try dsimp only); exact ⟨far4 h_p0 (by dsimp only; omega), far4 h_p1 (by dsimp only; omega), far4 h_p2 (by dsimp only; omega), far4 h_p3 (by dsimp only; omega), far4 h_p4 (by dsimp only; omega), far4 h_p5 (by dsimp only; omega), bl4 h_B (by omega)⟩
      obtain ⟨z0, z1, z2, z3⟩ := set4r (v0 := .int .i64 sa) (v1 := .int .i64 sl) (v2 := .int .i64 sh) (v3 := .slice a1 n1 c1) hRes
      replace hLs := log_set4 (b := r) (v0 := .int .i64 sa) (v1 := .int .i64 sl) (v2 := .int .i64 sh) (v3 := .slice a1 n1 c1) hLs hne
      replace hRes := res4 (b := r) (v0 := .int .i64 sa) (v1 := .int .i64 sl) (v2 := .int .i64 sh) (v3 := .slice a1 n1 c1) hRes
      clear hHeld hK K h_p0 h_p1 h_p2 h_p3 h_p4 h_p5 h_B f0 f1 f2 f3 i0 i1 i2 i3 u0 u1 u2 u3
      have hHeld := hHeld2
      clear hHeld2
      try simp only [Act.put, List.setIfInBounds_toArray, List.set_cons_zero, List.set_cons_succ]
      (refine tk (i := 10) rfl rfl hHeld ?_)
      refine wpAnyH_done (by kernel_rfl) ?_ _
      refine then_abs (F := fun X => (fun w' => w'.cell? ⟨w1.heap.size, 0, none⟩ = some (.int .i64 k) ∧ w'.cell? ⟨w1.heap.size, 1, none⟩ = some (.int .i64 l) ∧ w'.cell? ⟨w1.heap.size, 2, none⟩ = some (.int .i64 d) ∧ w'.cell? ⟨w1.heap.size, 3, none⟩ = some (.int .i64 b) ∧ w'.cell? ⟨w1.heap.size, 4, none⟩ = some (.int .i64 cc) ∧ w'.cell? ⟨w1.heap.size, 5, none⟩ = some (.bool o) ∧ Below w.heap.size w w') X ∧ X.cell? ⟨r, 0, none⟩ = some (.int .i64 sa) ∧ X.cell? ⟨r, 1, none⟩ = some (.int .i64 sl) ∧ X.cell? ⟨r, 2, none⟩ = some (.int .i64 sh) ∧ X.cell? ⟨r, 3, none⟩ = some (.slice a1 n1 c1) ∧ ResB X r ∧ LogAt X a1 n1 c1 sL) ⟨hHeld, z0, z1, z2, z3, hRes, hLs⟩ ?_
      clear hHeld z0 z1 z2 z3 hRes hLs
    case' x2_8 =>
      obtain ⟨h_p0, h_p1, h_p2, h_p3, h_p4, h_p5, h_B⟩ := (id hHeld)
      go_simp
      refine hK.out _ _ ?_ (fun hHeld2 => ?_)
      · (try dsimp only); exact ⟨bl_cell (bl_alloc (bl_refl _) _) h_p0, bl_cell (bl_alloc (bl_refl _) _) h_p1, bl_cell (bl_alloc (bl_refl _) _) h_p2, bl_cell (bl_alloc (bl_refl _) _) h_p3, bl_cell (bl_alloc (bl_refl _) _) h_p4, bl_cell (bl_alloc (bl_refl _) _) h_p5, bl_alloc h_B _⟩
      have rn0 := World.block_lt_of_cell? _ _ h_p0
      dsimp only at rn0
      have rB := h_B.size
      clear hHeld hK K h_p0 h_p1 h_p2 h_p3 h_p4 h_p5 h_B
      have hHeld := hHeld2
      clear hHeld2
      try simp only [Act.put, List.setIfInBounds_toArray, List.set_cons_zero, List.set_cons_succ]
      refine wpAnyH_abs (F := fun X => ResB X X3.heap.size) hHeld (res_new _ _ _ _ _ _ rfl) ?_
      clear hHeld
      generalize X3.heap.size = r at *
      rintro X4 hHeld hRes
      refine callC (i := 4) rfl (fun K hK => ?_)
      obtain ⟨h_p0, h_p1, h_p2, h_p3, h_p4, h_p5, h_B⟩ := (id hHeld)
      go_simp
      refine (H_HRUN.out _ (actsin_bl H_HA.out h_B)).mono ?_
      rintro e X5 ⟨a1, n1, c1, m1, vb, rfl, hLs, hFr, -, hb⟩
      unfold St.v
      (try dsimp only)
      go_wp2_with fail
      refine hK.out _ _ ?_ (fun hHeld2 => ?_)
      · (try dsimp only); exact ⟨bl_cell hb h_p0, bl_cell hb h_p1, bl_cell hb h_p2, bl_cell hb h_p3, bl_cell hb h_p4, bl_cell hb h_p5, bl_then h_B hb⟩
      have hrl := res_lt hRes
      have hne : ∀ ad, a1 = some ad → n1 ≠ 0 → ad.block ≠ r := fun ad e hn => by have := hb.size; rcases hFr with h | h; exact absurd h hn; have := h ad e; omega
      clear hrl
      replace hRes := res_bl hRes hb
      clear hHeld hK K h_p0 h_p1 h_p2 h_p3 h_p4 h_p5 h_B hb
      have hHeld := hHeld2
      clear hHeld2
      try simp only [Act.put, List.setIfInBounds_toArray, List.set_cons_zero, List.set_cons_succ]
      (refine tk (i := 5) rfl rfl hHeld ?_)
      (refine tk (i := 6) rfl rfl hHeld ?_)
      (refine tk (i := 7) rfl rfl hHeld ?_)
      refine callC (i := 9) rfl (fun K hK => ?_)
      obtain ⟨h_p0, h_p1, h_p2, h_p3, h_p4, h_p5, h_B⟩ := (id hHeld)
      obtain ⟨f0, f1, f2, f3, u0, u1, u2, u3, i0, i1, i2, i3⟩ := res_all hRes
      go_simp
      refine hK.out _ _ ?_ (fun hHeld2 => ?_)
      · (try dsimp only); exact ⟨far4 h_p0 (by dsimp only; omega), far4 h_p1 (by dsimp only; omega), far4 h_p2 (by dsimp only; omega), far4 h_p3 (by dsimp only; omega), far4 h_p4 (by dsimp only; omega), far4 h_p5 (by dsimp only; omega), bl4 h_B (by omega)⟩
      obtain ⟨z0, z1, z2, z3⟩ := set4r (v0 := .int .i64 sa) (v1 := .int .i64 sl) (v2 := .int .i64 sh) (v3 := .slice a1 n1 c1) hRes
      replace hLs := log_set4 (b := r) (v0 := .int .i64 sa) (v1 := .int .i64 sl) (v2 := .int .i64 sh) (v3 := .slice a1 n1 c1) hLs hne
      replace hRes := res4 (b := r) (v0 := .int .i64 sa) (v1 := .int .i64 sl) (v2 := .int .i64 sh) (v3 := .slice a1 n1 c1) hRes
      clear hHeld hK K h_p0 h_p1 h_p2 h_p3 h_p4 h_p5 h_B f0 f1 f2 f3 i0 i1 i2 i3 u0 u1 u2 u3
      have hHeld := hHeld2
      clear hHeld2
      try simp only [Act.put, List.setIfInBounds_toArray, List.set_cons_zero, List.set_cons_succ]
      (refine tk (i := 10) rfl rfl hHeld ?_)
      refine wpAnyH_done (by kernel_rfl) ?_ _
      refine then_abs (F := fun X => (fun w' => w'.cell? ⟨w1.heap.size, 0, none⟩ = some (.int .i64 k) ∧ w'.cell? ⟨w1.heap.size, 1, none⟩ = some (.int .i64 l) ∧ w'.cell? ⟨w1.heap.size, 2, none⟩ = some (.int .i64 d) ∧ w'.cell? ⟨w1.heap.size, 3, none⟩ = some (.int .i64 b) ∧ w'.cell? ⟨w1.heap.size, 4, none⟩ = some (.int .i64 cc) ∧ w'.cell? ⟨w1.heap.size, 5, none⟩ = some (.bool o) ∧ Below w.heap.size w w') X ∧ X.cell? ⟨r, 0, none⟩ = some (.int .i64 sa) ∧ X.cell? ⟨r, 1, none⟩ = some (.int .i64 sl) ∧ X.cell? ⟨r, 2, none⟩ = some (.int .i64 sh) ∧ X.cell? ⟨r, 3, none⟩ = some (.slice a1 n1 c1) ∧ ResB X r ∧ LogAt X a1 n1 c1 sL) ⟨hHeld, z0, z1, z2, z3, hRes, hLs⟩ ?_
      clear hHeld z0 z1 z2 z3 hRes hLs
  case' x1_8 =>
    obtain ⟨h_p0, h_p1, h_p2, h_p3, h_p4, h_p5, h_B⟩ := (id hHeld)
    go_simp
    refine hK.out _ _ ?_ (fun hHeld2 => ?_)
    · (try dsimp only); exact ⟨bl_cell (bl_alloc (bl_refl _) _) h_p0, bl_cell (bl_alloc (bl_refl _) _) h_p1, bl_cell (bl_alloc (bl_refl _) _) h_p2, bl_cell (bl_alloc (bl_refl _) _) h_p3, bl_cell (bl_alloc (bl_refl _) _) h_p4, bl_cell (bl_alloc (bl_refl _) _) h_p5, bl_alloc h_B _⟩
    have rn0 := World.block_lt_of_cell? _ _ h_p0
    dsimp only at rn0
    have rB := h_B.size
    clear hHeld hK K h_p0 h_p1 h_p2 h_p3 h_p4 h_p5 h_B
    have hHeld := hHeld2
    clear hHeld2
    try simp only [Act.put, List.setIfInBounds_toArray, List.set_cons_zero, List.set_cons_succ]
    refine wpAnyH_abs (F := fun X => ResB X X0.heap.size) hHeld (res_new _ _ _ _ _ _ rfl) ?_
    clear hHeld
    generalize X0.heap.size = r at *
    rintro X3 hHeld hRes
    refine callC (i := 2) rfl (fun K hK => ?_)
    obtain ⟨h_p0, h_p1, h_p2, h_p3, h_p4, h_p5, h_B⟩ := (id hHeld)
    go_simp
    refine (H_HNW.out _).mono ?_
    rintro e X4 ⟨rfl, hb⟩
    go_wp2_with fail
    refine hK.out _ _ ?_ (fun hHeld2 => ?_)
    · (try dsimp only); exact ⟨bl_cell hb h_p0, bl_cell hb h_p1, bl_cell hb h_p2, bl_cell hb h_p3, bl_cell hb h_p4, bl_cell hb h_p5, bl_then h_B hb⟩
    replace hRes := res_bl hRes hb
    clear hHeld hK K h_p0 h_p1 h_p2 h_p3 h_p4 h_p5 h_B hb
    have hHeld := hHeld2
    clear hHeld2
    try simp only [Act.put, List.setIfInBounds_toArray, List.set_cons_zero, List.set_cons_succ]
    refine callC (i := 4) rfl (fun K hK => ?_)
    obtain ⟨h_p0, h_p1, h_p2, h_p3, h_p4, h_p5, h_B⟩ := (id hHeld)
    go_simp
    refine (H_HRUN.out _ (actsin_bl H_HA.out h_B)).mono ?_
    rintro e X5 ⟨a1, n1, c1, m1, vb, rfl, hLs, hFr, -, hb⟩
    unfold St.v
    (try dsimp only)
    go_wp2_with fail
    refine hK.out _ _ ?_ (fun hHeld2 => ?_)
    · (try dsimp only); exact ⟨bl_cell hb h_p0, bl_cell hb h_p1, bl_cell hb h_p2, bl_cell hb h_p3, bl_cell hb h_p4, bl_cell hb h_p5, bl_then h_B hb⟩
    have hrl := res_lt hRes
    have hne : ∀ ad, a1 = some ad → n1 ≠ 0 → ad.block ≠ r := fun ad e hn => by have := hb.size; rcases hFr with h | h; exact absurd h hn; have := h ad e; omega
    clear hrl
    replace hRes := res_bl hRes hb
    clear hHeld hK K h_p0 h_p1 h_p2 h_p3 h_p4 h_p5 h_B hb
    have hHeld := hHeld2
    clear hHeld2
    try simp only [Act.put, List.setIfInBounds_toArray, List.set_cons_zero, List.set_cons_succ]
    (refine tk (i := 5) rfl rfl hHeld ?_)
    (refine tk (i := 6) rfl rfl hHeld ?_)
    (refine tk (i := 7) rfl rfl hHeld ?_)
    refine callC (i := 9) rfl (fun K hK => ?_)
    obtain ⟨h_p0, h_p1, h_p2, h_p3, h_p4, h_p5, h_B⟩ := (id hHeld)
    obtain ⟨f0, f1, f2, f3, u0, u1, u2, u3, i0, i1, i2, i3⟩ := res_all hRes
    go_simp
    refine hK.out _ _ ?_ (fun hHeld2 => ?_)
    · (try dsimp only); exact ⟨far4 h_p0 (by dsimp only; omega), far4 h_p1 (by dsimp only; omega), far4 h_p2 (by dsimp only; omega), far4 h_p3 (by dsimp only; omega), far4 h_p4 (by dsimp only; omega), far4 h_p5 (by dsimp only; omega), bl4 h_B (by omega)⟩
    obtain ⟨z0, z1, z2, z3⟩ := set4r (v0 := .int .i64 sa) (v1 := .int .i64 sl) (v2 := .int .i64 sh) (v3 := .slice a1 n1 c1) hRes
    replace hLs := log_set4 (b := r) (v0 := .int .i64 sa) (v1 := .int .i64 sl) (v2 := .int .i64 sh) (v3 := .slice a1 n1 c1) hLs hne
    replace hRes := res4 (b := r) (v0 := .int .i64 sa) (v1 := .int .i64 sl) (v2 := .int .i64 sh) (v3 := .slice a1 n1 c1) hRes
    clear hHeld hK K h_p0 h_p1 h_p2 h_p3 h_p4 h_p5 h_B f0 f1 f2 f3 i0 i1 i2 i3 u0 u1 u2 u3
    have hHeld := hHeld2
    clear hHeld2
    try simp only [Act.put, List.setIfInBounds_toArray, List.set_cons_zero, List.set_cons_succ]
    (refine tk (i := 10) rfl rfl hHeld ?_)
    refine wpAnyH_done (by kernel_rfl) ?_ _
    refine then_abs (F := fun X => (fun w' => w'.cell? ⟨w1.heap.size, 0, none⟩ = some (.int .i64 k) ∧ w'.cell? ⟨w1.heap.size, 1, none⟩ = some (.int .i64 l) ∧ w'.cell? ⟨w1.heap.size, 2, none⟩ = some (.int .i64 d) ∧ w'.cell? ⟨w1.heap.size, 3, none⟩ = some (.int .i64 b) ∧ w'.cell? ⟨w1.heap.size, 4, none⟩ = some (.int .i64 cc) ∧ w'.cell? ⟨w1.heap.size, 5, none⟩ = some (.bool o) ∧ Below w.heap.size w w') X ∧ X.cell? ⟨r, 0, none⟩ = some (.int .i64 sa) ∧ X.cell? ⟨r, 1, none⟩ = some (.int .i64 sl) ∧ X.cell? ⟨r, 2, none⟩ = some (.int .i64 sh) ∧ X.cell? ⟨r, 3, none⟩ = some (.slice a1 n1 c1) ∧ ResB X r ∧ LogAt X a1 n1 c1 sL) ⟨hHeld, z0, z1, z2, z3, hRes, hLs⟩ ?_
    clear hHeld z0 z1 z2 z3 hRes hLs
  all_goals rintro w3 ⟨⟨p0, p1, p2, p3, p4, p5, hB⟩, s0, s1, s2, s3, sR, hLs⟩
  all_goals
    replace lb_p := World.block_lt_of_cell? w3 _ p0
    dsimp only at lb_p
    have lb_s := World.block_lt_of_cell? w3 _ s0
    dsimp only at lb_s
    go_wp2_with go_step3
    refine (H_HUN.out _ _ _ _ hLs).mono ?_
    rintro e w4 ⟨rfl, hb⟩
    have hsz3 : w3.heap.size + 0 ≤ w4.heap.size := by have h := hb.size; (try simp at h); omega
    replace p0 := bl_cell hb p0
    replace p1 := bl_cell hb p1
    replace p2 := bl_cell hb p2
    replace p3 := bl_cell hb p3
    replace p4 := bl_cell hb p4
    replace p5 := bl_cell hb p5
    replace s0 := bl_cell hb s0
    replace s1 := bl_cell hb s1
    replace s2 := bl_cell hb s2
    replace s3 := bl_cell hb s3
    replace sR := res_bl sR hb
    replace hLs := log_bl hLs hb
    replace hB : Below w.heap.size w w4 := bl_then hB hb
    replace lb_p := World.block_lt_of_cell? w4 _ p0
    dsimp only at lb_p
    replace lb_s := World.block_lt_of_cell? w4 _ s0
    dsimp only at lb_s
    clear hb
    go_wp2_with go_step3
    refine (H_HKN.out _).mono ?_
    rintro e w5 ⟨rfl, hb⟩
    have hsz4 : w4.heap.size + 0 ≤ w5.heap.size := by have h := hb.size; (try simp at h); omega
    replace p0 := bl_cell hb p0
    replace p1 := bl_cell hb p1
    replace p2 := bl_cell hb p2
    replace p3 := bl_cell hb p3
    replace p4 := bl_cell hb p4
    replace p5 := bl_cell hb p5
    replace s0 := bl_cell hb s0
    replace s1 := bl_cell hb s1
    replace s2 := bl_cell hb s2
    replace s3 := bl_cell hb s3
    replace sR := res_bl sR hb
    replace hLs := log_bl hLs hb
    replace hB : Below w.heap.size w w5 := bl_then hB hb
    replace lb_p := World.block_lt_of_cell? w5 _ p0
    dsimp only at lb_p
    replace lb_s := World.block_lt_of_cell? w5 _ s0
    dsimp only at lb_s
    clear hb
    go_wp2_with go_step3
    go_ret
    exact ⟨rfl, hB⟩

set_option maxHeartbeats 2000000 in
set_option maxRecDepth 100000 in
theorem fresh_yes (kd lm pd bs : Int) (la : Option Addr) (m lc : Nat) (acts : List Ac) (la2 : Option Addr) (m2 lc2 : Nat) (acts2 : List Ac) (w : World) (hkd : 0 ≤ kd ∧ kd ≤ 255) (hlm : 0 ≤ lm ∧ lm ≤ 65535) (hpd : 0 ≤ pd ∧ pd ≤ 65535) (hbs : 0 ≤ bs ∧ bs ≤ 65535) (hm : (m : Int) ≤ 60) (hm2 : (m2 : Int) ≤ 60) (hA : ActsIn w la m lc acts) (hA2 : ActsIn w la2 m2 lc2 acts2) (s : St) (hs : (runP (ofP kd lm pd bs) (newP (ofP kd lm pd bs) 0) acts).1 = s) (hu : ¬ untilP (ofP kd lm pd bs) s 0 < 0) (ht : ¬ 4503599627370496 < s.at_ + untilP (ofP kd lm pd bs) s 0) :
    Calls Try.prog 6 #[.int .u8 kd, .int .u16 lm, .int .u16 pd, .int .u16 bs, .slice la m lc, .slice la2 m2 lc2] w fun e w' => e = .returned (.bool true) ∧ Below w.heap.size w w' := by
  have hsm := small_any la m lc
  rw [decide_eq_true hm] at hsm
  have hsm2 := small_any la2 m2 lc2
  rw [decide_eq_true hm2] at hsm2
  have hof := fun w => ofP_any kd lm pd bs w hkd hlm hpd hbs
  obtain ⟨hC, hp1, hp2⟩ := ofP_ok kd lm pd bs hlm hpd hbs
  generalize ofP kd lm pd bs = P at *
  have KL := kern_P hC
  have hcp := capP_range hC
  have hnw := lnew_any P 0
  have hrun := fun w hw => run_any P (newP P 0) acts none 0 0 la m lc w (by rw [newP_log]; exact log_nil _ _ _ (by omega)) (by omega) hw (by omega)
  have hR : rightP P s = true := by rw [← hs]; exact right_run hC acts _ (KL.right_new 0)
  generalize runP P (newP P 0) acts = RR at *
  obtain ⟨s', rbs⟩ := RR
  dsimp only at hs
  subst hs
  rename St => s
  have hat := KL.at_range s hR
  have hng := KL.until_neg s 0 hR
  have hul := KL.until_le s hR
  have hxl := newP_log P 0
  have hup : capP P * P.period ≤ 4294967296 := Int.le_trans (Pu.mulr hp2 (by omega)) (by omega)
  have hun := fun a n c w hw => luntil_any P s a n c 0 w hw
  have hth := (KL.until_then s hR hu (by omega)).1
  obtain ⟨had, hrc⟩ := KL.fresh s (s.at_ + untilP P s 0) hR hth (by omega) (by omega) (by omega)
  have hfr := fun a n c w hw => lfresh_any P s a n c (s.at_ + untilP P s 0) w hw
  rw [hth] at hfr
  have hrm := fun a n c w hw => lroom_any P s a n c (s.at_ + untilP P s 0) w hw
  rw [hrc] at hrm
  have hmost := lmost_any P
  rw [mostP_cap hC] at hmost
  have hnt := lnew_any P (s.at_ + untilP P s 0)
  have hav := fun a n c w hw => ladv_any P s a n c (s.at_ + untilP P s 0) w hw
  rw [had] at hav
  have hlt := newP_log P (s.at_ + untilP P s 0)
  generalize hY : newP P (s.at_ + untilP P s 0) = Y at *
  have hrun2 := fun a n c w hl hn hw => run_any P Y acts2 a n c la2 m2 lc2 w hl hn hw (by omega)
  have hlen2 := fun (h : acts2.length = m2) => (runP_len P acts2 Y).trans h
  generalize runP P Y acts2 = R2 at *
  obtain ⟨⟨ya, yl, yh, yL⟩, bs2⟩ := R2
  obtain ⟨ta, tl, th, tL⟩ := Y
  dsimp only at hlt
  subst hlt
  have hsame := same_yes ⟨ya, yl, yh, yL⟩
  generalize capP P = N at *
  clear hY hth had hrc
  generalize newP P 0 = X0 at *
  generalize hU : untilP P s 0 = U at *
  obtain ⟨sa, sl, sh, sL⟩ := s
  obtain ⟨xa, xl, xh, xL⟩ := X0
  dsimp only at *
  subst hxl
  have ww1 : IntKind.i64.wrap (sa + U) = sa + U := IntWalk.i64_in _ (by omega)
  clear KL hC hp1 hp2 hup hul hR hU hcp hng hat
  obtain ⟨k, l, d, b, cc, o⟩ := P
  have hkn := known_yes
  unfold Ac.v St.v Pol.v at *
  (try dsimp only at *)
  have H_HSM := Go.Lib.hid hsm
  have H_HSM2 := Go.Lib.hid hsm2
  have H_HOF := Go.Lib.hid hof
  have H_HNW := Go.Lib.hid hnw
  have H_HRUN := Go.Lib.hid hrun
  have H_HUN := Go.Lib.hid hun
  have H_HKN := Go.Lib.hid hkn
  have H_HA := Go.Lib.hid hA
  have H_HA2 := Go.Lib.hid hA2
  have H_HFR := Go.Lib.hid hfr
  have H_HRM := Go.Lib.hid hrm
  have H_HMOST := Go.Lib.hid hmost
  have H_HNT := Go.Lib.hid hnt
  have H_HAV := Go.Lib.hid hav
  have H_HRUN2 := Go.Lib.hid hrun2
  have H_HSAME := Go.Lib.hid hsame
  clear hsm hsm2 hof hnw hrun hun hkn hA hA2 hfr hrm hmost hnt hav hrun2 hsame
  go_enter Try.func6, Try.ntmps6
  go_wp2_with go_step3
  refine (H_HSM.out _).mono ?_
  rintro e w1 ⟨rfl, rfl⟩
  go_wp2_with go_step3
  refine (H_HSM2.out _).mono ?_
  rintro e w1 ⟨rfl, rfl⟩
  go_wp2_with go_step3
  refine (H_HOF.out _).mono ?_
  rintro e w1 ⟨rfl, hb⟩
  have hsz1 : w.heap.size + 0 ≤ w1.heap.size := by have h := hb.size; (try simp at h); omega
  have hB : Below w.heap.size w w1 := hb
  clear hb
  go_wp2_with go_step3
  skip
  refine wp_abs (S0 := fun X => (fun w' => w'.cell? ⟨w1.heap.size, 0, none⟩ = some (.int .i64 k) ∧ w'.cell? ⟨w1.heap.size, 1, none⟩ = some (.int .i64 l) ∧ w'.cell? ⟨w1.heap.size, 2, none⟩ = some (.int .i64 d) ∧ w'.cell? ⟨w1.heap.size, 3, none⟩ = some (.int .i64 b) ∧ w'.cell? ⟨w1.heap.size, 4, none⟩ = some (.int .i64 cc) ∧ w'.cell? ⟨w1.heap.size, 5, none⟩ = some (.bool o) ∧ Below w.heap.size w w') X ∧ w1.heap.size + 1 ≤ X.heap.size) ⟨⟨by go_simp, by go_simp, by go_simp, by go_simp, by go_simp, by go_simp, bl_alloc (hB) _⟩, by simp⟩ ?_
  clear hB
  rintro w2 ⟨⟨p0, p1, p2, p3, p4, p5, hB⟩, hsz2⟩
  have lb_p := World.block_lt_of_cell? w2 _ p0
  dsimp only at lb_p
  refine wp_region_held_drew (S := fun w' => w'.cell? ⟨w1.heap.size, 0, none⟩ = some (.int .i64 k) ∧ w'.cell? ⟨w1.heap.size, 1, none⟩ = some (.int .i64 l) ∧ w'.cell? ⟨w1.heap.size, 2, none⟩ = some (.int .i64 d) ∧ w'.cell? ⟨w1.heap.size, 3, none⟩ = some (.int .i64 b) ∧ w'.cell? ⟨w1.heap.size, 4, none⟩ = some (.int .i64 cc) ∧ w'.cell? ⟨w1.heap.size, 5, none⟩ = some (.bool o) ∧ Below w.heap.size w w') (by kernel_rfl) ?_ (fun hHeld => ?_)
  · exact ⟨p0, p1, p2, p3, p4, p5, bl_drew hB⟩
  try simp only [Act.put, List.setIfInBounds_toArray, List.set_cons_zero, List.set_cons_succ]
  clear hB p0 p1 p2 p3 p4 p5
  refine wpAnyH_abs (F := fun _ => True) hHeld trivial ?_
  clear hHeld
  rintro X0 hHeld -
  (refine tk (i := 0) rfl rfl hHeld ?_)
  (refine tk (i := 1) rfl rfl hHeld ?_)
  (refine tk (i := 3) rfl rfl hHeld ?_)
  refine callC2 (i := 2) (j := 8) rfl rfl (fun K hK => ?x1_2) (fun K hK => ?x1_8)
  case' x1_2 =>
    obtain ⟨h_p0, h_p1, h_p2, h_p3, h_p4, h_p5, h_B⟩ := (id hHeld)
    go_simp
    refine (H_HNW.out _).mono ?_
    rintro e X3 ⟨rfl, hb⟩
    go_wp2_with fail
    refine hK.out _ _ ?_ (fun hHeld2 => ?_)
    · (try dsimp only); exact ⟨bl_cell hb h_p0, bl_cell hb h_p1, bl_cell hb h_p2, bl_cell hb h_p3, bl_cell hb h_p4, bl_cell hb h_p5, bl_then h_B hb⟩
    clear hHeld hK K h_p0 h_p1 h_p2 h_p3 h_p4 h_p5 h_B hb
    have hHeld := hHeld2
    clear hHeld2
    try simp only [Act.put, List.setIfInBounds_toArray, List.set_cons_zero, List.set_cons_succ]
    refine callC2 (i := 4) (j := 8) rfl rfl (fun K hK => ?x2_4) (fun K hK => ?x2_8)
    case' x2_4 =>
      obtain ⟨h_p0, h_p1, h_p2, h_p3, h_p4, h_p5, h_B⟩ := (id hHeld)
      go_simp
      refine (H_HRUN.out _ (actsin_bl H_HA.out h_B)).mono ?_
      rintro e X4 ⟨a1, n1, c1, m1, vb, rfl, hLs, hFr, -, hb⟩
      unfold St.v
      (try dsimp only)
      go_wp2_with fail
      refine hK.out _ _ ?_ (fun hHeld2 => ?_)
      · (try dsimp only); exact ⟨bl_cell hb h_p0, bl_cell hb h_p1, bl_cell hb h_p2, bl_cell hb h_p3, bl_cell hb h_p4, bl_cell hb h_p5, bl_then h_B hb⟩
      clear hHeld hK K h_p0 h_p1 h_p2 h_p3 h_p4 h_p5 h_B hb
      have hHeld := hHeld2
      clear hHeld2
      try simp only [Act.put, List.setIfInBounds_toArray, List.set_cons_zero, List.set_cons_succ]
      (refine tk (i := 5) rfl rfl hHeld ?_)
      (refine tk (i := 6) rfl rfl hHeld ?_)
      (refine tk (i := 7) rfl rfl hHeld ?_)
      refine callC (i := 8) rfl (fun K hK => ?_)
      obtain ⟨h_p0, h_p1, h_p2, h_p3, h_p4, h_p5, h_B⟩ := (id hHeld)
      go_simp
      refine hK.out _ _ ?_ (fun hHeld2 => ?_)
      · (try dsimp only); exact ⟨bl_cell (bl_alloc (bl_refl _) _) h_p0, bl_cell (bl_alloc (bl_refl _) _) h_p1, bl_cell (bl_alloc (bl_refl _) _) h_p2, bl_cell (bl_alloc (bl_refl _) _) h_p3, bl_cell (bl_alloc (bl_refl _) _) h_p4, bl_cell (bl_alloc (bl_refl _) _) h_p5, bl_alloc h_B _⟩
      have rn0 := World.block_lt_of_cell? _ _ h_p0
      dsimp only at rn0
      have rB := h_B.size
      have hne := log_lt hLs
      replace hLs := log_bl hLs (bl_alloc (bl_refl _) (.cells #[.int .i64 0, .int .i64 0, .int .i64 0, .slice none 0 0] 32))
      clear hHeld hK K h_p0 h_p1 h_p2 h_p3 h_p4 h_p5 h_B
      have hHeld := hHeld2
      clear hHeld2
      try simp only [Act.put, List.setIfInBounds_toArray, List.set_cons_zero, List.set_cons_succ]
      refine wpAnyH_abs (F := fun X => ResB X X4.heap.size ∧ LogAt X a1 n1 c1 sL) hHeld ⟨res_new _ _ _ _ _ _ rfl, hLs⟩ ?_
      clear hHeld hLs
      generalize X4.heap.size = r at *
      replace hne := fun ad e hn => Nat.ne_of_lt (hne ad e hn)
      rintro X8 hHeld ⟨hRes, hLs⟩
      refine callC (i := 9) rfl (fun K hK => ?_)
      obtain ⟨h_p0, h_p1, h_p2, h_p3, h_p4, h_p5, h_B⟩ := (id hHeld)
      obtain ⟨f0, f1, f2, f3, u0, u1, u2, u3, i0, i1, i2, i3⟩ := res_all hRes
      go_simp
      refine hK.out _ _ ?_ (fun hHeld2 => ?_)
      · (try dsimp only); exact ⟨far4 h_p0 (by dsimp only; omega), far4 h_p1 (by dsimp only; omega), far4 h_p2 (by dsimp only; omega), far4 h_p3 (by dsimp only; omega), far4 h_p4 (by dsimp only; omega), far4 h_p5 (by dsimp only; omega), bl4 h_B (by omega)⟩
      obtain ⟨z0, z1, z2, z3⟩ := set4r (v0 := .int .i64 sa) (v1 := .int .i64 sl) (v2 := .int .i64 sh) (v3 := .slice a1 n1 c1) hRes
      replace hLs := log_set4 (b := r) (v0 := .int .i64 sa) (v1 := .int .i64 sl) (v2 := .int .i64 sh) (v3 := .slice a1 n1 c1) hLs hne
      replace hRes := res4 (b := r) (v0 := .int .i64 sa) (v1 := .int .i64 sl) (v2 := .int .i64 sh) (v3 := .slice a1 n1 c1) hRes
      clear hHeld hK K h_p0 h_p1 h_p2 h_p3 h_p4 h_p5 h_B f0 f1 f2 f3 i0 i1 i2 i3 u0 u1 u2 u3
      have hHeld := hHeld2
      clear hHeld2
      try simp only [Act.put, List.setIfInBounds_toArray, List.set_cons_zero, List.set_cons_succ]
      (refine tk (i := 10) rfl rfl hHeld ?_)
      refine wpAnyH_done (by kernel_rfl) ?_ _
      refine then_abs (F := fun X => (fun w' => w'.cell? ⟨w1.heap.size, 0, none⟩ = some (.int .i64 k) ∧ w'.cell? ⟨w1.heap.size, 1, none⟩ = some (.int .i64 l) ∧ w'.cell? ⟨w1.heap.size, 2, none⟩ = some (.int .i64 d) ∧ w'.cell? ⟨w1.heap.size, 3, none⟩ = some (.int .i64 b) ∧ w'.cell? ⟨w1.heap.size, 4, none⟩ = some (.int .i64 cc) ∧ w'.cell? ⟨w1.heap.size, 5, none⟩ = some (.bool o) ∧ Below w.heap.size w w') X ∧ X.cell? ⟨r, 0, none⟩ = some (.int .i64 sa) ∧ X.cell? ⟨r, 1, none⟩ = some (.int .i64 sl) ∧ X.cell? ⟨r, 2, none⟩ = some (.int .i64 sh) ∧ X.cell? ⟨r, 3, none⟩ = some (.slice a1 n1 c1) ∧ ResB X r ∧ LogAt X a1 n1 c1 sL) ⟨hHeld, z0, z1, z2, z3, hRes, hLs⟩ ?_
      clear hHeld z0 z1 z2 z3 hRes hLs
    case' x2_8 =>
      obtain ⟨h_p0, h_p1, h_p2, h_p3, h_p4, h_p5, h_B⟩ := (id hHeld)
      go_simp
      refine hK.out _ _ ?_ (fun hHeld2 => ?_)
      · (try dsimp only); exact ⟨bl_cell (bl_alloc (bl_refl _) _) h_p0, bl_cell (bl_alloc (bl_refl _) _) h_p1, bl_cell (bl_alloc (bl_refl _) _) h_p2, bl_cell (bl_alloc (bl_refl _) _) h_p3, bl_cell (bl_alloc (bl_refl _) _) h_p4, bl_cell (bl_alloc (bl_refl _) _) h_p5, bl_alloc h_B _⟩
      have rn0 := World.block_lt_of_cell? _ _ h_p0
      dsimp only at rn0
      have rB := h_B.size
      clear hHeld hK K h_p0 h_p1 h_p2 h_p3 h_p4 h_p5 h_B
      have hHeld := hHeld2
      clear hHeld2
      try simp only [Act.put, List.setIfInBounds_toArray, List.set_cons_zero, List.set_cons_succ]
      refine wpAnyH_abs (F := fun X => ResB X X3.heap.size) hHeld (res_new _ _ _ _ _ _ rfl) ?_
      clear hHeld
      generalize X3.heap.size = r at *
      rintro X4 hHeld hRes
      refine callC (i := 4) rfl (fun K hK => ?_)
      obtain ⟨h_p0, h_p1, h_p2, h_p3, h_p4, h_p5, h_B⟩ := (id hHeld)
      go_simp
      refine (H_HRUN.out _ (actsin_bl H_HA.out h_B)).mono ?_
      rintro e X5 ⟨a1, n1, c1, m1, vb, rfl, hLs, hFr, -, hb⟩
      unfold St.v
      (try dsimp only)
      go_wp2_with fail
      refine hK.out _ _ ?_ (fun hHeld2 => ?_)
      · (try dsimp only); exact ⟨bl_cell hb h_p0, bl_cell hb h_p1, bl_cell hb h_p2, bl_cell hb h_p3, bl_cell hb h_p4, bl_cell hb h_p5, bl_then h_B hb⟩
      have hrl := res_lt hRes
      have hne : ∀ ad, a1 = some ad → n1 ≠ 0 → ad.block ≠ r := fun ad e hn => by have := hb.size; rcases hFr with h | h; exact absurd h hn; have := h ad e; omega
      clear hrl
      replace hRes := res_bl hRes hb
      clear hHeld hK K h_p0 h_p1 h_p2 h_p3 h_p4 h_p5 h_B hb
      have hHeld := hHeld2
      clear hHeld2
      try simp only [Act.put, List.setIfInBounds_toArray, List.set_cons_zero, List.set_cons_succ]
      (refine tk (i := 5) rfl rfl hHeld ?_)
      (refine tk (i := 6) rfl rfl hHeld ?_)
      (refine tk (i := 7) rfl rfl hHeld ?_)
      refine callC (i := 9) rfl (fun K hK => ?_)
      obtain ⟨h_p0, h_p1, h_p2, h_p3, h_p4, h_p5, h_B⟩ := (id hHeld)
      obtain ⟨f0, f1, f2, f3, u0, u1, u2, u3, i0, i1, i2, i3⟩ := res_all hRes
      go_simp
      refine hK.out _ _ ?_ (fun hHeld2 => ?_)
      · (try dsimp only); exact ⟨far4 h_p0 (by dsimp only; omega), far4 h_p1 (by dsimp only; omega), far4 h_p2 (by dsimp only; omega), far4 h_p3 (by dsimp only; omega), far4 h_p4 (by dsimp only; omega), far4 h_p5 (by dsimp only; omega), bl4 h_B (by omega)⟩
      obtain ⟨z0, z1, z2, z3⟩ := set4r (v0 := .int .i64 sa) (v1 := .int .i64 sl) (v2 := .int .i64 sh) (v3 := .slice a1 n1 c1) hRes
      replace hLs := log_set4 (b := r) (v0 := .int .i64 sa) (v1 := .int .i64 sl) (v2 := .int .i64 sh) (v3 := .slice a1 n1 c1) hLs hne
      replace hRes := res4 (b := r) (v0 := .int .i64 sa) (v1 := .int .i64 sl) (v2 := .int .i64 sh) (v3 := .slice a1 n1 c1) hRes
      clear hHeld hK K h_p0 h_p1 h_p2 h_p3 h_p4 h_p5 h_B f0 f1 f2 f3 i0 i1 i2 i3 u0 u1 u2 u3
      have hHeld := hHeld2
      clear hHeld2
      try simp only [Act.put, List.setIfInBounds_toArray, List.set_cons_zero, List.set_cons_succ]
      (refine tk (i := 10) rfl rfl hHeld ?_)
      refine wpAnyH_done (by kernel_rfl) ?_ _
      refine then_abs (F := fun X => (fun w' => w'.cell? ⟨w1.heap.size, 0, none⟩ = some (.int .i64 k) ∧ w'.cell? ⟨w1.heap.size, 1, none⟩ = some (.int .i64 l) ∧ w'.cell? ⟨w1.heap.size, 2, none⟩ = some (.int .i64 d) ∧ w'.cell? ⟨w1.heap.size, 3, none⟩ = some (.int .i64 b) ∧ w'.cell? ⟨w1.heap.size, 4, none⟩ = some (.int .i64 cc) ∧ w'.cell? ⟨w1.heap.size, 5, none⟩ = some (.bool o) ∧ Below w.heap.size w w') X ∧ X.cell? ⟨r, 0, none⟩ = some (.int .i64 sa) ∧ X.cell? ⟨r, 1, none⟩ = some (.int .i64 sl) ∧ X.cell? ⟨r, 2, none⟩ = some (.int .i64 sh) ∧ X.cell? ⟨r, 3, none⟩ = some (.slice a1 n1 c1) ∧ ResB X r ∧ LogAt X a1 n1 c1 sL) ⟨hHeld, z0, z1, z2, z3, hRes, hLs⟩ ?_
      clear hHeld z0 z1 z2 z3 hRes hLs
  case' x1_8 =>
    obtain ⟨h_p0, h_p1, h_p2, h_p3, h_p4, h_p5, h_B⟩ := (id hHeld)
    go_simp
    refine hK.out _ _ ?_ (fun hHeld2 => ?_)
    · (try dsimp only); exact ⟨bl_cell (bl_alloc (bl_refl _) _) h_p0, bl_cell (bl_alloc (bl_refl _) _) h_p1, bl_cell (bl_alloc (bl_refl _) _) h_p2, bl_cell (bl_alloc (bl_refl _) _) h_p3, bl_cell (bl_alloc (bl_refl _) _) h_p4, bl_cell (bl_alloc (bl_refl _) _) h_p5, bl_alloc h_B _⟩
    have rn0 := World.block_lt_of_cell? _ _ h_p0
    dsimp only at rn0
    have rB := h_B.size
    clear hHeld hK K h_p0 h_p1 h_p2 h_p3 h_p4 h_p5 h_B
    have hHeld := hHeld2
    clear hHeld2
    try simp only [Act.put, List.setIfInBounds_toArray, List.set_cons_zero, List.set_cons_succ]
    refine wpAnyH_abs (F := fun X => ResB X X0.heap.size) hHeld (res_new _ _ _ _ _ _ rfl) ?_
    clear hHeld
    generalize X0.heap.size = r at *
    rintro X3 hHeld hRes
    refine callC (i := 2) rfl (fun K hK => ?_)
    obtain ⟨h_p0, h_p1, h_p2, h_p3, h_p4, h_p5, h_B⟩ := (id hHeld)
    go_simp
    refine (H_HNW.out _).mono ?_
    rintro e X4 ⟨rfl, hb⟩
    go_wp2_with fail
    refine hK.out _ _ ?_ (fun hHeld2 => ?_)
    · (try dsimp only); exact ⟨bl_cell hb h_p0, bl_cell hb h_p1, bl_cell hb h_p2, bl_cell hb h_p3, bl_cell hb h_p4, bl_cell hb h_p5, bl_then h_B hb⟩
    replace hRes := res_bl hRes hb
    clear hHeld hK K h_p0 h_p1 h_p2 h_p3 h_p4 h_p5 h_B hb
    have hHeld := hHeld2
    clear hHeld2
    try simp only [Act.put, List.setIfInBounds_toArray, List.set_cons_zero, List.set_cons_succ]
    refine callC (i := 4) rfl (fun K hK => ?_)
    obtain ⟨h_p0, h_p1, h_p2, h_p3, h_p4, h_p5, h_B⟩ := (id hHeld)
    go_simp
    refine (H_HRUN.out _ (actsin_bl H_HA.out h_B)).mono ?_
    rintro e X5 ⟨a1, n1, c1, m1, vb, rfl, hLs, hFr, -, hb⟩
    unfold St.v
    (try dsimp only)
    go_wp2_with fail
    refine hK.out _ _ ?_ (fun hHeld2 => ?_)
    · (try dsimp only); exact ⟨bl_cell hb h_p0, bl_cell hb h_p1, bl_cell hb h_p2, bl_cell hb h_p3, bl_cell hb h_p4, bl_cell hb h_p5, bl_then h_B hb⟩
    have hrl := res_lt hRes
    have hne : ∀ ad, a1 = some ad → n1 ≠ 0 → ad.block ≠ r := fun ad e hn => by have := hb.size; rcases hFr with h | h; exact absurd h hn; have := h ad e; omega
    clear hrl
    replace hRes := res_bl hRes hb
    clear hHeld hK K h_p0 h_p1 h_p2 h_p3 h_p4 h_p5 h_B hb
    have hHeld := hHeld2
    clear hHeld2
    try simp only [Act.put, List.setIfInBounds_toArray, List.set_cons_zero, List.set_cons_succ]
    (refine tk (i := 5) rfl rfl hHeld ?_)
    (refine tk (i := 6) rfl rfl hHeld ?_)
    (refine tk (i := 7) rfl rfl hHeld ?_)
    refine callC (i := 9) rfl (fun K hK => ?_)
    obtain ⟨h_p0, h_p1, h_p2, h_p3, h_p4, h_p5, h_B⟩ := (id hHeld)
    obtain ⟨f0, f1, f2, f3, u0, u1, u2, u3, i0, i1, i2, i3⟩ := res_all hRes
    go_simp
    refine hK.out _ _ ?_ (fun hHeld2 => ?_)
    · (try dsimp only); exact ⟨far4 h_p0 (by dsimp only; omega), far4 h_p1 (by dsimp only; omega), far4 h_p2 (by dsimp only; omega), far4 h_p3 (by dsimp only; omega), far4 h_p4 (by dsimp only; omega), far4 h_p5 (by dsimp only; omega), bl4 h_B (by omega)⟩
    obtain ⟨z0, z1, z2, z3⟩ := set4r (v0 := .int .i64 sa) (v1 := .int .i64 sl) (v2 := .int .i64 sh) (v3 := .slice a1 n1 c1) hRes
    replace hLs := log_set4 (b := r) (v0 := .int .i64 sa) (v1 := .int .i64 sl) (v2 := .int .i64 sh) (v3 := .slice a1 n1 c1) hLs hne
    replace hRes := res4 (b := r) (v0 := .int .i64 sa) (v1 := .int .i64 sl) (v2 := .int .i64 sh) (v3 := .slice a1 n1 c1) hRes
    clear hHeld hK K h_p0 h_p1 h_p2 h_p3 h_p4 h_p5 h_B f0 f1 f2 f3 i0 i1 i2 i3 u0 u1 u2 u3
    have hHeld := hHeld2
    clear hHeld2
    try simp only [Act.put, List.setIfInBounds_toArray, List.set_cons_zero, List.set_cons_succ]
    (refine tk (i := 10) rfl rfl hHeld ?_)
    refine wpAnyH_done (by kernel_rfl) ?_ _
    refine then_abs (F := fun X => (fun w' => w'.cell? ⟨w1.heap.size, 0, none⟩ = some (.int .i64 k) ∧ w'.cell? ⟨w1.heap.size, 1, none⟩ = some (.int .i64 l) ∧ w'.cell? ⟨w1.heap.size, 2, none⟩ = some (.int .i64 d) ∧ w'.cell? ⟨w1.heap.size, 3, none⟩ = some (.int .i64 b) ∧ w'.cell? ⟨w1.heap.size, 4, none⟩ = some (.int .i64 cc) ∧ w'.cell? ⟨w1.heap.size, 5, none⟩ = some (.bool o) ∧ Below w.heap.size w w') X ∧ X.cell? ⟨r, 0, none⟩ = some (.int .i64 sa) ∧ X.cell? ⟨r, 1, none⟩ = some (.int .i64 sl) ∧ X.cell? ⟨r, 2, none⟩ = some (.int .i64 sh) ∧ X.cell? ⟨r, 3, none⟩ = some (.slice a1 n1 c1) ∧ ResB X r ∧ LogAt X a1 n1 c1 sL) ⟨hHeld, z0, z1, z2, z3, hRes, hLs⟩ ?_
    clear hHeld z0 z1 z2 z3 hRes hLs
  all_goals rintro w3 ⟨⟨p0, p1, p2, p3, p4, p5, hB⟩, s0, s1, s2, s3, sR, hLs⟩
  all_goals
    replace lb_p := World.block_lt_of_cell? w3 _ p0
    dsimp only at lb_p
    have lb_s := World.block_lt_of_cell? w3 _ s0
    dsimp only at lb_s
    go_wp2_with go_step3
    refine (H_HUN.out _ _ _ _ hLs).mono ?_
    rintro e w4 ⟨rfl, hb⟩
    have hsz3 : w3.heap.size + 0 ≤ w4.heap.size := by have h := hb.size; (try simp at h); omega
    replace p0 := bl_cell hb p0
    replace p1 := bl_cell hb p1
    replace p2 := bl_cell hb p2
    replace p3 := bl_cell hb p3
    replace p4 := bl_cell hb p4
    replace p5 := bl_cell hb p5
    replace s0 := bl_cell hb s0
    replace s1 := bl_cell hb s1
    replace s2 := bl_cell hb s2
    replace s3 := bl_cell hb s3
    replace sR := res_bl sR hb
    replace hLs := log_bl hLs hb
    replace hB : Below w.heap.size w w4 := bl_then hB hb
    replace lb_p := World.block_lt_of_cell? w4 _ p0
    dsimp only at lb_p
    replace lb_s := World.block_lt_of_cell? w4 _ s0
    dsimp only at lb_s
    clear hb
    go_wp2_with go_step3
    refine wp_region_held_drew (S := fun w' => w'.cell? ⟨w1.heap.size, 0, none⟩ = some (.int .i64 k) ∧ w'.cell? ⟨w1.heap.size, 1, none⟩ = some (.int .i64 l) ∧ w'.cell? ⟨w1.heap.size, 2, none⟩ = some (.int .i64 d) ∧ w'.cell? ⟨w1.heap.size, 3, none⟩ = some (.int .i64 b) ∧ w'.cell? ⟨w1.heap.size, 4, none⟩ = some (.int .i64 cc) ∧ w'.cell? ⟨w1.heap.size, 5, none⟩ = some (.bool o) ∧ w'.cell? ⟨r, 0, none⟩ = some (.int .i64 sa) ∧ w'.cell? ⟨r, 1, none⟩ = some (.int .i64 sl) ∧ w'.cell? ⟨r, 2, none⟩ = some (.int .i64 sh) ∧ w'.cell? ⟨r, 3, none⟩ = some (.slice a1 n1 c1) ∧ ResB w' r ∧ LogAt w' a1 n1 c1 sL ∧ Below w.heap.size w w') (by kernel_rfl) ?_ (fun hHeld => ?_)
    · exact ⟨p0, p1, p2, p3, p4, p5, s0, s1, s2, s3, sR, hLs, bl_drew hB⟩
    try simp only [Act.put, List.setIfInBounds_toArray, List.set_cons_zero, List.set_cons_succ]
    (refine tk (i := 0) rfl rfl hHeld ?_)
    (refine tk (i := 1) rfl rfl hHeld ?_)
    (refine tk (i := 2) rfl rfl hHeld ?_)
    (refine callH (i := 3) rfl hHeld (fun W hW K hK => ?_); clear hHeld; (try dsimp only at hW); obtain ⟨h_p0, h_p1, h_p2, h_p3, h_p4, h_p5, h_s0, h_s1, h_s2, h_s3, h_sR, h_hLs, h_B⟩ := hW; go_simp; refine (H_HFR.out _ _ _ _ h_hLs).mono ?_; rintro e w9 ⟨rfl, hb⟩; go_wp2_with fail; refine hK.out _ _ ?_ (fun hHeld => ?_); (focus ((try dsimp only); exact ⟨bl_cell hb h_p0, bl_cell hb h_p1, bl_cell hb h_p2, bl_cell hb h_p3, bl_cell hb h_p4, bl_cell hb h_p5, bl_cell hb h_s0, bl_cell hb h_s1, bl_cell hb h_s2, bl_cell hb h_s3, res_bl h_sR hb, log_bl h_hLs hb, bl_then h_B hb⟩)); clear hK K; clear h_p0 h_p1 h_p2 h_p3 h_p4 h_p5 h_s0 h_s1 h_s2 h_s3 h_sR h_hLs h_B; try simp only [Act.put, List.setIfInBounds_toArray, List.set_cons_zero, List.set_cons_succ])
    (refine tk (i := 4) rfl rfl hHeld ?_)
    (refine tk (i := 5) rfl rfl hHeld ?_)
    first | (refine tq (i := 6) rfl rfl hHeld ?_) | (refine tk (i := 6) rfl rfl hHeld ?_)
    first | (refine tq (i := 7) rfl rfl hHeld ?_) | (refine tk (i := 7) rfl rfl hHeld ?_)
    first | (refine tq (i := 8) rfl rfl hHeld ?_) | (refine tk (i := 8) rfl rfl hHeld ?_)
    first | (refine tq (i := 10) rfl rfl hHeld ?_) | (refine tk (i := 10) rfl rfl hHeld ?_)
    first | (refine tq (i := 9) rfl rfl hHeld ?_) | (refine callH (i := 9) rfl hHeld (fun W hW K hK => ?_); clear hHeld; (try dsimp only at hW); obtain ⟨h_p0, h_p1, h_p2, h_p3, h_p4, h_p5, h_s0, h_s1, h_s2, h_s3, h_sR, h_hLs, h_B⟩ := hW; go_simp; refine (H_HRM.out _ _ _ _ h_hLs).mono ?_; rintro e w9 ⟨rfl, hb⟩; go_wp2_with fail; refine hK.out _ _ ?_ (fun hHeld => ?_); (focus ((try dsimp only); exact ⟨bl_cell hb h_p0, bl_cell hb h_p1, bl_cell hb h_p2, bl_cell hb h_p3, bl_cell hb h_p4, bl_cell hb h_p5, bl_cell hb h_s0, bl_cell hb h_s1, bl_cell hb h_s2, bl_cell hb h_s3, res_bl h_sR hb, log_bl h_hLs hb, bl_then h_B hb⟩)); clear hK K; clear h_p0 h_p1 h_p2 h_p3 h_p4 h_p5 h_s0 h_s1 h_s2 h_s3 h_sR h_hLs h_B; try simp only [Act.put, List.setIfInBounds_toArray, List.set_cons_zero, List.set_cons_succ])
    first | (refine tq (i := 11) rfl rfl hHeld ?_) | (refine callH (i := 11) rfl hHeld (fun W hW K hK => ?_); clear hHeld; (try dsimp only at hW); obtain ⟨h_p0, h_p1, h_p2, h_p3, h_p4, h_p5, h_s0, h_s1, h_s2, h_s3, h_sR, h_hLs, h_B⟩ := hW; go_simp; refine (H_HMOST.out _).mono ?_; rintro e w9 ⟨rfl, hb⟩; go_wp2_with fail; refine hK.out _ _ ?_ (fun hHeld => ?_); (focus ((try dsimp only); exact ⟨bl_cell hb h_p0, bl_cell hb h_p1, bl_cell hb h_p2, bl_cell hb h_p3, bl_cell hb h_p4, bl_cell hb h_p5, bl_cell hb h_s0, bl_cell hb h_s1, bl_cell hb h_s2, bl_cell hb h_s3, res_bl h_sR hb, log_bl h_hLs hb, bl_then h_B hb⟩)); clear hK K; clear h_p0 h_p1 h_p2 h_p3 h_p4 h_p5 h_s0 h_s1 h_s2 h_s3 h_sR h_hLs h_B; try simp only [Act.put, List.setIfInBounds_toArray, List.set_cons_zero, List.set_cons_succ])
    first | (refine tq (i := 12) rfl rfl hHeld ?_) | (refine tk (i := 12) rfl rfl hHeld ?_)
    (refine tk (i := 13) rfl rfl hHeld ?_)
    refine wpAnyH_done (by kernel_rfl) ?_ _
    refine then_abs (F := fun w' => w'.cell? ⟨w1.heap.size, 0, none⟩ = some (.int .i64 k) ∧ w'.cell? ⟨w1.heap.size, 1, none⟩ = some (.int .i64 l) ∧ w'.cell? ⟨w1.heap.size, 2, none⟩ = some (.int .i64 d) ∧ w'.cell? ⟨w1.heap.size, 3, none⟩ = some (.int .i64 b) ∧ w'.cell? ⟨w1.heap.size, 4, none⟩ = some (.int .i64 cc) ∧ w'.cell? ⟨w1.heap.size, 5, none⟩ = some (.bool o) ∧ w'.cell? ⟨r, 0, none⟩ = some (.int .i64 sa) ∧ w'.cell? ⟨r, 1, none⟩ = some (.int .i64 sl) ∧ w'.cell? ⟨r, 2, none⟩ = some (.int .i64 sh) ∧ w'.cell? ⟨r, 3, none⟩ = some (.slice a1 n1 c1) ∧ ResB w' r ∧ LogAt w' a1 n1 c1 sL ∧ Below w.heap.size w w') hHeld ?_
    clear hHeld hB p0 p1 p2 p3 p4 p5 s0 s1 s2 s3 sR hLs
    rintro w5 ⟨p0, p1, p2, p3, p4, p5, s0, s1, s2, s3, sR, hLs, hB⟩
    replace lb_p := World.block_lt_of_cell? w5 _ p0
    dsimp only at lb_p
    replace lb_s := World.block_lt_of_cell? w5 _ s0
    dsimp only at lb_s
    go_wp2_with go_step3
    refine (H_HNT.out _).mono ?_
    rintro e w6 ⟨rfl, hb⟩
    have hsz4 : w5.heap.size + 0 ≤ w6.heap.size := by have h := hb.size; (try simp at h); omega
    replace p0 := bl_cell hb p0
    replace p1 := bl_cell hb p1
    replace p2 := bl_cell hb p2
    replace p3 := bl_cell hb p3
    replace p4 := bl_cell hb p4
    replace p5 := bl_cell hb p5
    replace s0 := bl_cell hb s0
    replace s1 := bl_cell hb s1
    replace s2 := bl_cell hb s2
    replace s3 := bl_cell hb s3
    replace sR := res_bl sR hb
    replace hLs := log_bl hLs hb
    replace hB : Below w.heap.size w w6 := bl_then hB hb
    replace lb_p := World.block_lt_of_cell? w6 _ p0
    dsimp only at lb_p
    replace lb_s := World.block_lt_of_cell? w6 _ s0
    dsimp only at lb_s
    clear hb
    go_wp2_with go_step3
    refine (H_HAV.out _ _ _ _ (log_bl hLs (bl_alloc (bl_refl _) _))).mono ?_
    rintro e w7 ⟨a5, n5, c5, rfl, hL5, -, hb⟩
    have hx : Below w6.heap.size w6 w7 := bl_then (bl_alloc (bl_refl _) _) hb
    have hsz5 : w6.heap.size + 1 ≤ w7.heap.size := by have h := hb.size; (try simp at h); omega
    replace p0 := bl_cell hx p0
    replace p1 := bl_cell hx p1
    replace p2 := bl_cell hx p2
    replace p3 := bl_cell hx p3
    replace p4 := bl_cell hx p4
    replace p5 := bl_cell hx p5
    replace s0 := bl_cell hx s0
    replace s1 := bl_cell hx s1
    replace s2 := bl_cell hx s2
    replace s3 := bl_cell hx s3
    replace sR := res_bl sR hx
    replace hLs := log_bl hLs hx
    have n0 := bl_cell (v := .int .i64 ta) hb (show World.cell? _ ⟨w6.heap.size, 0, none⟩ = _ by go_simp)
    have n1 := bl_cell (v := .int .i64 tl) hb (show World.cell? _ ⟨w6.heap.size, 1, none⟩ = _ by go_simp)
    have n2 := bl_cell (v := .int .i64 th) hb (show World.cell? _ ⟨w6.heap.size, 2, none⟩ = _ by go_simp)
    have n3 := bl_cell (v := .slice none 0 0) hb (show World.cell? _ ⟨w6.heap.size, 3, none⟩ = _ by go_simp)
    replace hB : Below w.heap.size w w7 := bl_then hB hx
    replace lb_p := World.block_lt_of_cell? w7 _ p0
    dsimp only at lb_p
    replace lb_s := World.block_lt_of_cell? w7 _ s0
    dsimp only at lb_s
    have lb_n := World.block_lt_of_cell? w7 _ n0
    dsimp only at lb_n
    clear hb hx
    have hn5 : n5 ≤ 1000 := by have := hL5.1; simp at this; omega
    unfold St.v
    (try dsimp only)
    go_wp2_with go_step3
    refine (H_HRUN2.out none 0 0 _ (log_nil _ _ _ (by omega)) (by omega) (actsin_bl H_HA2.out (bl_alloc (hB) _))).mono ?_
    rintro e w8 ⟨a6, n6, c6, m6, vb6, rfl, hL6, -, hO6, hb⟩
    have hx : Below w7.heap.size w7 w8 := bl_then (bl_alloc (bl_refl _) _) hb
    have hsz6 : w7.heap.size + 1 ≤ w8.heap.size := by have h := hb.size; (try simp at h); omega
    replace p0 := bl_cell hx p0
    replace p1 := bl_cell hx p1
    replace p2 := bl_cell hx p2
    replace p3 := bl_cell hx p3
    replace p4 := bl_cell hx p4
    replace p5 := bl_cell hx p5
    replace s0 := bl_cell hx s0
    replace s1 := bl_cell hx s1
    replace s2 := bl_cell hx s2
    replace s3 := bl_cell hx s3
    replace sR := res_bl sR hx
    replace hLs := log_bl hLs hx
    replace n0 := bl_cell hx n0
    replace n1 := bl_cell hx n1
    replace n2 := bl_cell hx n2
    replace n3 := bl_cell hx n3
    replace hL5 := log_bl hL5 hx
    have a0 := bl_cell (v := .int .i64 ta) hb (show World.cell? _ ⟨w7.heap.size, 0, none⟩ = _ by go_simp)
    have a1 := bl_cell (v := .int .i64 tl) hb (show World.cell? _ ⟨w7.heap.size, 1, none⟩ = _ by go_simp)
    have a2 := bl_cell (v := .int .i64 th) hb (show World.cell? _ ⟨w7.heap.size, 2, none⟩ = _ by go_simp)
    have a3 := bl_cell (v := .slice a5 n5 c5) hb (show World.cell? _ ⟨w7.heap.size, 3, none⟩ = _ by go_simp)
    replace hB : Below w.heap.size w w8 := bl_then hB hx
    replace lb_p := World.block_lt_of_cell? w8 _ p0
    dsimp only at lb_p
    replace lb_s := World.block_lt_of_cell? w8 _ s0
    dsimp only at lb_s
    replace lb_n := World.block_lt_of_cell? w8 _ n0
    dsimp only at lb_n
    have lb_a := World.block_lt_of_cell? w8 _ a0
    dsimp only at lb_a
    clear hb hx
    obtain ⟨ab6, cb6, rfl, hb6⟩ := own_bools hO6
    clear hO6
    unfold St.v
    (try dsimp only)
    go_wp2_with go_step3
    refine (H_HRUN2.out _ _ _ _ (log_bl hL5 (bl_alloc (bl_refl _) _)) hn5 (actsin_bl H_HA2.out (bl_alloc (hB) _))).mono ?_
    rintro e w9 ⟨a7, n7, c7, m7, vb7, rfl, hL7, -, hO7, hb⟩
    have hx : Below w8.heap.size w8 w9 := bl_then (bl_alloc (bl_refl _) _) hb
    have hsz7 : w8.heap.size + 1 ≤ w9.heap.size := by have h := hb.size; (try simp at h); omega
    replace p0 := bl_cell hx p0
    replace p1 := bl_cell hx p1
    replace p2 := bl_cell hx p2
    replace p3 := bl_cell hx p3
    replace p4 := bl_cell hx p4
    replace p5 := bl_cell hx p5
    replace s0 := bl_cell hx s0
    replace s1 := bl_cell hx s1
    replace s2 := bl_cell hx s2
    replace s3 := bl_cell hx s3
    replace sR := res_bl sR hx
    replace hLs := log_bl hLs hx
    replace n0 := bl_cell hx n0
    replace n1 := bl_cell hx n1
    replace n2 := bl_cell hx n2
    replace n3 := bl_cell hx n3
    replace hL5 := log_bl hL5 hx
    replace a0 := bl_cell hx a0
    replace a1 := bl_cell hx a1
    replace a2 := bl_cell hx a2
    replace a3 := bl_cell hx a3
    replace hL6 := log_bl hL6 hx
    replace hb6 := bools_bl hb6 hx
    have x0 := bl_cell (v := .int .i64 ya) hb (show World.cell? _ ⟨w8.heap.size, 0, none⟩ = _ by go_simp)
    have x1 := bl_cell (v := .int .i64 yl) hb (show World.cell? _ ⟨w8.heap.size, 1, none⟩ = _ by go_simp)
    have x2 := bl_cell (v := .int .i64 yh) hb (show World.cell? _ ⟨w8.heap.size, 2, none⟩ = _ by go_simp)
    have x3 := bl_cell (v := .slice a6 n6 c6) hb (show World.cell? _ ⟨w8.heap.size, 3, none⟩ = _ by go_simp)
    replace hB : Below w.heap.size w w9 := bl_then hB hx
    replace lb_p := World.block_lt_of_cell? w9 _ p0
    dsimp only at lb_p
    replace lb_s := World.block_lt_of_cell? w9 _ s0
    dsimp only at lb_s
    replace lb_n := World.block_lt_of_cell? w9 _ n0
    dsimp only at lb_n
    replace lb_a := World.block_lt_of_cell? w9 _ a0
    dsimp only at lb_a
    have lb_x := World.block_lt_of_cell? w9 _ x0
    dsimp only at lb_x
    clear hb hx
    obtain ⟨ab7, cb7, rfl, hb7⟩ := own_bools hO7
    clear hO7
    unfold St.v
    (try dsimp only)
    have hnn : n7 = n6 := hL7.1.symm.trans hL6.1
    subst hnn
    have hmm : m7 = m6 := hb7.1.symm.trans hb6.1
    subst hmm
    have hm7 : m7 ≤ 60 := by have h1 : bs2.length = m7 := hb7.1; have h2 : bs2.length = m2 := hlen2 H_HA2.out.1; omega
    go_wp2_with go_step3
    refine (H_HSAME.out _ _ _ _ _ _ (log_bl hL6 (bl_alloc (bl_refl _) _)) (log_bl hL7 (bl_alloc (bl_refl _) _))).mono ?_
    rintro e w10 ⟨rfl, hb⟩
    have hx : Below w9.heap.size w9 w10 := bl_then (bl_alloc (bl_refl _) _) hb
    have hsz8 : w9.heap.size + 1 ≤ w10.heap.size := by have h := hb.size; (try simp at h); omega
    replace p0 := bl_cell hx p0
    replace p1 := bl_cell hx p1
    replace p2 := bl_cell hx p2
    replace p3 := bl_cell hx p3
    replace p4 := bl_cell hx p4
    replace p5 := bl_cell hx p5
    replace s0 := bl_cell hx s0
    replace s1 := bl_cell hx s1
    replace s2 := bl_cell hx s2
    replace s3 := bl_cell hx s3
    replace sR := res_bl sR hx
    replace hLs := log_bl hLs hx
    replace n0 := bl_cell hx n0
    replace n1 := bl_cell hx n1
    replace n2 := bl_cell hx n2
    replace n3 := bl_cell hx n3
    replace hL5 := log_bl hL5 hx
    replace a0 := bl_cell hx a0
    replace a1 := bl_cell hx a1
    replace a2 := bl_cell hx a2
    replace a3 := bl_cell hx a3
    replace hL6 := log_bl hL6 hx
    replace hb6 := bools_bl hb6 hx
    replace x0 := bl_cell hx x0
    replace x1 := bl_cell hx x1
    replace x2 := bl_cell hx x2
    replace x3 := bl_cell hx x3
    replace hL7 := log_bl hL7 hx
    replace hb7 := bools_bl hb7 hx
    have y0 := bl_cell (v := .int .i64 ya) hb (show World.cell? _ ⟨w9.heap.size, 0, none⟩ = _ by go_simp)
    have y1 := bl_cell (v := .int .i64 yl) hb (show World.cell? _ ⟨w9.heap.size, 1, none⟩ = _ by go_simp)
    have y2 := bl_cell (v := .int .i64 yh) hb (show World.cell? _ ⟨w9.heap.size, 2, none⟩ = _ by go_simp)
    have y3 := bl_cell (v := .slice a7 n7 c7) hb (show World.cell? _ ⟨w9.heap.size, 3, none⟩ = _ by go_simp)
    replace hB : Below w.heap.size w w10 := bl_then hB hx
    replace lb_p := World.block_lt_of_cell? w10 _ p0
    dsimp only at lb_p
    replace lb_s := World.block_lt_of_cell? w10 _ s0
    dsimp only at lb_s
    replace lb_n := World.block_lt_of_cell? w10 _ n0
    dsimp only at lb_n
    replace lb_a := World.block_lt_of_cell? w10 _ a0
    dsimp only at lb_a
    replace lb_x := World.block_lt_of_cell? w10 _ x0
    dsimp only at lb_x
    have lb_y := World.block_lt_of_cell? w10 _ y0
    dsimp only at lb_y
    clear hb hx
    go_wp2_with go_step3
    go_loopw [24] (fun s24 wr => ∃ j : Nat, s24 = .int .i64 j ∧ j ≤ m7 ∧ Hid (Below w10.heap.size w10 wr))
      (fun s24 _ => m7 - (intOf s24).toNat)
    case atStart => exact ⟨0, rfl, Nat.zero_le _, Below.refl _ _⟩
    case round =>
      obtain ⟨j, rfl, hj, H⟩ := hrel
      have hb := H.out
      have dB : Below w.heap.size w wr := hB.trans (hb.mono hB.size)
      by_cases hjn : j < m7
      · obtain ⟨b6, rfl, x6⟩ := hb6.2 j hjn
        obtain ⟨b7, rfl, x7⟩ := hb7.2 j hjn
        have y6 := bl_cell hb x6
        have y7 := bl_cell hb x7
        generalize bs2.getD j false = B at y6 y7
        have k0 : (0 : Int) ≤ (j : Int) := by omega
        have k1 : (j : Int) < (m7 : Int) := by omega
        have hj1 : j + 1 ≤ m7 := hjn
        have hms : m7 - (j + 1) < m7 - j := by omega
        have wj : IntKind.i64.wrap ((j : Int) + 1) = (j : Int) + 1 := IntWalk.i64_in _ (by omega)
        clear x6 x7
        go_wp2_with go_step3
        refine wp_region_held_drew (S := fun w' => w'.cell? ⟨b6, j, none⟩ = some (.bool B) ∧ w'.cell? ⟨b7, j, none⟩ = some (.bool B) ∧ Below w.heap.size w w') (by kernel_rfl) ?_ (fun hHeld => ?_)
        · exact ⟨y6, y7, bl_drew dB⟩
        try simp only [Act.put, List.setIfInBounds_toArray, List.set_cons_zero, List.set_cons_succ]
        (refine tk (i := 0) rfl rfl hHeld ?_)
        (refine tk (i := 1) rfl rfl hHeld ?_)
        (refine tk (i := 2) rfl rfl hHeld ?_)
        (refine tk (i := 3) rfl rfl hHeld ?_)
        (refine tk (i := 4) rfl rfl hHeld ?_)
        (refine tk (i := 5) rfl rfl hHeld ?_)
        (refine tk (i := 6) rfl rfl hHeld ?_)
        (refine tk (i := 7) rfl rfl hHeld ?_)
        (refine tk (i := 8) rfl rfl hHeld ?_)
        refine wpAnyH_done (by kernel_rfl) ?_ _
        clear hHeld
        have hbd : Below w10.heap.size w10 wr.drew := hb.drew
        go_wp2_with go_step3
        go_roundw
        case rel => exact ⟨j + 1, by go_num, hj1, hbd⟩
        case measure => (simp [intOf]; first | exact hms | omega)
      · have hje : m7 = j := by omega
        subst hje
        go_wp2_with go_step3
        refine (H_HKN.out _).mono ?_
        rintro e w9 ⟨rfl, hb9⟩
        go_wp2_with go_step3
        go_ret
        exact ⟨rfl, bl_then dB hb9⟩


theorem fresh_walk (kd lm pd bs : Int) (la : Option Addr) (m lc : Nat) (acts : List Ac) (la2 : Option Addr) (m2 lc2 : Nat) (acts2 : List Ac) (w : World) (hk1 : 0 ≤ kd) (hk2 : kd ≤ 255) (hl1 : 0 ≤ lm) (hl2 : lm ≤ 65535) (hp1 : 0 ≤ pd) (hp2 : pd ≤ 65535) (hb1 : 0 ≤ bs) (hb2 : bs ≤ 65535) (hA : ActsIn w la m lc acts) (hA2 : ActsIn w la2 m2 lc2 acts2) :
    Calls Try.prog 6 #[.int .u8 kd, .int .u16 lm, .int .u16 pd, .int .u16 bs, .slice la m lc, .slice la2 m2 lc2] w fun e w' => e = .returned (.bool true) ∧ Below w.heap.size w w' := by
  by_cases hm : (m : Int) ≤ 60
  · by_cases hm2 : (m2 : Int) ≤ 60
    · by_cases hu : untilP (ofP kd lm pd bs) (runP (ofP kd lm pd bs) (newP (ofP kd lm pd bs) 0) acts).1 0 < 0
      · exact fresh_held kd lm pd bs la m lc acts la2 m2 lc2 acts2 w ⟨hk1, hk2⟩ ⟨hl1, hl2⟩ ⟨hp1, hp2⟩ ⟨hb1, hb2⟩ hm hm2 hA hA2 _ rfl hu
      · by_cases ht : 4503599627370496 < (runP (ofP kd lm pd bs) (newP (ofP kd lm pd bs) 0) acts).1.at_ + untilP (ofP kd lm pd bs) (runP (ofP kd lm pd bs) (newP (ofP kd lm pd bs) 0) acts).1 0
        · exact fresh_late kd lm pd bs la m lc acts la2 m2 lc2 acts2 w ⟨hk1, hk2⟩ ⟨hl1, hl2⟩ ⟨hp1, hp2⟩ ⟨hb1, hb2⟩ hm hm2 hA hA2 _ rfl hu ht
        · exact fresh_yes kd lm pd bs la m lc acts la2 m2 lc2 acts2 w ⟨hk1, hk2⟩ ⟨hl1, hl2⟩ ⟨hp1, hp2⟩ ⟨hb1, hb2⟩ hm hm2 hA hA2 _ rfl hu ht
    · exact fresh_long2 kd lm pd bs la m lc acts la2 m2 lc2 acts2 w hm hm2
  · exact fresh_long1 kd lm pd bs la m lc acts la2 m2 lc2 acts2 w hm
end Go.Proofs.Ythinbjknkjpdjaa

namespace Go.Proofs.Ythinbjknkjpdjaa.limiterFresh
open Go.ChangeShapes Go.WideShapes Go.ChangeAt Go.RowKit
open Go.ChangeMaps (open_string shut_string)
set_option linter.unusedVariables false
set_option linter.unusedSimpArgs false

theorem own : ownKnob Try.prog.godebug = none := by kernel_rfl
theorem laidOut : laidOutB Try.prog = true := by kernel_rfl

set_option maxHeartbeats 1000000 in
set_option maxRecDepth 100000 in
theorem lifted (os : Os) (started : os.Started) (H : Type) (enc : TypeId × Value → H) :
    ReturnsInHanded {} Try.checked os 6 .any (Rows.limiterFreshSpec.pre6 enc Try.prog Try.f6 Rows.limiterFreshRow.domain false) (Rows.limiterFreshSpec.post enc Try.prog Try.f6 false true false false) := by
  refine returnsInHanded_of_change (C := Try.checked) own started (by kernel_rfl) Try.func6
    (ChangeSpec.witness6 (enc := enc) (C := Try.checked) false ⟨#[], #[.int .u8 0, .int .u16 0, .int .u16 0, .int .u16 0, .slice none 0 0, .slice none 0 0], []⟩ 8 (by kernel_rfl) (by kernel_rfl) (by kernel_rfl) (by kernel_rfl)) ?_
  intro W base args ds gs before hval0 hW hcnd _
  have hval : ∀ (j : Nat) t v, Try.f6.params[j]? = some t → args[j]? = some v → Value.okWide Try.prog W .any base t v := hval0
  have hW' := hW
  obtain ⟨p, q, hA0, hV, rfl, hfz, hnd⟩ := hW
  have hA : DataW.TrodAll enc Try.prog W 0 (fun _ => true) true Try.f6.params.toList args.toList ds p := hA0
  rw [Try.params6] at hA hval
  obtain ⟨v0, vs0, d0, ds0', p0, q0, hargs, rfl, rfl, h0, r0⟩ := trodAll_cons hA
  obtain ⟨v1, vs1, d1, ds1', p1, q1, rfl, rfl, rfl, h1, r1⟩ := trodAll_cons r0
  obtain ⟨v2, vs2, d2, ds2', p2, q2, rfl, rfl, rfl, h2, r2⟩ := trodAll_cons r1
  obtain ⟨v3, vs3, d3, ds3', p3, q3, rfl, rfl, rfl, h3, r3⟩ := trodAll_cons r2
  obtain ⟨v4, vs4, d4, ds4', p4, q4, rfl, rfl, rfl, h4, r4⟩ := trodAll_cons r3
  obtain ⟨v5, vs5, d5, ds5', p5, q5, rfl, rfl, rfl, h5, r5⟩ := trodAll_cons r4
  obtain ⟨rfl, rfl, rfl⟩ := trodAll_nil r5
  obtain rfl : args = #[v0, v1, v2, v3, v4, v5] := by cases args; simp_all
  obtain ⟨rfl, rfl⟩ := trodVars_none hV
  obtain ⟨a0, rfl, rfl, rfl, w0⟩ := open_int Try.underlying5 (hval 0 5 v0 rfl rfl) h0
  have b0l : 0 ≤ a0 := by have h := w0; simp only [Lit.wf, Bool.and_eq_true, decide_eq_true_eq] at h; exact h.1
  have b0h : a0 ≤ 255 := by have h := w0; simp only [Lit.wf, Bool.and_eq_true, decide_eq_true_eq] at h; exact h.2
  obtain ⟨a1, rfl, rfl, rfl, w1⟩ := open_int Try.underlying22 (hval 1 22 v1 rfl rfl) h1
  have b1l : 0 ≤ a1 := by have h := w1; simp only [Lit.wf, Bool.and_eq_true, decide_eq_true_eq] at h; exact h.1
  have b1h : a1 ≤ 65535 := by have h := w1; simp only [Lit.wf, Bool.and_eq_true, decide_eq_true_eq] at h; exact h.2
  obtain ⟨a2, rfl, rfl, rfl, w2⟩ := open_int Try.underlying22 (hval 2 22 v2 rfl rfl) h2
  have b2l : 0 ≤ a2 := by have h := w2; simp only [Lit.wf, Bool.and_eq_true, decide_eq_true_eq] at h; exact h.1
  have b2h : a2 ≤ 65535 := by have h := w2; simp only [Lit.wf, Bool.and_eq_true, decide_eq_true_eq] at h; exact h.2
  obtain ⟨a3, rfl, rfl, rfl, w3⟩ := open_int Try.underlying22 (hval 3 22 v3 rfl rfl) h3
  have b3l : 0 ≤ a3 := by have h := w3; simp only [Lit.wf, Bool.and_eq_true, decide_eq_true_eq] at h; exact h.1
  have b3h : a3 ≤ 65535 := by have h := w3; simp only [Lit.wf, Bool.and_eq_true, decide_eq_true_eq] at h; exact h.2
  obtain ⟨a4, len4, cap4, rfl⟩ := okWide_slice Try.underlying23 (hval 4 23 v4 rfl rfl)
  have k4 := h4
  have lt4 : ∀ x ∈ p4, x.block < W.heap.size := by obtain ⟨m, hm⟩ := k4; exact DataW.trod_lt m _ _ _ hm
  obtain ⟨ds4, w4⟩ : ∃ ds, ActsIn W a4 len4 cap4 ds := by obtain ⟨fuel, hf⟩ := h4; exact open_acts (by simpa [Value.cells] using hf)
  obtain ⟨a5, len5, cap5, rfl⟩ := okWide_slice Try.underlying23 (hval 5 23 v5 rfl rfl)
  have k5 := h5
  have lt5 : ∀ x ∈ p5, x.block < W.heap.size := by obtain ⟨m, hm⟩ := k5; exact DataW.trod_lt m _ _ _ hm
  obtain ⟨ds5, w5⟩ : ∃ ds, ActsIn W a5 len5 cap5 ds := by obtain ⟨fuel, hf⟩ := h5; exact open_acts (by simpa [Value.cells] using hf)
  clear hA0 hval0
  refine (fresh_walk a0 a1 a2 a3 a4 len4 cap4 ds4 a5 len5 cap5 ds5 W b0l b0h b1l b1h b2l b2h b3l b3h w4 w5).mono fun e W' ⟨he, bel⟩ => ?_
  subst he
  exact ⟨_, rfl, _, _, _, [], _, [], hW', trodAll_mk1 (shut_bool Try.underlying4 _), (trodAll_cons_mk (shut_int Try.underlying5 w0) (trodAll_cons_mk (shut_int Try.underlying22 w1) (trodAll_cons_mk (shut_int Try.underlying22 w2) (trodAll_cons_mk (shut_int Try.underlying22 w3) (trodAll_cons_mk (Below.trod laidOut (by kernel_rfl) (of_decide_eq_true (by kernel_rfl)) k4 bel lt4) (trodAll_cons_mk (Below.trod laidOut (by kernel_rfl) (of_decide_eq_true (by kernel_rfl)) k5 bel lt5) trodAll_mk0)))))), rfl, bel.frame _, fun h => by cases h⟩

theorem over : Rows.limiterFreshRow.holds Try.pinned (OpenSpec.ofChange Rows.limiterFreshSpec) :=
  OpenClaim.holds_of_wide 6 Try.f6 rfl rfl rfl rfl rfl rfl rfl ⟨rfl, rfl, rfl, rfl, rfl⟩ rfl rfl rfl rfl rfl (by kernel_rfl) Try.func6 (by kernel_rfl)
    (of_decide_eq_true (by kernel_rfl)) (by unfold Func.isWrapper; first | (rw [if_pos (by decide +kernel)]; kernel_rfl) | (rw [if_neg (by decide +kernel)]; exact ⟨rfl, rfl⟩))
    (fun os started H enc _ => lifted os started H enc)

/-- The statement. -/
theorem proved : Rows.LimiterFreshSaid := over
end Go.Proofs.Ythinbjknkjpdjaa.limiterFresh
