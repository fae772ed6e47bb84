/-
  The statement LimiterBacks of this seat: for every input the law returns true, and each argument reads afterwards as it read before. No condition.
-/
import Derived.Test.YthinbjknkjpdjaaM5
import Derived.Test.YthinbjknkjpdjaaRows
import Derived.WalkKit
import Derived.ProofKit
import Derived.OpenShut
import Derived.ShutString
import Derived.ChangeOld
import Derived.Below
namespace Go.Proofs.Ythinbjknkjpdjaa
open Go.RowKit
set_option linter.unusedVariables false
set_option linter.unusedSimpArgs false

set_option maxHeartbeats 2000000 in
set_option maxRecDepth 100000 in
theorem backs_long (kd lm pd bs : Int) (la : Option Addr) (m lc : Nat) (acts : List Ac) (now cost : Int) (w : World) (hm : ¬ (m : Int) ≤ 60) :
    Calls Try.prog 5 #[.int .u8 kd, .int .u16 lm, .int .u16 pd, .int .u16 bs, .slice la m lc, .int .u32 now, .int .u8 cost] w fun e w' => e = .returned (.bool true) ∧ Below w.heap.size w w' := by
  have hsm := small_any la m lc
  rw [decide_eq_false hm] at hsm
  have hkn := known_yes
  have HSM := Go.Lib.hid hsm
  have HKN := Go.Lib.hid hkn
  clear hsm hkn
  go_enter Try.func5, Try.ntmps5
  go_wp2_with go_step3
  refine (HSM.out _).mono ?_
  rintro e w1 ⟨rfl, rfl⟩
  go_wp2_with go_step3
  refine (HKN.out _).mono ?_
  rintro e w1 ⟨rfl, hb⟩
  have hsz1 : w.heap.size + 0 ≤ w1.heap.size := by have h := hb.size; (try simp at h); omega
  have hB : Below w.heap.size w w1 := hb
  clear hb
  go_wp2_with go_step3
  go_ret
  exact ⟨rfl, hB⟩

set_option maxHeartbeats 2000000 in
set_option maxRecDepth 100000 in
theorem backs_run (kd lm pd bs : Int) (la : Option Addr) (m lc : Nat) (acts : List Ac) (now cost : Int) (w : World) (hkd : 0 ≤ kd ∧ kd ≤ 255) (hlm : 0 ≤ lm ∧ lm ≤ 65535) (hpd : 0 ≤ pd ∧ pd ≤ 65535) (hbs : 0 ≤ bs ∧ bs ≤ 65535) (hnow : 0 ≤ now ∧ now ≤ 4294967295) (hcost : 0 ≤ cost ∧ cost ≤ 255) (hm : (m : Int) ≤ 60) (hA : ActsIn w la m lc acts) (s : St) (hs : (runP (ofP kd lm pd bs) (newP (ofP kd lm pd bs) 0) acts).1 = s) :
    Calls Try.prog 5 #[.int .u8 kd, .int .u16 lm, .int .u16 pd, .int .u16 bs, .slice la m lc, .int .u32 now, .int .u8 cost] w fun e w' => e = .returned (.bool true) ∧ Below w.heap.size w w' := by
  have hsm := small_any la m lc
  rw [decide_eq_true hm] at hsm
  have hof := fun w => ofP_any kd lm pd bs w hkd hlm hpd hbs
  obtain ⟨hC, hp1, hp2⟩ := ofP_ok kd lm pd bs hlm hpd hbs
  generalize ofP kd lm pd bs = P at *
  have KL := kern_P hC
  have hcp := capP_range hC
  have hnw := lnew_any P 0
  have hxl := newP_log P 0
  have hR : rightP P s = true := by rw [← hs]; exact right_run hC acts _ (KL.right_new 0)
  have hst := run_step (p := P) (newP P 0) acts hA.1
  have hend := run_all (p := P) (newP P 0) acts hA.1
  rw [hs] at hend
  have h0 : (runP P (newP P 0) (acts.take 0)).1 = newP P 0 := rfl
  have hrk : ∀ j, rightP P (runP P (newP P 0) (acts.take j)).1 = true := fun j => right_run hC _ _ (KL.right_new 0)
  generalize hFF : (fun j => (runP P (newP P 0) (acts.take j)).1) = F at *
  have hF : ∀ j, (runP P (newP P 0) (acts.take j)).1 = F j := fun j => by rw [← hFF]
  simp only [hF] at hst hend h0 hrk
  clear hF hFF
  have hri : ∀ j, j < m → ∀ a n c w, LogAt w a n c (doP P (F j) (acts.getD j ⟨0, 0, 0⟩)).1.log → Calls Try.prog 27 #[P.v, (doP P (F j) (acts.getD j ⟨0, 0, 0⟩)).1.v a n c] w fun e w' => e = .returned (.bool true) ∧ Below w.heap.size w w' := fun j _ a n c w hw => by have := lright_any P (doP P (F j) (acts.getD j ⟨0, 0, 0⟩)).1 a n c w hw; rwa [KL.right_do _ _ (hrk j)] at this
  have hrn : ∀ j, j < m → (doP P (F j) (acts.getD j ⟨0, 0, 0⟩)).2 = false → (doP P (F j) (acts.getD j ⟨0, 0, 0⟩)).1 = F j := fun j _ h => KL.do_no _ _ (hrk j) h
  have hdo := fun st x a n c w hw => ldo_any P st a n c x w hw
  have hsame := same_yes
  have hdH := fun a n c w hw => ldo_any P s a n c ⟨2, now, 1 + cost⟩ w hw
  have hdT := fun a n c w hw => ldo_any P s a n c ⟨1, now, 1 + cost⟩ w hw
  have hrm := fun a n c w hw => lroom_any P s a n c now w hw
  obtain ⟨e1, e2⟩ := KL.hold_take s now (1 + cost) hR (by omega)
  have hbk := KL.back s now (1 + cost) hR (by omega)
  have hav := fun a n c w hw => ladv_any P s a n c now w hw
  have hdR := fun a n c w hw => ldo_any P (doP P s ⟨2, now, 1 + cost⟩).1 a n c ⟨3, now, 1 + cost⟩ w hw
  have hdC := fun a n c w hw => ldo_any P (doP P s ⟨2, now, 1 + cost⟩).1 a n c ⟨4, now, 1 + cost⟩ w hw
  generalize newP P 0 = X0 at *
  obtain ⟨xa, xl, xh, xL⟩ := X0
  dsimp only at hxl
  subst hxl
  have hkn := known_yes
  have ww1 : IntKind.i64.wrap cost = cost := IntWalk.i64_in _ (by omega)
  have ww2 : IntKind.i64.wrap (1 + cost) = 1 + cost := IntWalk.i64_in _ (by omega)
  have ww3 : IntKind.i64.wrap now = now := IntWalk.i64_in _ (by omega)
  generalize hRM : roomP P s now = RM at *
  generalize doP P (doP P s ⟨2, now, 1 + cost⟩).1 ⟨3, now, 1 + cost⟩ = RR at *
  generalize doP P (doP P s ⟨2, now, 1 + cost⟩).1 ⟨4, now, 1 + cost⟩ = RC at *
  generalize doP P s ⟨2, now, 1 + cost⟩ = RH at *
  generalize doP P s ⟨1, now, 1 + cost⟩ = RT at *
  generalize advP P s now = AD at *
  have HFIN := Go.Lib.hid (And.intro e1 (And.intro e2 hbk))
  clear e1 e2 hbk KL hC hp1 hp2 hcp hR hrk hs hRM
  obtain ⟨k, l, d, b, cc, o⟩ := P
  unfold Pol.v at hnw hof
  unfold St.v at hnw
  dsimp only at hnw hof
  have H_HSM := Go.Lib.hid hsm
  have H_HOF := Go.Lib.hid hof
  have H_HNW := Go.Lib.hid hnw
  have H_HST := Go.Lib.hid hst
  have H_HEND := Go.Lib.hid hend
  have H_H0 := Go.Lib.hid h0
  have H_HRI := Go.Lib.hid hri
  have H_HRN := Go.Lib.hid hrn
  have H_HDO := Go.Lib.hid hdo
  have H_HSAME := Go.Lib.hid hsame
  have H_HDH := Go.Lib.hid hdH
  have H_HDT := Go.Lib.hid hdT
  have H_HRM := Go.Lib.hid hrm
  have H_HAV := Go.Lib.hid hav
  have H_HDR := Go.Lib.hid hdR
  have H_HDC := Go.Lib.hid hdC
  have H_HKN := Go.Lib.hid hkn
  have H_HA := Go.Lib.hid hA
  clear hsm hof hnw hst hend h0 hri hrn hdo hsame hdH hdT hrm hav hdR hdC hkn hA
  go_enter Try.func5, Try.ntmps5
  go_wp2_with go_step3
  refine (H_HSM.out _).mono ?_
  rintro e w1 ⟨rfl, rfl⟩
  go_wp2_with go_step3
  refine (H_HOF.out _).mono ?_
  rintro e w1 ⟨rfl, hb⟩
  have hsz1 : w.heap.size + 0 ≤ w1.heap.size := by have h := hb.size; (try simp at h); omega
  have hB : Below w.heap.size w w1 := hb
  clear hb
  go_wp2_with go_step3
  refine (H_HNW.out _).mono ?_
  rintro e w2 ⟨rfl, hb⟩
  have hx : Below w1.heap.size w1 w2 := bl_then (bl_alloc (bl_refl _) _) hb
  have hsz2 : w1.heap.size + 1 ≤ w2.heap.size := by have h := hb.size; (try simp at h); omega
  have p0 := bl_cell (v := .int .i64 k) hb (show World.cell? _ ⟨w1.heap.size, 0, none⟩ = _ by go_simp)
  have p1 := bl_cell (v := .int .i64 l) hb (show World.cell? _ ⟨w1.heap.size, 1, none⟩ = _ by go_simp)
  have p2 := bl_cell (v := .int .i64 d) hb (show World.cell? _ ⟨w1.heap.size, 2, none⟩ = _ by go_simp)
  have p3 := bl_cell (v := .int .i64 b) hb (show World.cell? _ ⟨w1.heap.size, 3, none⟩ = _ by go_simp)
  have p4 := bl_cell (v := .int .i64 cc) hb (show World.cell? _ ⟨w1.heap.size, 4, none⟩ = _ by go_simp)
  have p5 := bl_cell (v := .bool o) hb (show World.cell? _ ⟨w1.heap.size, 5, none⟩ = _ by go_simp)
  replace hB : Below w.heap.size w w2 := bl_then hB hx
  have lb_p := World.block_lt_of_cell? w2 _ p0
  dsimp only at lb_p
  clear hb hx
  go_wp2_with go_step3
  skip
  refine wp_abs (S0 := fun X => (fun w' => w'.cell? ⟨w1.heap.size, 0, none⟩ = some (.int .i64 k) ∧ w'.cell? ⟨w1.heap.size, 1, none⟩ = some (.int .i64 l) ∧ w'.cell? ⟨w1.heap.size, 2, none⟩ = some (.int .i64 d) ∧ w'.cell? ⟨w1.heap.size, 3, none⟩ = some (.int .i64 b) ∧ w'.cell? ⟨w1.heap.size, 4, none⟩ = some (.int .i64 cc) ∧ w'.cell? ⟨w1.heap.size, 5, none⟩ = some (.bool o) ∧ w'.cell? ⟨w2.heap.size, 0, none⟩ = some (.int .i64 xa) ∧ w'.cell? ⟨w2.heap.size, 1, none⟩ = some (.int .i64 xl) ∧ w'.cell? ⟨w2.heap.size, 2, none⟩ = some (.int .i64 xh) ∧ w'.cell? ⟨w2.heap.size, 3, none⟩ = some (.slice none 0 0) ∧ ResB w' (w2.heap.size) ∧ Below w.heap.size w w') X ∧ w2.heap.size + 1 ≤ X.heap.size) ⟨⟨bl_cell (bl_alloc (bl_refl _) _) p0, bl_cell (bl_alloc (bl_refl _) _) p1, bl_cell (bl_alloc (bl_refl _) _) p2, bl_cell (bl_alloc (bl_refl _) _) p3, bl_cell (bl_alloc (bl_refl _) _) p4, bl_cell (bl_alloc (bl_refl _) _) p5, by go_simp, by go_simp, by go_simp, by go_simp, res_new _ _ _ _ _ _ (by simp), bl_alloc (hB) _⟩, by simp⟩ ?_
  clear p0 p1 p2 p3 p4 p5 hB
  rintro w3 ⟨⟨p0, p1, p2, p3, p4, p5, s0, s1, s2, s3, sR, hB⟩, hsz3⟩
  replace lb_p := World.block_lt_of_cell? w3 _ p0
  dsimp only at lb_p
  have lb_s := World.block_lt_of_cell? w3 _ s0
  dsimp only at lb_s
  have hbpbs : w1.heap.size ≠ w2.heap.size := by omega
  go_loopw [17] (fun sj wr => ∃ j : Nat, sj = .int .i64 j ∧ j ≤ m ∧ Hid (∃ (a : Option Addr) (n c : Nat), DoRel (w1.heap.size) (w2.heap.size) w (k, l, d, b, cc, o) (F j) a n c wr))
    (fun sj _ => m - (intOf sj).toNat)
  case atStart => exact ⟨0, rfl, Nat.zero_le _, ⟨none, 0, 0, ⟨p0, p1, p2, p3, p4, p5, by rw [H_H0.out]; exact s0, by rw [H_H0.out]; exact s1, by rw [H_H0.out]; exact s2, s3, sR, by rw [H_H0.out]; exact log_nil _ _ _ (by omega), hB, fun ad e => by cases e⟩⟩⟩
  case round =>
    clear p0 p1 p2 p3 p4 p5 s0 s1 s2 s3 sR hB
    obtain ⟨j, rfl, hj, H⟩ := hrel
    obtain ⟨a, n, c, p0, p1, p2, p3, p4, p5, s0, s1, s2, s3, sR, hLs, hB, hOff⟩ := H.out
    dsimp only at p0 p1 p2 p3 p4 p5
    by_cases hjn : j < m
    · skip
      obtain ⟨xb, xo, hla, y0, y1, y2⟩ := H_HA.out.2.2.2 j hjn
      subst hla
      have x0 := bl_cell hB y0
      have x1 := bl_cell hB y1
      have x2 := bl_cell hB y2
      clear y0 y1 y2
      have hst := H_HST.out j hjn
      have hdo := H_HDO.out (F j) (acts.getD j ⟨0, 0, 0⟩)
      have hri := H_HRI.out j hjn
      have hrn := H_HRN.out j hjn
      generalize acts.getD j ⟨0, 0, 0⟩ = x at *
      generalize hFj : F j = st at *
      generalize doP ⟨k, l, d, b, cc, o⟩ st x = R at *
      obtain ⟨ak, anow, acost⟩ := x
      obtain ⟨sa, sl, sh, sL⟩ := st
      obtain ⟨⟨ra, rl, rh, rL⟩, rok⟩ := R
      dsimp only at s0 s1 s2 hLs x0 x1 x2 hst hri hrn
      unfold Ac.v at hdo
      unfold St.v Pol.v at hdo hri
      dsimp only at hdo hri
      have HDO := Go.Lib.hid hdo
      have HRI := Go.Lib.hid hri
      have HRN := Go.Lib.hid hrn
      have HST := Go.Lib.hid hst
      have HFJ := Go.Lib.hid hFj
      clear hdo hri hrn hst hFj H
      have k0 : (0 : Int) ≤ (j : Int) := by omega
      have k1 : (j : Int) < (m : Int) := by omega
      have hj1 : j + 1 ≤ m := hjn
      have hms : m - (j + 1) < m - j := by omega
      have wj : IntKind.i64.wrap ((j : Int) + 1) = (j : Int) + 1 := IntWalk.i64_in _ (by omega)
      have lb_p := World.block_lt_of_cell? wr _ p0
      have lb_s := World.block_lt_of_cell? wr _ s0
      have lb_x := World.block_lt_of_cell? wr _ x0
      dsimp only at lb_p lb_s lb_x
      go_wp2_with go_step3
      refine wp_region_held_drew (S := fun w' => w'.cell? ⟨w1.heap.size, 0, none⟩ = some (.int .i64 k) ∧ w'.cell? ⟨w1.heap.size, 1, none⟩ = some (.int .i64 l) ∧ w'.cell? ⟨w1.heap.size, 2, none⟩ = some (.int .i64 d) ∧ w'.cell? ⟨w1.heap.size, 3, none⟩ = some (.int .i64 b) ∧ w'.cell? ⟨w1.heap.size, 4, none⟩ = some (.int .i64 cc) ∧ w'.cell? ⟨w1.heap.size, 5, none⟩ = some (.bool o) ∧ w'.cell? ⟨w2.heap.size, 0, none⟩ = some (.int .i64 sa) ∧ w'.cell? ⟨w2.heap.size, 1, none⟩ = some (.int .i64 sl) ∧ w'.cell? ⟨w2.heap.size, 2, none⟩ = some (.int .i64 sh) ∧ w'.cell? ⟨w2.heap.size, 3, none⟩ = some (.slice a n c) ∧ w'.cell? ⟨xb, xo + j * 3, none⟩ = some (.int .i64 ak) ∧ w'.cell? ⟨xb, xo + j * 3 + 1, none⟩ = some (.int .i64 anow) ∧ w'.cell? ⟨xb, xo + j * 3 + 2, none⟩ = some (.int .i64 acost) ∧ ResB w' (w2.heap.size) ∧ LogAt w' a n c sL ∧ Below w.heap.size w w') (by kernel_rfl) ?_ (fun hHeld => ?_)
      · exact ⟨p0, p1, p2, p3, p4, p5, s0, s1, s2, s3, x0, x1, x2, sR, hLs, bl_drew hB⟩
      try simp only [Act.put, List.setIfInBounds_toArray, List.set_cons_zero, List.set_cons_succ]
      clear hB p0 p1 p2 p3 p4 p5 s0 s1 s2 s3 x0 x1 x2 sR hLs
      refine wpAnyH_abs (F := fun _ => True) hHeld trivial ?_
      clear hHeld
      rintro X0 hHeld -
      (refine tk (i := 0) rfl rfl hHeld ?_)
      (refine tk (i := 1) rfl rfl hHeld ?_)
      (refine tk (i := 2) rfl rfl hHeld ?_)
      (refine tk (i := 3) rfl rfl hHeld ?_)
      (refine tk (i := 4) rfl rfl hHeld ?_)
      (refine tk (i := 5) rfl rfl hHeld ?_)
      refine callC2 (i := 6) (j := 10) rfl rfl (fun K hK => ?y1_6) (fun K hK => ?y1_10)
      case' y1_6 =>
        obtain ⟨h_p0, h_p1, h_p2, h_p3, h_p4, h_p5, h_s0, h_s1, h_s2, h_s3, h_x0, h_x1, h_x2, h_sR, h_hLs, h_B⟩ := (id hHeld)
        go_simp
        refine (HDO.out _ _ _ _ h_hLs).mono ?_
        rintro e X6 ⟨a1, n1, c1, rfl, hLt, hSr, hb⟩
        have hOf1 := off_src hOff hSr (World.block_lt_of_cell? _ _ h_s0)
        have hFr := hSr
        clear hSr
        unfold St.v
        (try dsimp only)
        go_wp2_with fail
        refine hK.out _ _ ?_ (fun hHeld2 => ?_)
        · (try dsimp only); exact ⟨bl_cell hb h_p0, bl_cell hb h_p1, bl_cell hb h_p2, bl_cell hb h_p3, bl_cell hb h_p4, bl_cell hb h_p5, bl_cell hb h_s0, bl_cell hb h_s1, bl_cell hb h_s2, bl_cell hb h_s3, bl_cell hb h_x0, bl_cell hb h_x1, bl_cell hb h_x2, res_bl h_sR hb, log_bl h_hLs hb, bl_then h_B hb⟩
        clear hHeld hK K h_p0 h_p1 h_p2 h_p3 h_p4 h_p5 h_s0 h_s1 h_s2 h_s3 h_x0 h_x1 h_x2 h_sR h_hLs h_B hb
        have hHeld := hHeld2
        clear hHeld2
        try simp only [Act.put, List.setIfInBounds_toArray, List.set_cons_zero, List.set_cons_succ]
        (refine tk (i := 7) rfl rfl hHeld ?_)
        (refine tk (i := 8) rfl rfl hHeld ?_)
        (refine tk (i := 9) rfl rfl hHeld ?_)
        refine callC (i := 10) rfl (fun K hK => ?_)
        obtain ⟨h_p0, h_p1, h_p2, h_p3, h_p4, h_p5, h_s0, h_s1, h_s2, h_s3, h_x0, h_x1, h_x2, h_sR, h_hLs, h_B⟩ := (id hHeld)
        go_simp
        refine hK.out _ _ ?_ (fun hHeld2 => ?_)
        · (try dsimp only); exact ⟨bl_cell (bl_alloc (bl_refl _) _) h_p0, bl_cell (bl_alloc (bl_refl _) _) h_p1, bl_cell (bl_alloc (bl_refl _) _) h_p2, bl_cell (bl_alloc (bl_refl _) _) h_p3, bl_cell (bl_alloc (bl_refl _) _) h_p4, bl_cell (bl_alloc (bl_refl _) _) h_p5, bl_cell (bl_alloc (bl_refl _) _) h_s0, bl_cell (bl_alloc (bl_refl _) _) h_s1, bl_cell (bl_alloc (bl_refl _) _) h_s2, bl_cell (bl_alloc (bl_refl _) _) h_s3, bl_cell (bl_alloc (bl_refl _) _) h_x0, bl_cell (bl_alloc (bl_refl _) _) h_x1, bl_cell (bl_alloc (bl_refl _) _) h_x2, res_bl h_sR (bl_alloc (bl_refl _) _), log_bl h_hLs (bl_alloc (bl_refl _) _), bl_alloc h_B _⟩
        have rn0 := World.block_lt_of_cell? _ _ h_p0
        have rn1 := World.block_lt_of_cell? _ _ h_s0
        have rn2 := World.block_lt_of_cell? _ _ h_x0
        have LT_hLs := log_lt h_hLs
        dsimp only at rn0 rn1 rn2
        have rB := h_B.size
        have hne := log_lt hLt
        replace hLt := log_bl hLt (bl_alloc (bl_refl _) (.cells #[.int .i64 0, .int .i64 0, .int .i64 0, .slice none 0 0] 32))
        clear hHeld hK K h_p0 h_p1 h_p2 h_p3 h_p4 h_p5 h_s0 h_s1 h_s2 h_s3 h_x0 h_x1 h_x2 h_sR h_hLs h_B
        have hHeld := hHeld2
        clear hHeld2
        try simp only [Act.put, List.setIfInBounds_toArray, List.set_cons_zero, List.set_cons_succ]
        refine wpAnyH_abs (F := fun X => ResB X X6.heap.size ∧ LogAt X a1 n1 c1 rL) hHeld ⟨res_new _ _ _ _ _ _ rfl, hLt⟩ ?_
        clear hHeld hLt
        generalize X6.heap.size = r at *
        replace hne := fun ad e hn => Nat.ne_of_lt (hne ad e hn)
        rintro X10 hHeld ⟨hRes, hLt⟩
        refine callC (i := 11) rfl (fun K hK => ?_)
        obtain ⟨h_p0, h_p1, h_p2, h_p3, h_p4, h_p5, h_s0, h_s1, h_s2, h_s3, h_x0, h_x1, h_x2, h_sR, h_hLs, h_B⟩ := (id hHeld)
        obtain ⟨f0, f1, f2, f3, u0, u1, u2, u3, i0, i1, i2, i3⟩ := res_all hRes
        go_simp
        refine hK.out _ _ ?_ (fun hHeld2 => ?_)
        · (try dsimp only); exact ⟨far4 h_p0 (by dsimp only; omega), far4 h_p1 (by dsimp only; omega), far4 h_p2 (by dsimp only; omega), far4 h_p3 (by dsimp only; omega), far4 h_p4 (by dsimp only; omega), far4 h_p5 (by dsimp only; omega), far4 h_s0 (by dsimp only; omega), far4 h_s1 (by dsimp only; omega), far4 h_s2 (by dsimp only; omega), far4 h_s3 (by dsimp only; omega), far4 h_x0 (by dsimp only; omega), far4 h_x1 (by dsimp only; omega), far4 h_x2 (by dsimp only; omega), res4 h_sR, log_set4 h_hLs (fun ad e hn => by have := LT_hLs ad e hn; omega), bl4 h_B (by omega)⟩
        obtain ⟨z0, z1, z2, z3⟩ := set4r (v0 := .int .i64 ra) (v1 := .int .i64 rl) (v2 := .int .i64 rh) (v3 := .slice a1 n1 c1) hRes
        replace hLt := log_set4 (b := r) (v0 := .int .i64 ra) (v1 := .int .i64 rl) (v2 := .int .i64 rh) (v3 := .slice a1 n1 c1) hLt hne
        replace hRes := res4 (b := r) (v0 := .int .i64 ra) (v1 := .int .i64 rl) (v2 := .int .i64 rh) (v3 := .slice a1 n1 c1) hRes
        clear hHeld hK K h_p0 h_p1 h_p2 h_p3 h_p4 h_p5 h_s0 h_s1 h_s2 h_s3 h_x0 h_x1 h_x2 h_sR h_hLs h_B f0 f1 f2 f3 i0 i1 i2 i3 u0 u1 u2 u3
        have hHeld := hHeld2
        clear hHeld2
        try simp only [Act.put, List.setIfInBounds_toArray, List.set_cons_zero, List.set_cons_succ]
        (refine tk (i := 12) rfl rfl hHeld ?_)
        refine wpAnyH_done (by kernel_rfl) ?_ _
        refine then_abs (F := fun X => (fun w' => w'.cell? ⟨w1.heap.size, 0, none⟩ = some (.int .i64 k) ∧ w'.cell? ⟨w1.heap.size, 1, none⟩ = some (.int .i64 l) ∧ w'.cell? ⟨w1.heap.size, 2, none⟩ = some (.int .i64 d) ∧ w'.cell? ⟨w1.heap.size, 3, none⟩ = some (.int .i64 b) ∧ w'.cell? ⟨w1.heap.size, 4, none⟩ = some (.int .i64 cc) ∧ w'.cell? ⟨w1.heap.size, 5, none⟩ = some (.bool o) ∧ w'.cell? ⟨w2.heap.size, 0, none⟩ = some (.int .i64 sa) ∧ w'.cell? ⟨w2.heap.size, 1, none⟩ = some (.int .i64 sl) ∧ w'.cell? ⟨w2.heap.size, 2, none⟩ = some (.int .i64 sh) ∧ w'.cell? ⟨w2.heap.size, 3, none⟩ = some (.slice a n c) ∧ w'.cell? ⟨xb, xo + j * 3, none⟩ = some (.int .i64 ak) ∧ w'.cell? ⟨xb, xo + j * 3 + 1, none⟩ = some (.int .i64 anow) ∧ w'.cell? ⟨xb, xo + j * 3 + 2, none⟩ = some (.int .i64 acost) ∧ ResB w' (w2.heap.size) ∧ LogAt w' a n c sL ∧ Below w.heap.size w w') X ∧ X.cell? ⟨r, 0, none⟩ = some (.int .i64 ra) ∧ X.cell? ⟨r, 1, none⟩ = some (.int .i64 rl) ∧ X.cell? ⟨r, 2, none⟩ = some (.int .i64 rh) ∧ X.cell? ⟨r, 3, none⟩ = some (.slice a1 n1 c1) ∧ ResB X r ∧ LogAt X a1 n1 c1 rL) ⟨hHeld, z0, z1, z2, z3, hRes, hLt⟩ ?_
        clear hHeld z0 z1 z2 z3 hRes hLt
      case' y1_10 =>
        obtain ⟨h_p0, h_p1, h_p2, h_p3, h_p4, h_p5, h_s0, h_s1, h_s2, h_s3, h_x0, h_x1, h_x2, h_sR, h_hLs, h_B⟩ := (id hHeld)
        go_simp
        refine hK.out _ _ ?_ (fun hHeld2 => ?_)
        · (try dsimp only); exact ⟨bl_cell (bl_alloc (bl_refl _) _) h_p0, bl_cell (bl_alloc (bl_refl _) _) h_p1, bl_cell (bl_alloc (bl_refl _) _) h_p2, bl_cell (bl_alloc (bl_refl _) _) h_p3, bl_cell (bl_alloc (bl_refl _) _) h_p4, bl_cell (bl_alloc (bl_refl _) _) h_p5, bl_cell (bl_alloc (bl_refl _) _) h_s0, bl_cell (bl_alloc (bl_refl _) _) h_s1, bl_cell (bl_alloc (bl_refl _) _) h_s2, bl_cell (bl_alloc (bl_refl _) _) h_s3, bl_cell (bl_alloc (bl_refl _) _) h_x0, bl_cell (bl_alloc (bl_refl _) _) h_x1, bl_cell (bl_alloc (bl_refl _) _) h_x2, res_bl h_sR (bl_alloc (bl_refl _) _), log_bl h_hLs (bl_alloc (bl_refl _) _), bl_alloc h_B _⟩
        have rn0 := World.block_lt_of_cell? _ _ h_p0
        have rn1 := World.block_lt_of_cell? _ _ h_s0
        have rn2 := World.block_lt_of_cell? _ _ h_x0
        have LT_hLs := log_lt h_hLs
        dsimp only at rn0 rn1 rn2
        have rB := h_B.size
        clear hHeld hK K h_p0 h_p1 h_p2 h_p3 h_p4 h_p5 h_s0 h_s1 h_s2 h_s3 h_x0 h_x1 h_x2 h_sR h_hLs h_B
        have hHeld := hHeld2
        clear hHeld2
        try simp only [Act.put, List.setIfInBounds_toArray, List.set_cons_zero, List.set_cons_succ]
        refine wpAnyH_abs (F := fun X => ResB X X0.heap.size) hHeld (res_new _ _ _ _ _ _ rfl) ?_
        clear hHeld
        generalize X0.heap.size = r at *
        rintro X6 hHeld hRes
        refine callC (i := 6) rfl (fun K hK => ?_)
        obtain ⟨h_p0, h_p1, h_p2, h_p3, h_p4, h_p5, h_s0, h_s1, h_s2, h_s3, h_x0, h_x1, h_x2, h_sR, h_hLs, h_B⟩ := (id hHeld)
        go_simp
        refine (HDO.out _ _ _ _ h_hLs).mono ?_
        rintro e X7 ⟨a1, n1, c1, rfl, hLt, hSr, hb⟩
        have hOf1 := off_src hOff hSr (World.block_lt_of_cell? _ _ h_s0)
        have hFr := hSr
        clear hSr
        unfold St.v
        (try dsimp only)
        go_wp2_with fail
        refine hK.out _ _ ?_ (fun hHeld2 => ?_)
        · (try dsimp only); exact ⟨bl_cell hb h_p0, bl_cell hb h_p1, bl_cell hb h_p2, bl_cell hb h_p3, bl_cell hb h_p4, bl_cell hb h_p5, bl_cell hb h_s0, bl_cell hb h_s1, bl_cell hb h_s2, bl_cell hb h_s3, bl_cell hb h_x0, bl_cell hb h_x1, bl_cell hb h_x2, res_bl h_sR hb, log_bl h_hLs hb, bl_then h_B hb⟩
        have hrl := res_lt hRes
        have hne : ∀ ad, a1 = some ad → n1 ≠ 0 → ad.block ≠ r := fun ad e hn => by rcases hFr with h | ⟨rfl, rfl⟩ | h; exact absurd h hn; exact Nat.ne_of_lt (LT_hLs ad e hn); have := h ad e; omega
        clear hrl
        replace hRes := res_bl hRes hb
        clear hHeld hK K h_p0 h_p1 h_p2 h_p3 h_p4 h_p5 h_s0 h_s1 h_s2 h_s3 h_x0 h_x1 h_x2 h_sR h_hLs h_B hb
        have hHeld := hHeld2
        clear hHeld2
        try simp only [Act.put, List.setIfInBounds_toArray, List.set_cons_zero, List.set_cons_succ]
        (refine tk (i := 7) rfl rfl hHeld ?_)
        (refine tk (i := 8) rfl rfl hHeld ?_)
        (refine tk (i := 9) rfl rfl hHeld ?_)
        refine callC (i := 11) rfl (fun K hK => ?_)
        obtain ⟨h_p0, h_p1, h_p2, h_p3, h_p4, h_p5, h_s0, h_s1, h_s2, h_s3, h_x0, h_x1, h_x2, h_sR, h_hLs, h_B⟩ := (id hHeld)
        obtain ⟨f0, f1, f2, f3, u0, u1, u2, u3, i0, i1, i2, i3⟩ := res_all hRes
        go_simp
        refine hK.out _ _ ?_ (fun hHeld2 => ?_)
        · (try dsimp only); exact ⟨far4 h_p0 (by dsimp only; omega), far4 h_p1 (by dsimp only; omega), far4 h_p2 (by dsimp only; omega), far4 h_p3 (by dsimp only; omega), far4 h_p4 (by dsimp only; omega), far4 h_p5 (by dsimp only; omega), far4 h_s0 (by dsimp only; omega), far4 h_s1 (by dsimp only; omega), far4 h_s2 (by dsimp only; omega), far4 h_s3 (by dsimp only; omega), far4 h_x0 (by dsimp only; omega), far4 h_x1 (by dsimp only; omega), far4 h_x2 (by dsimp only; omega), res4 h_sR, log_set4 h_hLs (fun ad e hn => by have := LT_hLs ad e hn; omega), bl4 h_B (by omega)⟩
        obtain ⟨z0, z1, z2, z3⟩ := set4r (v0 := .int .i64 ra) (v1 := .int .i64 rl) (v2 := .int .i64 rh) (v3 := .slice a1 n1 c1) hRes
        replace hLt := log_set4 (b := r) (v0 := .int .i64 ra) (v1 := .int .i64 rl) (v2 := .int .i64 rh) (v3 := .slice a1 n1 c1) hLt hne
        replace hRes := res4 (b := r) (v0 := .int .i64 ra) (v1 := .int .i64 rl) (v2 := .int .i64 rh) (v3 := .slice a1 n1 c1) hRes
        clear hHeld hK K h_p0 h_p1 h_p2 h_p3 h_p4 h_p5 h_s0 h_s1 h_s2 h_s3 h_x0 h_x1 h_x2 h_sR h_hLs h_B f0 f1 f2 f3 i0 i1 i2 i3 u0 u1 u2 u3
        have hHeld := hHeld2
        clear hHeld2
        try simp only [Act.put, List.setIfInBounds_toArray, List.set_cons_zero, List.set_cons_succ]
        (refine tk (i := 12) rfl rfl hHeld ?_)
        refine wpAnyH_done (by kernel_rfl) ?_ _
        refine then_abs (F := fun X => (fun w' => w'.cell? ⟨w1.heap.size, 0, none⟩ = some (.int .i64 k) ∧ w'.cell? ⟨w1.heap.size, 1, none⟩ = some (.int .i64 l) ∧ w'.cell? ⟨w1.heap.size, 2, none⟩ = some (.int .i64 d) ∧ w'.cell? ⟨w1.heap.size, 3, none⟩ = some (.int .i64 b) ∧ w'.cell? ⟨w1.heap.size, 4, none⟩ = some (.int .i64 cc) ∧ w'.cell? ⟨w1.heap.size, 5, none⟩ = some (.bool o) ∧ w'.cell? ⟨w2.heap.size, 0, none⟩ = some (.int .i64 sa) ∧ w'.cell? ⟨w2.heap.size, 1, none⟩ = some (.int .i64 sl) ∧ w'.cell? ⟨w2.heap.size, 2, none⟩ = some (.int .i64 sh) ∧ w'.cell? ⟨w2.heap.size, 3, none⟩ = some (.slice a n c) ∧ w'.cell? ⟨xb, xo + j * 3, none⟩ = some (.int .i64 ak) ∧ w'.cell? ⟨xb, xo + j * 3 + 1, none⟩ = some (.int .i64 anow) ∧ w'.cell? ⟨xb, xo + j * 3 + 2, none⟩ = some (.int .i64 acost) ∧ ResB w' (w2.heap.size) ∧ LogAt w' a n c sL ∧ Below w.heap.size w w') X ∧ X.cell? ⟨r, 0, none⟩ = some (.int .i64 ra) ∧ X.cell? ⟨r, 1, none⟩ = some (.int .i64 rl) ∧ X.cell? ⟨r, 2, none⟩ = some (.int .i64 rh) ∧ X.cell? ⟨r, 3, none⟩ = some (.slice a1 n1 c1) ∧ ResB X r ∧ LogAt X a1 n1 c1 rL) ⟨hHeld, z0, z1, z2, z3, hRes, hLt⟩ ?_
        clear hHeld z0 z1 z2 z3 hRes hLt
      all_goals rintro w4 ⟨⟨p0, p1, p2, p3, p4, p5, s0, s1, s2, s3, x0, x1, x2, sR, hLs, hB⟩, r0, r1, r2, r3, rR, hLt⟩
      all_goals
        replace lb_p := World.block_lt_of_cell? w4 _ p0
        dsimp only at lb_p
        replace lb_s := World.block_lt_of_cell? w4 _ s0
        dsimp only at lb_s
        replace lb_x := World.block_lt_of_cell? w4 _ x0
        dsimp only at lb_x
        have lb_r := World.block_lt_of_cell? w4 _ r0
        dsimp only at lb_r
        cases rok
        · have hx := HRN.out rfl
          injection hx with hx1 hx2 hx3 hx4
          subst hx1 hx2 hx3 hx4
          have hnn : n1 = n := hLt.1.symm.trans hLs.1
          subst hnn
          go_wp2_with go_step3
          refine (H_HSAME.out ⟨ra, rl, rh, rL⟩ _ _ _ _ _ _ hLt hLs).mono ?_
          rintro e w5 ⟨rfl, hb⟩
          have hsz4 : w4.heap.size + 0 ≤ w5.heap.size := by have h := hb.size; (try simp at h); omega
          replace p0 := bl_cell hb p0
          replace p1 := bl_cell hb p1
          replace p2 := bl_cell hb p2
          replace p3 := bl_cell hb p3
          replace p4 := bl_cell hb p4
          replace p5 := bl_cell hb p5
          replace s0 := bl_cell hb s0
          replace s1 := bl_cell hb s1
          replace s2 := bl_cell hb s2
          replace s3 := bl_cell hb s3
          replace x0 := bl_cell hb x0
          replace x1 := bl_cell hb x1
          replace x2 := bl_cell hb x2
          replace sR := res_bl sR hb
          replace hLs := log_bl hLs hb
          replace r0 := bl_cell hb r0
          replace r1 := bl_cell hb r1
          replace r2 := bl_cell hb r2
          replace r3 := bl_cell hb r3
          replace rR := res_bl rR hb
          replace hLt := log_bl hLt hb
          replace hB : Below w.heap.size w w5 := bl_then hB hb
          replace lb_p := World.block_lt_of_cell? w5 _ p0
          dsimp only at lb_p
          replace lb_s := World.block_lt_of_cell? w5 _ s0
          dsimp only at lb_s
          replace lb_x := World.block_lt_of_cell? w5 _ x0
          dsimp only at lb_x
          replace lb_r := World.block_lt_of_cell? w5 _ r0
          dsimp only at lb_r
          clear hb
          clear hLs
          go_wp2_with go_step3
          refine (HRI.out _ _ _ _ hLt).mono ?_
          rintro e w6 ⟨rfl, hb⟩
          have hsz5 : w5.heap.size + 0 ≤ w6.heap.size := by have h := hb.size; (try simp at h); omega
          replace p0 := bl_cell hb p0
          replace p1 := bl_cell hb p1
          replace p2 := bl_cell hb p2
          replace p3 := bl_cell hb p3
          replace p4 := bl_cell hb p4
          replace p5 := bl_cell hb p5
          replace s0 := bl_cell hb s0
          replace s1 := bl_cell hb s1
          replace s2 := bl_cell hb s2
          replace s3 := bl_cell hb s3
          replace x0 := bl_cell hb x0
          replace x1 := bl_cell hb x1
          replace x2 := bl_cell hb x2
          replace sR := res_bl sR hb
          replace r0 := bl_cell hb r0
          replace r1 := bl_cell hb r1
          replace r2 := bl_cell hb r2
          replace r3 := bl_cell hb r3
          replace rR := res_bl rR hb
          replace hLt := log_bl hLt hb
          replace hB : Below w.heap.size w w6 := bl_then hB hb
          replace lb_p := World.block_lt_of_cell? w6 _ p0
          dsimp only at lb_p
          replace lb_s := World.block_lt_of_cell? w6 _ s0
          dsimp only at lb_s
          replace lb_x := World.block_lt_of_cell? w6 _ x0
          dsimp only at lb_x
          replace lb_r := World.block_lt_of_cell? w6 _ r0
          dsimp only at lb_r
          clear hb
          clear x0 x1 x2 lb_x
          obtain ⟨fr0, fr1, fr2, fr3, -⟩ := res_all sR
          go_wp2_with go_step3
          obtain ⟨z0, z1, z2, z3⟩ := set4r (v0 := .int .i64 ra) (v1 := .int .i64 rl) (v2 := .int .i64 rh) (v3 := .slice a1 n1 c1) sR
          replace p0 := far4 (b := w2.heap.size) (v0 := .int .i64 ra) (v1 := .int .i64 rl) (v2 := .int .i64 rh) (v3 := .slice a1 n1 c1) p0 (by dsimp only; omega)
          replace p1 := far4 (b := w2.heap.size) (v0 := .int .i64 ra) (v1 := .int .i64 rl) (v2 := .int .i64 rh) (v3 := .slice a1 n1 c1) p1 (by dsimp only; omega)
          replace p2 := far4 (b := w2.heap.size) (v0 := .int .i64 ra) (v1 := .int .i64 rl) (v2 := .int .i64 rh) (v3 := .slice a1 n1 c1) p2 (by dsimp only; omega)
          replace p3 := far4 (b := w2.heap.size) (v0 := .int .i64 ra) (v1 := .int .i64 rl) (v2 := .int .i64 rh) (v3 := .slice a1 n1 c1) p3 (by dsimp only; omega)
          replace p4 := far4 (b := w2.heap.size) (v0 := .int .i64 ra) (v1 := .int .i64 rl) (v2 := .int .i64 rh) (v3 := .slice a1 n1 c1) p4 (by dsimp only; omega)
          replace p5 := far4 (b := w2.heap.size) (v0 := .int .i64 ra) (v1 := .int .i64 rl) (v2 := .int .i64 rh) (v3 := .slice a1 n1 c1) p5 (by dsimp only; omega)
          replace s0 := z0
          replace s1 := z1
          replace s2 := z2
          replace s3 := z3
          replace sR := res4 (b := w2.heap.size) (v0 := .int .i64 ra) (v1 := .int .i64 rl) (v2 := .int .i64 rh) (v3 := .slice a1 n1 c1) sR
          replace r0 := far4 (b := w2.heap.size) (v0 := .int .i64 ra) (v1 := .int .i64 rl) (v2 := .int .i64 rh) (v3 := .slice a1 n1 c1) r0 (by dsimp only; omega)
          replace r1 := far4 (b := w2.heap.size) (v0 := .int .i64 ra) (v1 := .int .i64 rl) (v2 := .int .i64 rh) (v3 := .slice a1 n1 c1) r1 (by dsimp only; omega)
          replace r2 := far4 (b := w2.heap.size) (v0 := .int .i64 ra) (v1 := .int .i64 rl) (v2 := .int .i64 rh) (v3 := .slice a1 n1 c1) r2 (by dsimp only; omega)
          replace r3 := far4 (b := w2.heap.size) (v0 := .int .i64 ra) (v1 := .int .i64 rl) (v2 := .int .i64 rh) (v3 := .slice a1 n1 c1) r3 (by dsimp only; omega)
          replace rR := res4 (b := w2.heap.size) (v0 := .int .i64 ra) (v1 := .int .i64 rl) (v2 := .int .i64 rh) (v3 := .slice a1 n1 c1) rR
          replace hLt := log_set4 (b := w2.heap.size) (v0 := .int .i64 ra) (v1 := .int .i64 rl) (v2 := .int .i64 rh) (v3 := .slice a1 n1 c1) hLt hOf1
          replace hB := bl4 (b := w2.heap.size) (v0 := .int .i64 ra) (v1 := .int .i64 rl) (v2 := .int .i64 rh) (v3 := .slice a1 n1 c1) hB (by omega)
          clear z0 z1 z2 z3 fr0 fr1 fr2 fr3
          go_roundw
          case rel => exact ⟨j + 1, by go_num, hj1, ⟨a1, n1, c1, p0, p1, p2, p3, p4, p5, by rw [HST.out]; exact s0, by rw [HST.out]; exact s1, by rw [HST.out]; exact s2, s3, sR, by rw [HST.out]; exact hLt, hB, hOf1⟩⟩
          case measure => (simp [intOf]; first | exact hms | omega)
        · skip
          clear hLs
          go_wp2_with go_step3
          refine (HRI.out _ _ _ _ hLt).mono ?_
          rintro e w5 ⟨rfl, hb⟩
          have hsz4 : w4.heap.size + 0 ≤ w5.heap.size := by have h := hb.size; (try simp at h); omega
          replace p0 := bl_cell hb p0
          replace p1 := bl_cell hb p1
          replace p2 := bl_cell hb p2
          replace p3 := bl_cell hb p3
          replace p4 := bl_cell hb p4
          replace p5 := bl_cell hb p5
          replace s0 := bl_cell hb s0
          replace s1 := bl_cell hb s1
          replace s2 := bl_cell hb s2
          replace s3 := bl_cell hb s3
          replace x0 := bl_cell hb x0
          replace x1 := bl_cell hb x1
          replace x2 := bl_cell hb x2
          replace sR := res_bl sR hb
          replace r0 := bl_cell hb r0
          replace r1 := bl_cell hb r1
          replace r2 := bl_cell hb r2
          replace r3 := bl_cell hb r3
          replace rR := res_bl rR hb
          replace hLt := log_bl hLt hb
          replace hB : Below w.heap.size w w5 := bl_then hB hb
          replace lb_p := World.block_lt_of_cell? w5 _ p0
          dsimp only at lb_p
          replace lb_s := World.block_lt_of_cell? w5 _ s0
          dsimp only at lb_s
          replace lb_x := World.block_lt_of_cell? w5 _ x0
          dsimp only at lb_x
          replace lb_r := World.block_lt_of_cell? w5 _ r0
          dsimp only at lb_r
          clear hb
          clear x0 x1 x2 lb_x
          obtain ⟨fr0, fr1, fr2, fr3, -⟩ := res_all sR
          go_wp2_with go_step3
          obtain ⟨z0, z1, z2, z3⟩ := set4r (v0 := .int .i64 ra) (v1 := .int .i64 rl) (v2 := .int .i64 rh) (v3 := .slice a1 n1 c1) sR
          replace p0 := far4 (b := w2.heap.size) (v0 := .int .i64 ra) (v1 := .int .i64 rl) (v2 := .int .i64 rh) (v3 := .slice a1 n1 c1) p0 (by dsimp only; omega)
          replace p1 := far4 (b := w2.heap.size) (v0 := .int .i64 ra) (v1 := .int .i64 rl) (v2 := .int .i64 rh) (v3 := .slice a1 n1 c1) p1 (by dsimp only; omega)
          replace p2 := far4 (b := w2.heap.size) (v0 := .int .i64 ra) (v1 := .int .i64 rl) (v2 := .int .i64 rh) (v3 := .slice a1 n1 c1) p2 (by dsimp only; omega)
          replace p3 := far4 (b := w2.heap.size) (v0 := .int .i64 ra) (v1 := .int .i64 rl) (v2 := .int .i64 rh) (v3 := .slice a1 n1 c1) p3 (by dsimp only; omega)
          replace p4 := far4 (b := w2.heap.size) (v0 := .int .i64 ra) (v1 := .int .i64 rl) (v2 := .int .i64 rh) (v3 := .slice a1 n1 c1) p4 (by dsimp only; omega)
          replace p5 := far4 (b := w2.heap.size) (v0 := .int .i64 ra) (v1 := .int .i64 rl) (v2 := .int .i64 rh) (v3 := .slice a1 n1 c1) p5 (by dsimp only; omega)
          replace s0 := z0
          replace s1 := z1
          replace s2 := z2
          replace s3 := z3
          replace sR := res4 (b := w2.heap.size) (v0 := .int .i64 ra) (v1 := .int .i64 rl) (v2 := .int .i64 rh) (v3 := .slice a1 n1 c1) sR
          replace r0 := far4 (b := w2.heap.size) (v0 := .int .i64 ra) (v1 := .int .i64 rl) (v2 := .int .i64 rh) (v3 := .slice a1 n1 c1) r0 (by dsimp only; omega)
          replace r1 := far4 (b := w2.heap.size) (v0 := .int .i64 ra) (v1 := .int .i64 rl) (v2 := .int .i64 rh) (v3 := .slice a1 n1 c1) r1 (by dsimp only; omega)
          replace r2 := far4 (b := w2.heap.size) (v0 := .int .i64 ra) (v1 := .int .i64 rl) (v2 := .int .i64 rh) (v3 := .slice a1 n1 c1) r2 (by dsimp only; omega)
          replace r3 := far4 (b := w2.heap.size) (v0 := .int .i64 ra) (v1 := .int .i64 rl) (v2 := .int .i64 rh) (v3 := .slice a1 n1 c1) r3 (by dsimp only; omega)
          replace rR := res4 (b := w2.heap.size) (v0 := .int .i64 ra) (v1 := .int .i64 rl) (v2 := .int .i64 rh) (v3 := .slice a1 n1 c1) rR
          replace hLt := log_set4 (b := w2.heap.size) (v0 := .int .i64 ra) (v1 := .int .i64 rl) (v2 := .int .i64 rh) (v3 := .slice a1 n1 c1) hLt hOf1
          replace hB := bl4 (b := w2.heap.size) (v0 := .int .i64 ra) (v1 := .int .i64 rl) (v2 := .int .i64 rh) (v3 := .slice a1 n1 c1) hB (by omega)
          clear z0 z1 z2 z3 fr0 fr1 fr2 fr3
          go_roundw
          case rel => exact ⟨j + 1, by go_num, hj1, ⟨a1, n1, c1, p0, p1, p2, p3, p4, p5, by rw [HST.out]; exact s0, by rw [HST.out]; exact s1, by rw [HST.out]; exact s2, s3, sR, by rw [HST.out]; exact hLt, hB, hOf1⟩⟩
          case measure => (simp [intOf]; first | exact hms | omega)
    · have hje : m = j := by omega
      subst hje
      rw [H_HEND.out] at s0 s1 s2 hLs
      have hdH := H_HDH.out
      have hdT := H_HDT.out
      have hrm := H_HRM.out
      have hdR := H_HDR.out
      have hdC := H_HDC.out
      have hav := H_HAV.out
      obtain ⟨e1, e2, hbk⟩ := HFIN.out
      clear H_HDH H_HDT H_HRM H_HDR H_HDC H_HAV HFIN H H_HEND H_HST H_HRI H_HRN H_H0 H_HDO
      obtain ⟨sa, sl, sh, sL⟩ := s
      obtain ⟨⟨ha, hl, hh, hL⟩, hok⟩ := RH
      obtain ⟨⟨ta, tl, th, tL⟩, tok⟩ := RT
      obtain ⟨⟨da, dl, dh, dL⟩, rok⟩ := RR
      obtain ⟨⟨ca, cl, ch, cL⟩, cok⟩ := RC
      obtain ⟨va, vl, vh, vL⟩ := AD
      unfold Ac.v St.v Pol.v at hdH hdT hdR hdC
      unfold St.v Pol.v at hrm hav
      dsimp only at hdH hdT hdR hdC hrm hav e1 e2 hbk s0 s1 s2 hLs
      obtain ⟨g, hg⟩ : ∃ g, decide (1 + cost ≤ RM) = g := ⟨_, rfl⟩
      rw [hg] at e1 e2
      replace e1 := e1.symm
      replace e2 := e2.symm
      subst e1 e2
      have HBK := Go.Lib.hid hbk
      have HG := Go.Lib.hid hg
      clear hbk
      have H_HDH := Go.Lib.hid hdH
      have H_HDT := Go.Lib.hid hdT
      have H_HRM := Go.Lib.hid hrm
      have H_HDR := Go.Lib.hid hdR
      have H_HDC := Go.Lib.hid hdC
      have H_HAV := Go.Lib.hid hav
      clear hdH hdT hrm hdR hdC hav
      have lb_p := World.block_lt_of_cell? wr _ p0
      dsimp only at lb_p
      have lb_s := World.block_lt_of_cell? wr _ s0
      dsimp only at lb_s
      cases g
      · skip
        go_wp2_with go_step3
        refine (H_HDH.out _ _ _ _ hLs).mono ?_
        rintro e w5 ⟨a4, n4, c4, rfl, hL4, -, hb⟩
        have hsz4 : wr.heap.size + 0 ≤ w5.heap.size := by have h := hb.size; (try simp at h); omega
        replace p0 := bl_cell hb p0
        replace p1 := bl_cell hb p1
        replace p2 := bl_cell hb p2
        replace p3 := bl_cell hb p3
        replace p4 := bl_cell hb p4
        replace p5 := bl_cell hb p5
        replace s0 := bl_cell hb s0
        replace s1 := bl_cell hb s1
        replace s2 := bl_cell hb s2
        replace s3 := bl_cell hb s3
        replace hLs := log_bl hLs hb
        replace hB : Below w.heap.size w w5 := bl_then hB hb
        replace lb_p := World.block_lt_of_cell? w5 _ p0
        dsimp only at lb_p
        replace lb_s := World.block_lt_of_cell? w5 _ s0
        dsimp only at lb_s
        clear hb
        unfold St.v
        (try dsimp only)
        go_wp2_with go_step3
        refine (H_HDT.out _ _ _ _ (log_bl hLs (bl_alloc (bl_refl _) _))).mono ?_
        rintro e w6 ⟨a6, n6, c6, rfl, hL6, -, hb⟩
        have hx : Below w5.heap.size w5 w6 := bl_then (bl_alloc (bl_refl _) _) hb
        have hsz5 : w5.heap.size + 1 ≤ w6.heap.size := by have h := hb.size; (try simp at h); omega
        replace p0 := bl_cell hx p0
        replace p1 := bl_cell hx p1
        replace p2 := bl_cell hx p2
        replace p3 := bl_cell hx p3
        replace p4 := bl_cell hx p4
        replace p5 := bl_cell hx p5
        replace s0 := bl_cell hx s0
        replace s1 := bl_cell hx s1
        replace s2 := bl_cell hx s2
        replace s3 := bl_cell hx s3
        replace hLs := log_bl hLs hx
        replace hL4 := log_bl hL4 hx
        have h0 := bl_cell (v := .int .i64 ha) hb (show World.cell? _ ⟨w5.heap.size, 0, none⟩ = _ by go_simp)
        have h1 := bl_cell (v := .int .i64 hl) hb (show World.cell? _ ⟨w5.heap.size, 1, none⟩ = _ by go_simp)
        have h2 := bl_cell (v := .int .i64 hh) hb (show World.cell? _ ⟨w5.heap.size, 2, none⟩ = _ by go_simp)
        have h3 := bl_cell (v := .slice a4 n4 c4) hb (show World.cell? _ ⟨w5.heap.size, 3, none⟩ = _ by go_simp)
        replace hB : Below w.heap.size w w6 := bl_then hB hx
        replace lb_p := World.block_lt_of_cell? w6 _ p0
        dsimp only at lb_p
        replace lb_s := World.block_lt_of_cell? w6 _ s0
        dsimp only at lb_s
        have lb_h := World.block_lt_of_cell? w6 _ h0
        dsimp only at lb_h
        clear hb hx
        unfold St.v
        (try dsimp only)
        go_wp2_with go_step3
        refine (H_HRM.out _ _ _ _ (log_bl hLs (bl_alloc (bl_refl _) _))).mono ?_
        rintro e w7 ⟨rfl, hb⟩
        have hx : Below w6.heap.size w6 w7 := bl_then (bl_alloc (bl_refl _) _) hb
        have hsz6 : w6.heap.size + 1 ≤ w7.heap.size := by have h := hb.size; (try simp at h); omega
        replace p0 := bl_cell hx p0
        replace p1 := bl_cell hx p1
        replace p2 := bl_cell hx p2
        replace p3 := bl_cell hx p3
        replace p4 := bl_cell hx p4
        replace p5 := bl_cell hx p5
        replace s0 := bl_cell hx s0
        replace s1 := bl_cell hx s1
        replace s2 := bl_cell hx s2
        replace s3 := bl_cell hx s3
        replace hLs := log_bl hLs hx
        replace hL4 := log_bl hL4 hx
        replace h0 := bl_cell hx h0
        replace h1 := bl_cell hx h1
        replace h2 := bl_cell hx h2
        replace h3 := bl_cell hx h3
        replace hL6 := log_bl hL6 hx
        have kk0 := bl_cell (v := .int .i64 ta) hb (show World.cell? _ ⟨w6.heap.size, 0, none⟩ = _ by go_simp)
        have kk1 := bl_cell (v := .int .i64 tl) hb (show World.cell? _ ⟨w6.heap.size, 1, none⟩ = _ by go_simp)
        have kk2 := bl_cell (v := .int .i64 th) hb (show World.cell? _ ⟨w6.heap.size, 2, none⟩ = _ by go_simp)
        have kk3 := bl_cell (v := .slice a6 n6 c6) hb (show World.cell? _ ⟨w6.heap.size, 3, none⟩ = _ by go_simp)
        replace hB : Below w.heap.size w w7 := bl_then hB hx
        replace lb_p := World.block_lt_of_cell? w7 _ p0
        dsimp only at lb_p
        replace lb_s := World.block_lt_of_cell? w7 _ s0
        dsimp only at lb_s
        replace lb_h := World.block_lt_of_cell? w7 _ h0
        dsimp only at lb_h
        have lb_kk := World.block_lt_of_cell? w7 _ kk0
        dsimp only at lb_kk
        clear hb hx
        go_wp2_with go_step3
        refine (H_HKN.out _).mono ?_
        rintro e w8 ⟨rfl, hb⟩
        have hsz7 : w7.heap.size + 0 ≤ w8.heap.size := by have h := hb.size; (try simp at h); omega
        replace p0 := bl_cell hb p0
        replace p1 := bl_cell hb p1
        replace p2 := bl_cell hb p2
        replace p3 := bl_cell hb p3
        replace p4 := bl_cell hb p4
        replace p5 := bl_cell hb p5
        replace s0 := bl_cell hb s0
        replace s1 := bl_cell hb s1
        replace s2 := bl_cell hb s2
        replace s3 := bl_cell hb s3
        replace hLs := log_bl hLs hb
        replace hL4 := log_bl hL4 hb
        replace h0 := bl_cell hb h0
        replace h1 := bl_cell hb h1
        replace h2 := bl_cell hb h2
        replace h3 := bl_cell hb h3
        replace hL6 := log_bl hL6 hb
        replace kk0 := bl_cell hb kk0
        replace kk1 := bl_cell hb kk1
        replace kk2 := bl_cell hb kk2
        replace kk3 := bl_cell hb kk3
        replace hB : Below w.heap.size w w8 := bl_then hB hb
        replace lb_p := World.block_lt_of_cell? w8 _ p0
        dsimp only at lb_p
        replace lb_s := World.block_lt_of_cell? w8 _ s0
        dsimp only at lb_s
        replace lb_h := World.block_lt_of_cell? w8 _ h0
        dsimp only at lb_h
        replace lb_kk := World.block_lt_of_cell? w8 _ kk0
        dsimp only at lb_kk
        clear hb
        go_wp2_with go_step3
        go_ret
        exact ⟨rfl, hB⟩
      · skip
        go_wp2_with go_step3
        refine (H_HDH.out _ _ _ _ hLs).mono ?_
        rintro e w5 ⟨a4, n4, c4, rfl, hL4, -, hb⟩
        have hsz4 : wr.heap.size + 0 ≤ w5.heap.size := by have h := hb.size; (try simp at h); omega
        replace p0 := bl_cell hb p0
        replace p1 := bl_cell hb p1
        replace p2 := bl_cell hb p2
        replace p3 := bl_cell hb p3
        replace p4 := bl_cell hb p4
        replace p5 := bl_cell hb p5
        replace s0 := bl_cell hb s0
        replace s1 := bl_cell hb s1
        replace s2 := bl_cell hb s2
        replace s3 := bl_cell hb s3
        replace hLs := log_bl hLs hb
        replace hB : Below w.heap.size w w5 := bl_then hB hb
        replace lb_p := World.block_lt_of_cell? w5 _ p0
        dsimp only at lb_p
        replace lb_s := World.block_lt_of_cell? w5 _ s0
        dsimp only at lb_s
        clear hb
        unfold St.v
        (try dsimp only)
        go_wp2_with go_step3
        refine (H_HDT.out _ _ _ _ (log_bl hLs (bl_alloc (bl_refl _) _))).mono ?_
        rintro e w6 ⟨a6, n6, c6, rfl, hL6, -, hb⟩
        have hx : Below w5.heap.size w5 w6 := bl_then (bl_alloc (bl_refl _) _) hb
        have hsz5 : w5.heap.size + 1 ≤ w6.heap.size := by have h := hb.size; (try simp at h); omega
        replace p0 := bl_cell hx p0
        replace p1 := bl_cell hx p1
        replace p2 := bl_cell hx p2
        replace p3 := bl_cell hx p3
        replace p4 := bl_cell hx p4
        replace p5 := bl_cell hx p5
        replace s0 := bl_cell hx s0
        replace s1 := bl_cell hx s1
        replace s2 := bl_cell hx s2
        replace s3 := bl_cell hx s3
        replace hLs := log_bl hLs hx
        replace hL4 := log_bl hL4 hx
        have h0 := bl_cell (v := .int .i64 ha) hb (show World.cell? _ ⟨w5.heap.size, 0, none⟩ = _ by go_simp)
        have h1 := bl_cell (v := .int .i64 hl) hb (show World.cell? _ ⟨w5.heap.size, 1, none⟩ = _ by go_simp)
        have h2 := bl_cell (v := .int .i64 hh) hb (show World.cell? _ ⟨w5.heap.size, 2, none⟩ = _ by go_simp)
        have h3 := bl_cell (v := .slice a4 n4 c4) hb (show World.cell? _ ⟨w5.heap.size, 3, none⟩ = _ by go_simp)
        replace hB : Below w.heap.size w w6 := bl_then hB hx
        replace lb_p := World.block_lt_of_cell? w6 _ p0
        dsimp only at lb_p
        replace lb_s := World.block_lt_of_cell? w6 _ s0
        dsimp only at lb_s
        have lb_h := World.block_lt_of_cell? w6 _ h0
        dsimp only at lb_h
        clear hb hx
        unfold St.v
        (try dsimp only)
        go_wp2_with go_step3
        refine (H_HRM.out _ _ _ _ (log_bl hLs (bl_alloc (bl_refl _) _))).mono ?_
        rintro e w7 ⟨rfl, hb⟩
        have hx : Below w6.heap.size w6 w7 := bl_then (bl_alloc (bl_refl _) _) hb
        have hsz6 : w6.heap.size + 1 ≤ w7.heap.size := by have h := hb.size; (try simp at h); omega
        replace p0 := bl_cell hx p0
        replace p1 := bl_cell hx p1
        replace p2 := bl_cell hx p2
        replace p3 := bl_cell hx p3
        replace p4 := bl_cell hx p4
        replace p5 := bl_cell hx p5
        replace s0 := bl_cell hx s0
        replace s1 := bl_cell hx s1
        replace s2 := bl_cell hx s2
        replace s3 := bl_cell hx s3
        replace hLs := log_bl hLs hx
        replace hL4 := log_bl hL4 hx
        replace h0 := bl_cell hx h0
        replace h1 := bl_cell hx h1
        replace h2 := bl_cell hx h2
        replace h3 := bl_cell hx h3
        replace hL6 := log_bl hL6 hx
        have kk0 := bl_cell (v := .int .i64 ta) hb (show World.cell? _ ⟨w6.heap.size, 0, none⟩ = _ by go_simp)
        have kk1 := bl_cell (v := .int .i64 tl) hb (show World.cell? _ ⟨w6.heap.size, 1, none⟩ = _ by go_simp)
        have kk2 := bl_cell (v := .int .i64 th) hb (show World.cell? _ ⟨w6.heap.size, 2, none⟩ = _ by go_simp)
        have kk3 := bl_cell (v := .slice a6 n6 c6) hb (show World.cell? _ ⟨w6.heap.size, 3, none⟩ = _ by go_simp)
        replace hB : Below w.heap.size w w7 := bl_then hB hx
        replace lb_p := World.block_lt_of_cell? w7 _ p0
        dsimp only at lb_p
        replace lb_s := World.block_lt_of_cell? w7 _ s0
        dsimp only at lb_s
        replace lb_h := World.block_lt_of_cell? w7 _ h0
        dsimp only at lb_h
        have lb_kk := World.block_lt_of_cell? w7 _ kk0
        dsimp only at lb_kk
        clear hb hx
        go_wp2_with go_step3
        obtain ⟨hb1, hb2⟩ := HBK.out (by simpa using hg)
        injection hb1 with hb3 hb4
        injection hb3 with hb5 hb6 hb7 hb8
        injection hb2 with hb9 hb10
        injection hb9 with hb11 hb12 hb13 hb14
        subst hb4 hb5 hb6 hb7 hb8 hb10 hb11 hb12 hb13 hb14
        refine (H_HDR.out _ _ _ _ hL4).mono ?_
        rintro e w8 ⟨a7, n7, c7, rfl, hL7, -, hb⟩
        have hsz7 : w7.heap.size + 0 ≤ w8.heap.size := by have h := hb.size; (try simp at h); omega
        replace p0 := bl_cell hb p0
        replace p1 := bl_cell hb p1
        replace p2 := bl_cell hb p2
        replace p3 := bl_cell hb p3
        replace p4 := bl_cell hb p4
        replace p5 := bl_cell hb p5
        replace s0 := bl_cell hb s0
        replace s1 := bl_cell hb s1
        replace s2 := bl_cell hb s2
        replace s3 := bl_cell hb s3
        replace hLs := log_bl hLs hb
        replace hL4 := log_bl hL4 hb
        replace h0 := bl_cell hb h0
        replace h1 := bl_cell hb h1
        replace h2 := bl_cell hb h2
        replace h3 := bl_cell hb h3
        replace hL6 := log_bl hL6 hb
        replace kk0 := bl_cell hb kk0
        replace kk1 := bl_cell hb kk1
        replace kk2 := bl_cell hb kk2
        replace kk3 := bl_cell hb kk3
        replace hB : Below w.heap.size w w8 := bl_then hB hb
        replace lb_p := World.block_lt_of_cell? w8 _ p0
        dsimp only at lb_p
        replace lb_s := World.block_lt_of_cell? w8 _ s0
        dsimp only at lb_s
        replace lb_h := World.block_lt_of_cell? w8 _ h0
        dsimp only at lb_h
        replace lb_kk := World.block_lt_of_cell? w8 _ kk0
        dsimp only at lb_kk
        clear hb
        unfold St.v
        (try dsimp only)
        go_wp2_with go_step3
        refine (H_HDC.out _ _ _ _ (log_bl hL4 (bl_alloc (bl_refl _) _))).mono ?_
        rintro e w9 ⟨a8, n8, c8, rfl, hL8, -, hb⟩
        have hx : Below w8.heap.size w8 w9 := bl_then (bl_alloc (bl_refl _) _) hb
        have hsz8 : w8.heap.size + 1 ≤ w9.heap.size := by have h := hb.size; (try simp at h); omega
        replace p0 := bl_cell hx p0
        replace p1 := bl_cell hx p1
        replace p2 := bl_cell hx p2
        replace p3 := bl_cell hx p3
        replace p4 := bl_cell hx p4
        replace p5 := bl_cell hx p5
        replace s0 := bl_cell hx s0
        replace s1 := bl_cell hx s1
        replace s2 := bl_cell hx s2
        replace s3 := bl_cell hx s3
        replace hLs := log_bl hLs hx
        replace hL4 := log_bl hL4 hx
        replace h0 := bl_cell hx h0
        replace h1 := bl_cell hx h1
        replace h2 := bl_cell hx h2
        replace h3 := bl_cell hx h3
        replace hL6 := log_bl hL6 hx
        replace kk0 := bl_cell hx kk0
        replace kk1 := bl_cell hx kk1
        replace kk2 := bl_cell hx kk2
        replace kk3 := bl_cell hx kk3
        replace hL7 := log_bl hL7 hx
        have rr0 := bl_cell (v := .int .i64 da) hb (show World.cell? _ ⟨w8.heap.size, 0, none⟩ = _ by go_simp)
        have rr1 := bl_cell (v := .int .i64 dl) hb (show World.cell? _ ⟨w8.heap.size, 1, none⟩ = _ by go_simp)
        have rr2 := bl_cell (v := .int .i64 dh) hb (show World.cell? _ ⟨w8.heap.size, 2, none⟩ = _ by go_simp)
        have rr3 := bl_cell (v := .slice a7 n7 c7) hb (show World.cell? _ ⟨w8.heap.size, 3, none⟩ = _ by go_simp)
        replace hB : Below w.heap.size w w9 := bl_then hB hx
        replace lb_p := World.block_lt_of_cell? w9 _ p0
        dsimp only at lb_p
        replace lb_s := World.block_lt_of_cell? w9 _ s0
        dsimp only at lb_s
        replace lb_h := World.block_lt_of_cell? w9 _ h0
        dsimp only at lb_h
        replace lb_kk := World.block_lt_of_cell? w9 _ kk0
        dsimp only at lb_kk
        have lb_rr := World.block_lt_of_cell? w9 _ rr0
        dsimp only at lb_rr
        clear hb hx
        unfold St.v
        (try dsimp only)
        have hnn : n8 = n6 := hL8.1.symm.trans hL6.1
        subst hnn
        go_wp2_with go_step3
        skip
        refine wp_abs (S0 := fun X => (fun w' => w'.cell? ⟨w1.heap.size, 0, none⟩ = some (.int .i64 k) ∧ w'.cell? ⟨w1.heap.size, 1, none⟩ = some (.int .i64 l) ∧ w'.cell? ⟨w1.heap.size, 2, none⟩ = some (.int .i64 d) ∧ w'.cell? ⟨w1.heap.size, 3, none⟩ = some (.int .i64 b) ∧ w'.cell? ⟨w1.heap.size, 4, none⟩ = some (.int .i64 cc) ∧ w'.cell? ⟨w1.heap.size, 5, none⟩ = some (.bool o) ∧ w'.cell? ⟨w2.heap.size, 0, none⟩ = some (.int .i64 sa) ∧ w'.cell? ⟨w2.heap.size, 1, none⟩ = some (.int .i64 sl) ∧ w'.cell? ⟨w2.heap.size, 2, none⟩ = some (.int .i64 sh) ∧ w'.cell? ⟨w2.heap.size, 3, none⟩ = some (.slice a n c) ∧ LogAt w' a n c sL ∧ LogAt w' a4 n4 c4 hL ∧ w'.cell? ⟨w5.heap.size, 0, none⟩ = some (.int .i64 ha) ∧ w'.cell? ⟨w5.heap.size, 1, none⟩ = some (.int .i64 hl) ∧ w'.cell? ⟨w5.heap.size, 2, none⟩ = some (.int .i64 hh) ∧ w'.cell? ⟨w5.heap.size, 3, none⟩ = some (.slice a4 n4 c4) ∧ LogAt w' a6 n8 c6 cL ∧ w'.cell? ⟨w6.heap.size, 0, none⟩ = some (.int .i64 ca) ∧ w'.cell? ⟨w6.heap.size, 1, none⟩ = some (.int .i64 cl) ∧ w'.cell? ⟨w6.heap.size, 2, none⟩ = some (.int .i64 ch) ∧ w'.cell? ⟨w6.heap.size, 3, none⟩ = some (.slice a6 n8 c6) ∧ LogAt w' a7 n7 c7 dL ∧ w'.cell? ⟨w8.heap.size, 0, none⟩ = some (.int .i64 da) ∧ w'.cell? ⟨w8.heap.size, 1, none⟩ = some (.int .i64 dl) ∧ w'.cell? ⟨w8.heap.size, 2, none⟩ = some (.int .i64 dh) ∧ w'.cell? ⟨w8.heap.size, 3, none⟩ = some (.slice a7 n7 c7) ∧ LogAt w' a8 n8 c8 cL ∧ w'.cell? ⟨w9.heap.size, 0, none⟩ = some (.int .i64 ca) ∧ w'.cell? ⟨w9.heap.size, 1, none⟩ = some (.int .i64 cl) ∧ w'.cell? ⟨w9.heap.size, 2, none⟩ = some (.int .i64 ch) ∧ w'.cell? ⟨w9.heap.size, 3, none⟩ = some (.slice a8 n8 c8) ∧ Below w.heap.size w w') X ∧ w9.heap.size + 1 ≤ X.heap.size) ⟨⟨bl_cell (bl_alloc (bl_refl _) _) p0, bl_cell (bl_alloc (bl_refl _) _) p1, bl_cell (bl_alloc (bl_refl _) _) p2, bl_cell (bl_alloc (bl_refl _) _) p3, bl_cell (bl_alloc (bl_refl _) _) p4, bl_cell (bl_alloc (bl_refl _) _) p5, bl_cell (bl_alloc (bl_refl _) _) s0, bl_cell (bl_alloc (bl_refl _) _) s1, bl_cell (bl_alloc (bl_refl _) _) s2, bl_cell (bl_alloc (bl_refl _) _) s3, log_bl hLs (bl_alloc (bl_refl _) _), log_bl hL4 (bl_alloc (bl_refl _) _), bl_cell (bl_alloc (bl_refl _) _) h0, bl_cell (bl_alloc (bl_refl _) _) h1, bl_cell (bl_alloc (bl_refl _) _) h2, bl_cell (bl_alloc (bl_refl _) _) h3, log_bl hL6 (bl_alloc (bl_refl _) _), bl_cell (bl_alloc (bl_refl _) _) kk0, bl_cell (bl_alloc (bl_refl _) _) kk1, bl_cell (bl_alloc (bl_refl _) _) kk2, bl_cell (bl_alloc (bl_refl _) _) kk3, log_bl hL7 (bl_alloc (bl_refl _) _), bl_cell (bl_alloc (bl_refl _) _) rr0, bl_cell (bl_alloc (bl_refl _) _) rr1, bl_cell (bl_alloc (bl_refl _) _) rr2, bl_cell (bl_alloc (bl_refl _) _) rr3, log_bl hL8 (bl_alloc (bl_refl _) _), by go_simp, by go_simp, by go_simp, by go_simp, bl_alloc (hB) _⟩, by simp⟩ ?_
        clear p0 p1 p2 p3 p4 p5 s0 s1 s2 s3 hLs hL4 h0 h1 h2 h3 hL6 kk0 kk1 kk2 kk3 hL7 rr0 rr1 rr2 rr3 hL8 hB
        rintro w10 ⟨⟨p0, p1, p2, p3, p4, p5, s0, s1, s2, s3, hLs, hL4, h0, h1, h2, h3, hL6, kk0, kk1, kk2, kk3, hL7, rr0, rr1, rr2, rr3, hL8, mm0, mm1, mm2, mm3, hB⟩, hsz9⟩
        replace lb_p := World.block_lt_of_cell? w10 _ p0
        dsimp only at lb_p
        replace lb_s := World.block_lt_of_cell? w10 _ s0
        dsimp only at lb_s
        replace lb_h := World.block_lt_of_cell? w10 _ h0
        dsimp only at lb_h
        replace lb_kk := World.block_lt_of_cell? w10 _ kk0
        dsimp only at lb_kk
        replace lb_rr := World.block_lt_of_cell? w10 _ rr0
        dsimp only at lb_rr
        have lb_mm := World.block_lt_of_cell? w10 _ mm0
        dsimp only at lb_mm
        refine wp_region_held_drew (S := fun w' => w'.cell? ⟨w1.heap.size, 0, none⟩ = some (.int .i64 k) ∧ w'.cell? ⟨w1.heap.size, 1, none⟩ = some (.int .i64 l) ∧ w'.cell? ⟨w1.heap.size, 2, none⟩ = some (.int .i64 d) ∧ w'.cell? ⟨w1.heap.size, 3, none⟩ = some (.int .i64 b) ∧ w'.cell? ⟨w1.heap.size, 4, none⟩ = some (.int .i64 cc) ∧ w'.cell? ⟨w1.heap.size, 5, none⟩ = some (.bool o) ∧ w'.cell? ⟨w2.heap.size, 0, none⟩ = some (.int .i64 sa) ∧ w'.cell? ⟨w2.heap.size, 1, none⟩ = some (.int .i64 sl) ∧ w'.cell? ⟨w2.heap.size, 2, none⟩ = some (.int .i64 sh) ∧ w'.cell? ⟨w2.heap.size, 3, none⟩ = some (.slice a n c) ∧ LogAt w' a n c sL ∧ LogAt w' a4 n4 c4 hL ∧ w'.cell? ⟨w5.heap.size, 0, none⟩ = some (.int .i64 ha) ∧ w'.cell? ⟨w5.heap.size, 1, none⟩ = some (.int .i64 hl) ∧ w'.cell? ⟨w5.heap.size, 2, none⟩ = some (.int .i64 hh) ∧ w'.cell? ⟨w5.heap.size, 3, none⟩ = some (.slice a4 n4 c4) ∧ LogAt w' a6 n8 c6 cL ∧ w'.cell? ⟨w6.heap.size, 0, none⟩ = some (.int .i64 ca) ∧ w'.cell? ⟨w6.heap.size, 1, none⟩ = some (.int .i64 cl) ∧ w'.cell? ⟨w6.heap.size, 2, none⟩ = some (.int .i64 ch) ∧ w'.cell? ⟨w6.heap.size, 3, none⟩ = some (.slice a6 n8 c6) ∧ LogAt w' a7 n7 c7 dL ∧ w'.cell? ⟨w8.heap.size, 0, none⟩ = some (.int .i64 da) ∧ w'.cell? ⟨w8.heap.size, 1, none⟩ = some (.int .i64 dl) ∧ w'.cell? ⟨w8.heap.size, 2, none⟩ = some (.int .i64 dh) ∧ w'.cell? ⟨w8.heap.size, 3, none⟩ = some (.slice a7 n7 c7) ∧ LogAt w' a8 n8 c8 cL ∧ w'.cell? ⟨w9.heap.size, 0, none⟩ = some (.int .i64 ca) ∧ w'.cell? ⟨w9.heap.size, 1, none⟩ = some (.int .i64 cl) ∧ w'.cell? ⟨w9.heap.size, 2, none⟩ = some (.int .i64 ch) ∧ w'.cell? ⟨w9.heap.size, 3, none⟩ = some (.slice a8 n8 c8) ∧ Below w.heap.size w w') (by kernel_rfl) ?_ (fun hHeld => ?_)
        · exact ⟨p0, p1, p2, p3, p4, p5, s0, s1, s2, s3, hLs, hL4, h0, h1, h2, h3, hL6, kk0, kk1, kk2, kk3, hL7, rr0, rr1, rr2, rr3, hL8, mm0, mm1, mm2, mm3, bl_drew hB⟩
        try simp only [Act.put, List.setIfInBounds_toArray, List.set_cons_zero, List.set_cons_succ]
        (refine tk (i := 0) rfl rfl hHeld ?_)
        (refine tk (i := 1) rfl rfl hHeld ?_)
        first | (refine tq (i := 2) rfl rfl hHeld ?_) | (refine tk (i := 2) rfl rfl hHeld ?_)
        (refine tk (i := 3) rfl rfl hHeld ?_)
        (refine tk (i := 4) rfl rfl hHeld ?_)
        first | (refine tq (i := 5) rfl rfl hHeld ?_) | (refine tk (i := 5) rfl rfl hHeld ?_)
        first | (refine tq (i := 6) rfl rfl hHeld ?_) | (refine tk (i := 6) rfl rfl hHeld ?_)
        first | (refine tq (i := 7) rfl rfl hHeld ?_) | (refine tk (i := 7) rfl rfl hHeld ?_)
        first | (refine tq (i := 8) rfl rfl hHeld ?_) | (refine tk (i := 8) rfl rfl hHeld ?_)
        first | (refine tq (i := 9) rfl rfl hHeld ?_) | (refine callH (i := 9) rfl hHeld (fun W hW K hK => ?_); clear hHeld; (try dsimp only at hW); obtain ⟨h_p0, h_p1, h_p2, h_p3, h_p4, h_p5, h_s0, h_s1, h_s2, h_s3, h_hLs, h_hL4, h_h0, h_h1, h_h2, h_h3, h_hL6, h_kk0, h_kk1, h_kk2, h_kk3, h_hL7, h_rr0, h_rr1, h_rr2, h_rr3, h_hL8, h_mm0, h_mm1, h_mm2, h_mm3, h_B⟩ := hW; go_simp; refine (H_HAV.out _ _ _ _ h_hLs).mono ?_; rintro e w9 ⟨a9, n9, c9, rfl, hL9, -, hb⟩; have hnn : n9 = n7 := hL9.1.symm.trans h_hL7.1; subst hnn; unfold St.v; (try dsimp only); go_wp2_with fail; refine hK.out _ _ ?_ (fun hHeld => ?_); (focus ((try dsimp only); exact ⟨bl_cell hb h_p0, bl_cell hb h_p1, bl_cell hb h_p2, bl_cell hb h_p3, bl_cell hb h_p4, bl_cell hb h_p5, bl_cell hb h_s0, bl_cell hb h_s1, bl_cell hb h_s2, bl_cell hb h_s3, log_bl h_hLs hb, log_bl h_hL4 hb, bl_cell hb h_h0, bl_cell hb h_h1, bl_cell hb h_h2, bl_cell hb h_h3, log_bl h_hL6 hb, bl_cell hb h_kk0, bl_cell hb h_kk1, bl_cell hb h_kk2, bl_cell hb h_kk3, log_bl h_hL7 hb, bl_cell hb h_rr0, bl_cell hb h_rr1, bl_cell hb h_rr2, bl_cell hb h_rr3, log_bl h_hL8 hb, bl_cell hb h_mm0, bl_cell hb h_mm1, bl_cell hb h_mm2, bl_cell hb h_mm3, bl_then h_B hb⟩)); clear hK K; clear h_p0 h_p1 h_p2 h_p3 h_p4 h_p5 h_s0 h_s1 h_s2 h_s3 h_hLs h_hL4 h_h0 h_h1 h_h2 h_h3 h_hL6 h_kk0 h_kk1 h_kk2 h_kk3 h_hL7 h_rr0 h_rr1 h_rr2 h_rr3 h_hL8 h_mm0 h_mm1 h_mm2 h_mm3 h_B; try simp only [Act.put, List.setIfInBounds_toArray, List.set_cons_zero, List.set_cons_succ])
        first | (refine tq (i := 10) rfl rfl hHeld ?_) | (refine callC (i := 10) rfl (fun K hK => ?_); obtain ⟨h_p0, h_p1, h_p2, h_p3, h_p4, h_p5, h_s0, h_s1, h_s2, h_s3, h_hLs, h_hL4, h_h0, h_h1, h_h2, h_h3, h_hL6, h_kk0, h_kk1, h_kk2, h_kk3, h_hL7, h_rr0, h_rr1, h_rr2, h_rr3, h_hL8, h_mm0, h_mm1, h_mm2, h_mm3, h_B⟩ := (id hHeld); go_simp; refine (H_HSAME.out ⟨da, dl, dh, dL⟩ _ _ _ _ _ _ h_hL7 hL9).mono ?_; rintro e w9 ⟨rfl, hb⟩; go_wp2_with fail; refine hK.out _ _ ?_ (fun hHeld2 => ?_); (focus ((try dsimp only); exact ⟨bl_cell hb h_p0, bl_cell hb h_p1, bl_cell hb h_p2, bl_cell hb h_p3, bl_cell hb h_p4, bl_cell hb h_p5, bl_cell hb h_s0, bl_cell hb h_s1, bl_cell hb h_s2, bl_cell hb h_s3, log_bl h_hLs hb, log_bl h_hL4 hb, bl_cell hb h_h0, bl_cell hb h_h1, bl_cell hb h_h2, bl_cell hb h_h3, log_bl h_hL6 hb, bl_cell hb h_kk0, bl_cell hb h_kk1, bl_cell hb h_kk2, bl_cell hb h_kk3, log_bl h_hL7 hb, bl_cell hb h_rr0, bl_cell hb h_rr1, bl_cell hb h_rr2, bl_cell hb h_rr3, log_bl h_hL8 hb, bl_cell hb h_mm0, bl_cell hb h_mm1, bl_cell hb h_mm2, bl_cell hb h_mm3, bl_then h_B hb⟩)); clear hHeld hK K; have hHeld := hHeld2; clear hHeld2 h_p0 h_p1 h_p2 h_p3 h_p4 h_p5 h_s0 h_s1 h_s2 h_s3 h_hLs h_hL4 h_h0 h_h1 h_h2 h_h3 h_hL6 h_kk0 h_kk1 h_kk2 h_kk3 h_hL7 h_rr0 h_rr1 h_rr2 h_rr3 h_hL8 h_mm0 h_mm1 h_mm2 h_mm3 h_B; try simp only [Act.put, List.setIfInBounds_toArray, List.set_cons_zero, List.set_cons_succ])
        (refine tk (i := 11) rfl rfl hHeld ?_)
        (refine tk (i := 12) rfl rfl hHeld ?_)
        first | (refine tq (i := 13) rfl rfl hHeld ?_) | (refine tk (i := 13) rfl rfl hHeld ?_)
        first | (refine tq (i := 14) rfl rfl hHeld ?_) | (refine tk (i := 14) rfl rfl hHeld ?_)
        first | (refine tq (i := 15) rfl rfl hHeld ?_) | (refine callH (i := 15) rfl hHeld (fun W hW K hK => ?_); clear hHeld; (try dsimp only at hW); obtain ⟨h_p0, h_p1, h_p2, h_p3, h_p4, h_p5, h_s0, h_s1, h_s2, h_s3, h_hLs, h_hL4, h_h0, h_h1, h_h2, h_h3, h_hL6, h_kk0, h_kk1, h_kk2, h_kk3, h_hL7, h_rr0, h_rr1, h_rr2, h_rr3, h_hL8, h_mm0, h_mm1, h_mm2, h_mm3, h_B⟩ := hW; go_simp; refine (H_HSAME.out ⟨ca, cl, ch, cL⟩ _ _ _ _ _ _ h_hL8 h_hL6).mono ?_; rintro e w9 ⟨rfl, hb⟩; go_wp2_with fail; refine hK.out _ _ ?_ (fun hHeld => ?_); (focus ((try dsimp only); exact ⟨bl_cell hb h_p0, bl_cell hb h_p1, bl_cell hb h_p2, bl_cell hb h_p3, bl_cell hb h_p4, bl_cell hb h_p5, bl_cell hb h_s0, bl_cell hb h_s1, bl_cell hb h_s2, bl_cell hb h_s3, log_bl h_hLs hb, log_bl h_hL4 hb, bl_cell hb h_h0, bl_cell hb h_h1, bl_cell hb h_h2, bl_cell hb h_h3, log_bl h_hL6 hb, bl_cell hb h_kk0, bl_cell hb h_kk1, bl_cell hb h_kk2, bl_cell hb h_kk3, log_bl h_hL7 hb, bl_cell hb h_rr0, bl_cell hb h_rr1, bl_cell hb h_rr2, bl_cell hb h_rr3, log_bl h_hL8 hb, bl_cell hb h_mm0, bl_cell hb h_mm1, bl_cell hb h_mm2, bl_cell hb h_mm3, bl_then h_B hb⟩)); clear hK K; clear h_p0 h_p1 h_p2 h_p3 h_p4 h_p5 h_s0 h_s1 h_s2 h_s3 h_hLs h_hL4 h_h0 h_h1 h_h2 h_h3 h_hL6 h_kk0 h_kk1 h_kk2 h_kk3 h_hL7 h_rr0 h_rr1 h_rr2 h_rr3 h_hL8 h_mm0 h_mm1 h_mm2 h_mm3 h_B; try simp only [Act.put, List.setIfInBounds_toArray, List.set_cons_zero, List.set_cons_succ])
        (refine tk (i := 16) rfl rfl hHeld ?_)
        (refine tk (i := 17) rfl rfl hHeld ?_)
        first | (refine tq (i := 18) rfl rfl hHeld ?_) | (refine callH (i := 18) rfl hHeld (fun W hW K hK => ?_); clear hHeld; (try dsimp only at hW); obtain ⟨h_p0, h_p1, h_p2, h_p3, h_p4, h_p5, h_s0, h_s1, h_s2, h_s3, h_hLs, h_hL4, h_h0, h_h1, h_h2, h_h3, h_hL6, h_kk0, h_kk1, h_kk2, h_kk3, h_hL7, h_rr0, h_rr1, h_rr2, h_rr3, h_hL8, h_mm0, h_mm1, h_mm2, h_mm3, h_B⟩ := hW; go_simp; refine (H_HKN.out _).mono ?_; rintro e w9 ⟨rfl, hb⟩; go_wp2_with fail; refine hK.out _ _ ?_ (fun hHeld => ?_); (focus ((try dsimp only); exact ⟨bl_cell hb h_p0, bl_cell hb h_p1, bl_cell hb h_p2, bl_cell hb h_p3, bl_cell hb h_p4, bl_cell hb h_p5, bl_cell hb h_s0, bl_cell hb h_s1, bl_cell hb h_s2, bl_cell hb h_s3, log_bl h_hLs hb, log_bl h_hL4 hb, bl_cell hb h_h0, bl_cell hb h_h1, bl_cell hb h_h2, bl_cell hb h_h3, log_bl h_hL6 hb, bl_cell hb h_kk0, bl_cell hb h_kk1, bl_cell hb h_kk2, bl_cell hb h_kk3, log_bl h_hL7 hb, bl_cell hb h_rr0, bl_cell hb h_rr1, bl_cell hb h_rr2, bl_cell hb h_rr3, log_bl h_hL8 hb, bl_cell hb h_mm0, bl_cell hb h_mm1, bl_cell hb h_mm2, bl_cell hb h_mm3, bl_then h_B hb⟩)); clear hK K; clear h_p0 h_p1 h_p2 h_p3 h_p4 h_p5 h_s0 h_s1 h_s2 h_s3 h_hLs h_hL4 h_h0 h_h1 h_h2 h_h3 h_hL6 h_kk0 h_kk1 h_kk2 h_kk3 h_hL7 h_rr0 h_rr1 h_rr2 h_rr3 h_hL8 h_mm0 h_mm1 h_mm2 h_mm3 h_B; try simp only [Act.put, List.setIfInBounds_toArray, List.set_cons_zero, List.set_cons_succ])
        (refine tk (i := 19) rfl rfl hHeld ?_)
        (refine tk (i := 20) rfl rfl hHeld ?_)
        refine wpAnyH_done (by kernel_rfl) ?_ _
        obtain ⟨-, -, -, -, -, -, -, -, -, -, -, -, -, -, -, -, -, -, -, -, -, -, -, -, -, -, -, -, -, -, -, hE⟩ := hHeld
        repeat' (first | go_skip | go_guarded | go_step | go_upon)
        go_ret
        exact ⟨rfl, hE⟩

theorem backs_walk (kd lm pd bs : Int) (la : Option Addr) (m lc : Nat) (acts : List Ac) (now cost : Int) (w : World) (hk1 : 0 ≤ kd) (hk2 : kd ≤ 255) (hl1 : 0 ≤ lm) (hl2 : lm ≤ 65535) (hp1 : 0 ≤ pd) (hp2 : pd ≤ 65535) (hb1 : 0 ≤ bs) (hb2 : bs ≤ 65535) (hA : ActsIn w la m lc acts) (hn1 : 0 ≤ now) (hn2 : now ≤ 4294967295) (hc1 : 0 ≤ cost) (hc2 : cost ≤ 255) :
    Calls Try.prog 5 #[.int .u8 kd, .int .u16 lm, .int .u16 pd, .int .u16 bs, .slice la m lc, .int .u32 now, .int .u8 cost] w fun e w' => e = .returned (.bool true) ∧ Below w.heap.size w w' := by
  by_cases hm : (m : Int) ≤ 60
  · exact backs_run kd lm pd bs la m lc acts now cost w ⟨hk1, hk2⟩ ⟨hl1, hl2⟩ ⟨hp1, hp2⟩ ⟨hb1, hb2⟩ ⟨hn1, hn2⟩ ⟨hc1, hc2⟩ hm hA _ rfl
  · exact backs_long kd lm pd bs la m lc acts now cost w hm

end Go.Proofs.Ythinbjknkjpdjaa

namespace Go.Proofs.Ythinbjknkjpdjaa.limiterBacks
open Go.ChangeShapes Go.WideShapes Go.ChangeAt Go.RowKit
open Go.ChangeMaps (open_string shut_string)
set_option linter.unusedVariables false
set_option linter.unusedSimpArgs false

theorem own : ownKnob Try.prog.godebug = none := by kernel_rfl
theorem laidOut : laidOutB Try.prog = true := by kernel_rfl

set_option maxHeartbeats 1000000 in
set_option maxRecDepth 100000 in
theorem lifted (os : Os) (started : os.Started) (H : Type) (enc : TypeId × Value → H) :
    ReturnsInHanded {} Try.checked os 5 .any (Rows.limiterBacksSpec.pre6 enc Try.prog Try.f5 Rows.limiterBacksRow.domain false) (Rows.limiterBacksSpec.post enc Try.prog Try.f5 false true false false) := by
  refine returnsInHanded_of_change (C := Try.checked) own started (by kernel_rfl) Try.func5
    (ChangeSpec.witness6 (enc := enc) (C := Try.checked) false ⟨#[], #[.int .u8 0, .int .u16 0, .int .u16 0, .int .u16 0, .slice none 0 0, .int .u32 0, .int .u8 0], []⟩ 8 (by kernel_rfl) (by kernel_rfl) (by kernel_rfl) (by kernel_rfl)) ?_
  intro W base args ds gs before hval0 hW hcnd _
  have hval : ∀ (j : Nat) t v, Try.f5.params[j]? = some t → args[j]? = some v → Value.okWide Try.prog W .any base t v := hval0
  have hW' := hW
  obtain ⟨p, q, hA0, hV, rfl, hfz, hnd⟩ := hW
  have hA : DataW.TrodAll enc Try.prog W 0 (fun _ => true) true Try.f5.params.toList args.toList ds p := hA0
  rw [Try.params5] at hA hval
  obtain ⟨v0, vs0, d0, ds0', p0, q0, hargs, rfl, rfl, h0, r0⟩ := trodAll_cons hA
  obtain ⟨v1, vs1, d1, ds1', p1, q1, rfl, rfl, rfl, h1, r1⟩ := trodAll_cons r0
  obtain ⟨v2, vs2, d2, ds2', p2, q2, rfl, rfl, rfl, h2, r2⟩ := trodAll_cons r1
  obtain ⟨v3, vs3, d3, ds3', p3, q3, rfl, rfl, rfl, h3, r3⟩ := trodAll_cons r2
  obtain ⟨v4, vs4, d4, ds4', p4, q4, rfl, rfl, rfl, h4, r4⟩ := trodAll_cons r3
  obtain ⟨v5, vs5, d5, ds5', p5, q5, rfl, rfl, rfl, h5, r5⟩ := trodAll_cons r4
  obtain ⟨v6, vs6, d6, ds6', p6, q6, rfl, rfl, rfl, h6, r6⟩ := trodAll_cons r5
  obtain ⟨rfl, rfl, rfl⟩ := trodAll_nil r6
  obtain rfl : args = #[v0, v1, v2, v3, v4, v5, v6] := by cases args; simp_all
  obtain ⟨rfl, rfl⟩ := trodVars_none hV
  obtain ⟨a0, rfl, rfl, rfl, w0⟩ := open_int Try.underlying5 (hval 0 5 v0 rfl rfl) h0
  have b0l : 0 ≤ a0 := by have h := w0; simp only [Lit.wf, Bool.and_eq_true, decide_eq_true_eq] at h; exact h.1
  have b0h : a0 ≤ 255 := by have h := w0; simp only [Lit.wf, Bool.and_eq_true, decide_eq_true_eq] at h; exact h.2
  obtain ⟨a1, rfl, rfl, rfl, w1⟩ := open_int Try.underlying22 (hval 1 22 v1 rfl rfl) h1
  have b1l : 0 ≤ a1 := by have h := w1; simp only [Lit.wf, Bool.and_eq_true, decide_eq_true_eq] at h; exact h.1
  have b1h : a1 ≤ 65535 := by have h := w1; simp only [Lit.wf, Bool.and_eq_true, decide_eq_true_eq] at h; exact h.2
  obtain ⟨a2, rfl, rfl, rfl, w2⟩ := open_int Try.underlying22 (hval 2 22 v2 rfl rfl) h2
  have b2l : 0 ≤ a2 := by have h := w2; simp only [Lit.wf, Bool.and_eq_true, decide_eq_true_eq] at h; exact h.1
  have b2h : a2 ≤ 65535 := by have h := w2; simp only [Lit.wf, Bool.and_eq_true, decide_eq_true_eq] at h; exact h.2
  obtain ⟨a3, rfl, rfl, rfl, w3⟩ := open_int Try.underlying22 (hval 3 22 v3 rfl rfl) h3
  have b3l : 0 ≤ a3 := by have h := w3; simp only [Lit.wf, Bool.and_eq_true, decide_eq_true_eq] at h; exact h.1
  have b3h : a3 ≤ 65535 := by have h := w3; simp only [Lit.wf, Bool.and_eq_true, decide_eq_true_eq] at h; exact h.2
  obtain ⟨a4, len4, cap4, rfl⟩ := okWide_slice Try.underlying23 (hval 4 23 v4 rfl rfl)
  have k4 := h4
  have lt4 : ∀ x ∈ p4, x.block < W.heap.size := by obtain ⟨m, hm⟩ := k4; exact DataW.trod_lt m _ _ _ hm
  obtain ⟨ds4, w4⟩ : ∃ ds, ActsIn W a4 len4 cap4 ds := by obtain ⟨fuel, hf⟩ := h4; exact open_acts (by simpa [Value.cells] using hf)
  obtain ⟨a5, rfl, rfl, rfl, w5⟩ := open_int Try.underlying24 (hval 5 24 v5 rfl rfl) h5
  have b5l : 0 ≤ a5 := by have h := w5; simp only [Lit.wf, Bool.and_eq_true, decide_eq_true_eq] at h; exact h.1
  have b5h : a5 ≤ 4294967295 := by have h := w5; simp only [Lit.wf, Bool.and_eq_true, decide_eq_true_eq] at h; exact h.2
  obtain ⟨a6, rfl, rfl, rfl, w6⟩ := open_int Try.underlying5 (hval 6 5 v6 rfl rfl) h6
  have b6l : 0 ≤ a6 := by have h := w6; simp only [Lit.wf, Bool.and_eq_true, decide_eq_true_eq] at h; exact h.1
  have b6h : a6 ≤ 255 := by have h := w6; simp only [Lit.wf, Bool.and_eq_true, decide_eq_true_eq] at h; exact h.2
  clear hA0 hval0
  refine (backs_walk a0 a1 a2 a3 a4 len4 cap4 ds4 a5 a6 W b0l b0h b1l b1h b2l b2h b3l b3h w4 b5l b5h b6l b6h).mono fun e W' ⟨he, bel⟩ => ?_
  subst he
  exact ⟨_, rfl, _, _, _, [], _, [], hW', trodAll_mk1 (shut_bool Try.underlying4 _), (trodAll_cons_mk (shut_int Try.underlying5 w0) (trodAll_cons_mk (shut_int Try.underlying22 w1) (trodAll_cons_mk (shut_int Try.underlying22 w2) (trodAll_cons_mk (shut_int Try.underlying22 w3) (trodAll_cons_mk (Below.trod laidOut (by kernel_rfl) (of_decide_eq_true (by kernel_rfl)) k4 bel lt4) (trodAll_cons_mk (shut_int Try.underlying24 w5) (trodAll_cons_mk (shut_int Try.underlying5 w6) trodAll_mk0))))))), rfl, bel.frame _, fun h => by cases h⟩

theorem over : Rows.limiterBacksRow.holds Try.pinned (OpenSpec.ofChange Rows.limiterBacksSpec) :=
  OpenClaim.holds_of_wide 5 Try.f5 rfl rfl rfl rfl rfl rfl rfl ⟨rfl, rfl, rfl, rfl, rfl⟩ rfl rfl rfl rfl rfl (by kernel_rfl) Try.func5 (by kernel_rfl)
    (of_decide_eq_true (by kernel_rfl)) (by unfold Func.isWrapper; first | (rw [if_pos (by decide +kernel)]; kernel_rfl) | (rw [if_neg (by decide +kernel)]; exact ⟨rfl, rfl⟩))
    (fun os started H enc _ => lifted os started H enc)

/-- The statement. -/
theorem proved : Rows.LimiterBacksSaid := over
end Go.Proofs.Ythinbjknkjpdjaa.limiterBacks
