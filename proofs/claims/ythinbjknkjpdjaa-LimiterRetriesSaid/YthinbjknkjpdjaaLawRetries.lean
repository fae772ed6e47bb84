/-
  The statement LimiterRetries of this seat: for every input the law returns true, and each argument reads afterwards as it read before. No condition.
-/
import Derived.Test.YthinbjknkjpdjaaM5
import Derived.Test.YthinbjknkjpdjaaRows
import Derived.WalkKit
import Derived.ProofKit
import Derived.OpenShut
import Derived.ShutString
import Derived.ChangeOld
import Derived.Below
namespace Go.Proofs.Ythinbjknkjpdjaa
open Go.RowKit
set_option linter.unusedVariables false
set_option linter.unusedSimpArgs false

set_option maxHeartbeats 2000000 in
set_option maxRecDepth 100000 in
theorem retries_long (kd lm pd bs : Int) (la : Option Addr) (m lc : Nat) (acts : List Ac) (cost : Int) (w : World) (hm : ¬ (m : Int) ≤ 60) :
    Calls Try.prog 7 #[.int .u8 kd, .int .u16 lm, .int .u16 pd, .int .u16 bs, .slice la m lc, .int .u8 cost] w fun e w' => e = .returned (.bool true) ∧ Below w.heap.size w w' := by
  have hsm := small_any la m lc
  rw [decide_eq_false hm] at hsm
  have hkn := known_yes
  have HSM := Go.Lib.hid hsm
  have HKN := Go.Lib.hid hkn
  clear hsm hkn
  go_enter Try.func7, Try.ntmps7
  go_wp2_with go_step3
  refine (HSM.out _).mono ?_
  rintro e w1 ⟨rfl, rfl⟩
  go_wp2_with go_step3
  refine (HKN.out _).mono ?_
  rintro e w1 ⟨rfl, hb⟩
  have hsz1 : w.heap.size + 0 ≤ w1.heap.size := by have h := hb.size; (try simp at h); omega
  have hB : Below w.heap.size w w1 := hb
  clear hb
  go_wp2_with go_step3
  go_ret
  exact ⟨rfl, hB⟩

set_option maxHeartbeats 2000000 in
set_option maxRecDepth 100000 in
theorem retries_run (kd lm pd bs : Int) (la : Option Addr) (m lc : Nat) (acts : List Ac) (cost : Int) (w : World) (hkd : 0 ≤ kd ∧ kd ≤ 255) (hlm : 0 ≤ lm ∧ lm ≤ 65535) (hpd : 0 ≤ pd ∧ pd ≤ 65535) (hbs : 0 ≤ bs ∧ bs ≤ 65535) (hcost : 0 ≤ cost ∧ cost ≤ 255) (hm : (m : Int) ≤ 60) (hA : ActsIn w la m lc acts) (s : St) (hs : (runP (ofP kd lm pd bs) (newP (ofP kd lm pd bs) 0) acts).1 = s) :
    Calls Try.prog 7 #[.int .u8 kd, .int .u16 lm, .int .u16 pd, .int .u16 bs, .slice la m lc, .int .u8 cost] w fun e w' => e = .returned (.bool true) ∧ Below w.heap.size w w' := by
  have hsm := small_any la m lc
  rw [decide_eq_true hm] at hsm
  have hof := fun w => ofP_any kd lm pd bs w hkd hlm hpd hbs
  obtain ⟨hC, hp1, hp2⟩ := ofP_ok kd lm pd bs hlm hpd hbs
  generalize ofP kd lm pd bs = P at *
  have KL := kern_P hC
  have hcp := capP_range hC
  have hnw := lnew_any P 0
  have hxl := newP_log P 0
  have hR : rightP P s = true := by rw [← hs]; exact right_run hC acts _ (KL.right_new 0)
  have hst := run_step (p := P) (newP P 0) acts hA.1
  have hend := run_all (p := P) (newP P 0) acts hA.1
  rw [hs] at hend
  have h0 : (runP P (newP P 0) (acts.take 0)).1 = newP P 0 := rfl
  generalize hFF : (fun j => (runP P (newP P 0) (acts.take j)).1) = F at *
  have hF : ∀ j, (runP P (newP P 0) (acts.take j)).1 = F j := fun j => by rw [← hFF]
  simp only [hF] at hst hend h0
  clear hF hFF
  have hri : ∀ j, j < m → True := fun _ _ => trivial
  have hrn : ∀ j, j < m → True := fun _ _ => trivial
  have hdo := fun st x a n c w hw => ldo_any P st a n c x w hw
  have hrt := fun a n c w hw => lretry_any P s a n c 0 (1 + cost) w hw
  have hmost := lmost_any P
  rw [mostP_cap hC] at hmost
  have eok := KL.retry_ok s 0 (1 + cost) hR (by omega)
  have hrle := KL.retry_le s (1 + cost) hR (by omega)
  have hrth := KL.retry_then s (1 + cost) hR (by omega)
  have hcp2 : (1 + cost) * P.period ≤ 16777216 := Int.le_trans (Pu.mulr (d := P.period) (show 1 + cost ≤ 256 by omega) (by omega)) (by omega)
  have hup : capP P * P.period ≤ 4294967296 := Int.le_trans (Pu.mulr hp2 (by omega)) (by omega)
  have hat := KL.at_range s hR
  have hng := KL.until_neg s 0 hR
  have hul := KL.until_le s hR
  have huth := KL.until_then s hR
  have hh0 := (KL.held s 0 hR).1
  have hhc : s.held ≤ capP P := by have h1 := (KL.held s 0 hR).2; have h2 := KL.room_nn s 0 hR; omega
  have hun := fun t a n c w hw => luntil_any P s a n c t w hw
  have hd1 := fun t a n c w hw => ldo_any P s a n c ⟨1, t, 1 + cost⟩ w hw
  generalize hNN : capP P = N at *
  generalize newP P 0 = X0 at *
  obtain ⟨xa, xl, xh, xL⟩ := X0
  dsimp only at hxl
  subst hxl
  have hkn := known_yes
  have ww1 : IntKind.i64.wrap cost = cost := IntWalk.i64_in _ (by omega)
  have ww2 : IntKind.i64.wrap (1 + cost) = 1 + cost := IntWalk.i64_in _ (by omega)
  have ww3 : IntKind.i64.wrap (N - s.held) = N - s.held := IntWalk.i64_in _ (by omega)
  generalize hRT : retryP P s 0 (1 + cost) = RT at *
  generalize hUU : untilP P s 0 = U at *
  have hU2 : U ≤ 4294967296 := Int.le_trans hul hup
  have hR2 : RT.1 ≤ 16777216 := Int.le_trans hrle.2 hcp2
  have hR1 := hrle.1
  have HFIN := Go.Lib.hid (And.intro eok (And.intro hrth (And.intro hng (And.intro huth (And.intro hat (And.intro hU2 (And.intro hR1 hR2)))))))
  have HUU := Go.Lib.hid hUU
  have HWW := Go.Lib.hid ww3
  clear eok hrth hng huth hat hU2 hR1 hR2 hrle hul hup hcp2 KL hC hp1 hp2 hcp hR hs hRT hUU hNN hh0 hhc ww3
  generalize hdoP : doP P s = D at *
  generalize hunP : untilP P s = UF at *
  have HDP := Go.Lib.hid hdoP
  clear hdoP hunP
  obtain ⟨k, l, d, b, cc, o⟩ := P
  unfold Pol.v at hnw hof
  unfold St.v at hnw
  dsimp only at hnw hof
  have H_HSM := Go.Lib.hid hsm
  have H_HOF := Go.Lib.hid hof
  have H_HNW := Go.Lib.hid hnw
  have H_HST := Go.Lib.hid hst
  have H_HEND := Go.Lib.hid hend
  have H_H0 := Go.Lib.hid h0
  have H_HRI := Go.Lib.hid hri
  have H_HRN := Go.Lib.hid hrn
  have H_HDO := Go.Lib.hid hdo
  have H_HRT := Go.Lib.hid hrt
  have H_HMOST := Go.Lib.hid hmost
  have H_HUN := Go.Lib.hid hun
  have H_HD1 := Go.Lib.hid hd1
  have H_HKN := Go.Lib.hid hkn
  have H_HA := Go.Lib.hid hA
  clear hsm hof hnw hst hend h0 hri hrn hdo hrt hmost hun hd1 hkn hA
  go_enter Try.func7, Try.ntmps7
  go_wp2_with go_step3
  refine (H_HSM.out _).mono ?_
  rintro e w1 ⟨rfl, rfl⟩
  go_wp2_with go_step3
  refine (H_HOF.out _).mono ?_
  rintro e w1 ⟨rfl, hb⟩
  have hsz1 : w.heap.size + 0 ≤ w1.heap.size := by have h := hb.size; (try simp at h); omega
  have hB : Below w.heap.size w w1 := hb
  clear hb
  go_wp2_with go_step3
  refine (H_HNW.out _).mono ?_
  rintro e w2 ⟨rfl, hb⟩
  have hx : Below w1.heap.size w1 w2 := bl_then (bl_alloc (bl_refl _) _) hb
  have hsz2 : w1.heap.size + 1 ≤ w2.heap.size := by have h := hb.size; (try simp at h); omega
  have p0 := bl_cell (v := .int .i64 k) hb (show World.cell? _ ⟨w1.heap.size, 0, none⟩ = _ by go_simp)
  have p1 := bl_cell (v := .int .i64 l) hb (show World.cell? _ ⟨w1.heap.size, 1, none⟩ = _ by go_simp)
  have p2 := bl_cell (v := .int .i64 d) hb (show World.cell? _ ⟨w1.heap.size, 2, none⟩ = _ by go_simp)
  have p3 := bl_cell (v := .int .i64 b) hb (show World.cell? _ ⟨w1.heap.size, 3, none⟩ = _ by go_simp)
  have p4 := bl_cell (v := .int .i64 cc) hb (show World.cell? _ ⟨w1.heap.size, 4, none⟩ = _ by go_simp)
  have p5 := bl_cell (v := .bool o) hb (show World.cell? _ ⟨w1.heap.size, 5, none⟩ = _ by go_simp)
  replace hB : Below w.heap.size w w2 := bl_then hB hx
  have lb_p := World.block_lt_of_cell? w2 _ p0
  dsimp only at lb_p
  clear hb hx
  go_wp2_with go_step3
  skip
  refine wp_abs (S0 := fun X => (fun w' => w'.cell? ⟨w1.heap.size, 0, none⟩ = some (.int .i64 k) ∧ w'.cell? ⟨w1.heap.size, 1, none⟩ = some (.int .i64 l) ∧ w'.cell? ⟨w1.heap.size, 2, none⟩ = some (.int .i64 d) ∧ w'.cell? ⟨w1.heap.size, 3, none⟩ = some (.int .i64 b) ∧ w'.cell? ⟨w1.heap.size, 4, none⟩ = some (.int .i64 cc) ∧ w'.cell? ⟨w1.heap.size, 5, none⟩ = some (.bool o) ∧ w'.cell? ⟨w2.heap.size, 0, none⟩ = some (.int .i64 xa) ∧ w'.cell? ⟨w2.heap.size, 1, none⟩ = some (.int .i64 xl) ∧ w'.cell? ⟨w2.heap.size, 2, none⟩ = some (.int .i64 xh) ∧ w'.cell? ⟨w2.heap.size, 3, none⟩ = some (.slice none 0 0) ∧ ResB w' (w2.heap.size) ∧ Below w.heap.size w w') X ∧ w2.heap.size + 1 ≤ X.heap.size) ⟨⟨bl_cell (bl_alloc (bl_refl _) _) p0, bl_cell (bl_alloc (bl_refl _) _) p1, bl_cell (bl_alloc (bl_refl _) _) p2, bl_cell (bl_alloc (bl_refl _) _) p3, bl_cell (bl_alloc (bl_refl _) _) p4, bl_cell (bl_alloc (bl_refl _) _) p5, by go_simp, by go_simp, by go_simp, by go_simp, res_new _ _ _ _ _ _ (by simp), bl_alloc (hB) _⟩, by simp⟩ ?_
  clear p0 p1 p2 p3 p4 p5 hB
  rintro w3 ⟨⟨p0, p1, p2, p3, p4, p5, s0, s1, s2, s3, sR, hB⟩, hsz3⟩
  replace lb_p := World.block_lt_of_cell? w3 _ p0
  dsimp only at lb_p
  have lb_s := World.block_lt_of_cell? w3 _ s0
  dsimp only at lb_s
  have hbpbs : w1.heap.size ≠ w2.heap.size := by omega
  go_loopw [15] (fun sj wr => ∃ j : Nat, sj = .int .i64 j ∧ j ≤ m ∧ Hid (∃ (a : Option Addr) (n c : Nat), DoRel (w1.heap.size) (w2.heap.size) w (k, l, d, b, cc, o) (F j) a n c wr))
    (fun sj _ => m - (intOf sj).toNat)
  case atStart => exact ⟨0, rfl, Nat.zero_le _, ⟨none, 0, 0, ⟨p0, p1, p2, p3, p4, p5, by rw [H_H0.out]; exact s0, by rw [H_H0.out]; exact s1, by rw [H_H0.out]; exact s2, s3, sR, by rw [H_H0.out]; exact log_nil _ _ _ (by omega), hB, fun ad e => by cases e⟩⟩⟩
  case round =>
    clear p0 p1 p2 p3 p4 p5 s0 s1 s2 s3 sR hB
    obtain ⟨j, rfl, hj, H⟩ := hrel
    obtain ⟨a, n, c, p0, p1, p2, p3, p4, p5, s0, s1, s2, s3, sR, hLs, hB, hOff⟩ := H.out
    dsimp only at p0 p1 p2 p3 p4 p5
    by_cases hjn : j < m
    · skip
      obtain ⟨xb, xo, hla, y0, y1, y2⟩ := H_HA.out.2.2.2 j hjn
      subst hla
      have x0 := bl_cell hB y0
      have x1 := bl_cell hB y1
      have x2 := bl_cell hB y2
      clear y0 y1 y2
      have hst := H_HST.out j hjn
      have hdo := H_HDO.out (F j) (acts.getD j ⟨0, 0, 0⟩)
      have hri := H_HRI.out j hjn
      have hrn := H_HRN.out j hjn
      generalize acts.getD j ⟨0, 0, 0⟩ = x at *
      generalize hFj : F j = st at *
      generalize doP ⟨k, l, d, b, cc, o⟩ st x = R at *
      obtain ⟨ak, anow, acost⟩ := x
      obtain ⟨sa, sl, sh, sL⟩ := st
      obtain ⟨⟨ra, rl, rh, rL⟩, rok⟩ := R
      dsimp only at s0 s1 s2 hLs x0 x1 x2 hst hri hrn
      unfold Ac.v at hdo
      unfold St.v Pol.v at hdo
      (try unfold St.v Pol.v at hri)
      dsimp only at hdo
      (try dsimp only at hri)
      have HDO := Go.Lib.hid hdo
      have HRI := Go.Lib.hid hri
      have HRN := Go.Lib.hid hrn
      have HST := Go.Lib.hid hst
      have HFJ := Go.Lib.hid hFj
      clear hdo hri hrn hst hFj H
      have k0 : (0 : Int) ≤ (j : Int) := by omega
      have k1 : (j : Int) < (m : Int) := by omega
      have hj1 : j + 1 ≤ m := hjn
      have hms : m - (j + 1) < m - j := by omega
      have wj : IntKind.i64.wrap ((j : Int) + 1) = (j : Int) + 1 := IntWalk.i64_in _ (by omega)
      have lb_p := World.block_lt_of_cell? wr _ p0
      have lb_s := World.block_lt_of_cell? wr _ s0
      have lb_x := World.block_lt_of_cell? wr _ x0
      dsimp only at lb_p lb_s lb_x
      go_wp2_with go_step3
      refine wp_region_held_drew (S := fun w' => w'.cell? ⟨w1.heap.size, 0, none⟩ = some (.int .i64 k) ∧ w'.cell? ⟨w1.heap.size, 1, none⟩ = some (.int .i64 l) ∧ w'.cell? ⟨w1.heap.size, 2, none⟩ = some (.int .i64 d) ∧ w'.cell? ⟨w1.heap.size, 3, none⟩ = some (.int .i64 b) ∧ w'.cell? ⟨w1.heap.size, 4, none⟩ = some (.int .i64 cc) ∧ w'.cell? ⟨w1.heap.size, 5, none⟩ = some (.bool o) ∧ w'.cell? ⟨w2.heap.size, 0, none⟩ = some (.int .i64 sa) ∧ w'.cell? ⟨w2.heap.size, 1, none⟩ = some (.int .i64 sl) ∧ w'.cell? ⟨w2.heap.size, 2, none⟩ = some (.int .i64 sh) ∧ w'.cell? ⟨w2.heap.size, 3, none⟩ = some (.slice a n c) ∧ w'.cell? ⟨xb, xo + j * 3, none⟩ = some (.int .i64 ak) ∧ w'.cell? ⟨xb, xo + j * 3 + 1, none⟩ = some (.int .i64 anow) ∧ w'.cell? ⟨xb, xo + j * 3 + 2, none⟩ = some (.int .i64 acost) ∧ ResB w' (w2.heap.size) ∧ LogAt w' a n c sL ∧ Below w.heap.size w w') (by kernel_rfl) ?_ (fun hHeld => ?_)
      · exact ⟨p0, p1, p2, p3, p4, p5, s0, s1, s2, s3, x0, x1, x2, sR, hLs, bl_drew hB⟩
      try simp only [Act.put, List.setIfInBounds_toArray, List.set_cons_zero, List.set_cons_succ]
      clear hB p0 p1 p2 p3 p4 p5 s0 s1 s2 s3 x0 x1 x2 sR hLs
      refine wpAnyH_abs (F := fun _ => True) hHeld trivial ?_
      clear hHeld
      rintro X0 hHeld -
      (refine tk (i := 0) rfl rfl hHeld ?_)
      (refine tk (i := 1) rfl rfl hHeld ?_)
      (refine tk (i := 2) rfl rfl hHeld ?_)
      (refine tk (i := 3) rfl rfl hHeld ?_)
      (refine tk (i := 4) rfl rfl hHeld ?_)
      (refine tk (i := 5) rfl rfl hHeld ?_)
      refine callC2 (i := 6) (j := 10) rfl rfl (fun K hK => ?y1_6) (fun K hK => ?y1_10)
      case' y1_6 =>
        obtain ⟨h_p0, h_p1, h_p2, h_p3, h_p4, h_p5, h_s0, h_s1, h_s2, h_s3, h_x0, h_x1, h_x2, h_sR, h_hLs, h_B⟩ := (id hHeld)
        go_simp
        refine (HDO.out _ _ _ _ h_hLs).mono ?_
        rintro e X6 ⟨a1, n1, c1, rfl, hLt, hSr, hb⟩
        have hOf1 := off_src hOff hSr (World.block_lt_of_cell? _ _ h_s0)
        have hFr := hSr
        clear hSr
        unfold St.v
        (try dsimp only)
        go_wp2_with fail
        refine hK.out _ _ ?_ (fun hHeld2 => ?_)
        · (try dsimp only); exact ⟨bl_cell hb h_p0, bl_cell hb h_p1, bl_cell hb h_p2, bl_cell hb h_p3, bl_cell hb h_p4, bl_cell hb h_p5, bl_cell hb h_s0, bl_cell hb h_s1, bl_cell hb h_s2, bl_cell hb h_s3, bl_cell hb h_x0, bl_cell hb h_x1, bl_cell hb h_x2, res_bl h_sR hb, log_bl h_hLs hb, bl_then h_B hb⟩
        clear hHeld hK K h_p0 h_p1 h_p2 h_p3 h_p4 h_p5 h_s0 h_s1 h_s2 h_s3 h_x0 h_x1 h_x2 h_sR h_hLs h_B hb
        have hHeld := hHeld2
        clear hHeld2
        try simp only [Act.put, List.setIfInBounds_toArray, List.set_cons_zero, List.set_cons_succ]
        (refine tk (i := 7) rfl rfl hHeld ?_)
        (refine tk (i := 8) rfl rfl hHeld ?_)
        (refine tk (i := 9) rfl rfl hHeld ?_)
        refine callC (i := 10) rfl (fun K hK => ?_)
        obtain ⟨h_p0, h_p1, h_p2, h_p3, h_p4, h_p5, h_s0, h_s1, h_s2, h_s3, h_x0, h_x1, h_x2, h_sR, h_hLs, h_B⟩ := (id hHeld)
        go_simp
        refine hK.out _ _ ?_ (fun hHeld2 => ?_)
        · (try dsimp only); exact ⟨bl_cell (bl_alloc (bl_refl _) _) h_p0, bl_cell (bl_alloc (bl_refl _) _) h_p1, bl_cell (bl_alloc (bl_refl _) _) h_p2, bl_cell (bl_alloc (bl_refl _) _) h_p3, bl_cell (bl_alloc (bl_refl _) _) h_p4, bl_cell (bl_alloc (bl_refl _) _) h_p5, bl_cell (bl_alloc (bl_refl _) _) h_s0, bl_cell (bl_alloc (bl_refl _) _) h_s1, bl_cell (bl_alloc (bl_refl _) _) h_s2, bl_cell (bl_alloc (bl_refl _) _) h_s3, bl_cell (bl_alloc (bl_refl _) _) h_x0, bl_cell (bl_alloc (bl_refl _) _) h_x1, bl_cell (bl_alloc (bl_refl _) _) h_x2, res_bl h_sR (bl_alloc (bl_refl _) _), log_bl h_hLs (bl_alloc (bl_refl _) _), bl_alloc h_B _⟩
        have rn0 := World.block_lt_of_cell? _ _ h_p0
        have rn1 := World.block_lt_of_cell? _ _ h_s0
        have rn2 := World.block_lt_of_cell? _ _ h_x0
        have LT_hLs := log_lt h_hLs
        dsimp only at rn0 rn1 rn2
        have rB := h_B.size
        have hne := log_lt hLt
        replace hLt := log_bl hLt (bl_alloc (bl_refl _) (.cells #[.int .i64 0, .int .i64 0, .int .i64 0, .slice none 0 0] 32))
        clear hHeld hK K h_p0 h_p1 h_p2 h_p3 h_p4 h_p5 h_s0 h_s1 h_s2 h_s3 h_x0 h_x1 h_x2 h_sR h_hLs h_B
        have hHeld := hHeld2
        clear hHeld2
        try simp only [Act.put, List.setIfInBounds_toArray, List.set_cons_zero, List.set_cons_succ]
        refine wpAnyH_abs (F := fun X => ResB X X6.heap.size ∧ LogAt X a1 n1 c1 rL) hHeld ⟨res_new _ _ _ _ _ _ rfl, hLt⟩ ?_
        clear hHeld hLt
        generalize X6.heap.size = r at *
        replace hne := fun ad e hn => Nat.ne_of_lt (hne ad e hn)
        rintro X10 hHeld ⟨hRes, hLt⟩
        refine callC (i := 11) rfl (fun K hK => ?_)
        obtain ⟨h_p0, h_p1, h_p2, h_p3, h_p4, h_p5, h_s0, h_s1, h_s2, h_s3, h_x0, h_x1, h_x2, h_sR, h_hLs, h_B⟩ := (id hHeld)
        obtain ⟨f0, f1, f2, f3, u0, u1, u2, u3, i0, i1, i2, i3⟩ := res_all hRes
        go_simp
        refine hK.out _ _ ?_ (fun hHeld2 => ?_)
        · (try dsimp only); exact ⟨far4 h_p0 (by dsimp only; omega), far4 h_p1 (by dsimp only; omega), far4 h_p2 (by dsimp only; omega), far4 h_p3 (by dsimp only; omega), far4 h_p4 (by dsimp only; omega), far4 h_p5 (by dsimp only; omega), far4 h_s0 (by dsimp only; omega), far4 h_s1 (by dsimp only; omega), far4 h_s2 (by dsimp only; omega), far4 h_s3 (by dsimp only; omega), far4 h_x0 (by dsimp only; omega), far4 h_x1 (by dsimp only; omega), far4 h_x2 (by dsimp only; omega), res4 h_sR, log_set4 h_hLs (fun ad e hn => by have := LT_hLs ad e hn; omega), bl4 h_B (by omega)⟩
        obtain ⟨z0, z1, z2, z3⟩ := set4r (v0 := .int .i64 ra) (v1 := .int .i64 rl) (v2 := .int .i64 rh) (v3 := .slice a1 n1 c1) hRes
        replace hLt := log_set4 (b := r) (v0 := .int .i64 ra) (v1 := .int .i64 rl) (v2 := .int .i64 rh) (v3 := .slice a1 n1 c1) hLt hne
        replace hRes := res4 (b := r) (v0 := .int .i64 ra) (v1 := .int .i64 rl) (v2 := .int .i64 rh) (v3 := .slice a1 n1 c1) hRes
        clear hHeld hK K h_p0 h_p1 h_p2 h_p3 h_p4 h_p5 h_s0 h_s1 h_s2 h_s3 h_x0 h_x1 h_x2 h_sR h_hLs h_B f0 f1 f2 f3 i0 i1 i2 i3 u0 u1 u2 u3
        have hHeld := hHeld2
        clear hHeld2
        try simp only [Act.put, List.setIfInBounds_toArray, List.set_cons_zero, List.set_cons_succ]
        (refine tk (i := 12) rfl rfl hHeld ?_)
        refine wpAnyH_done (by kernel_rfl) ?_ _
        refine then_abs (F := fun X => (fun w' => w'.cell? ⟨w1.heap.size, 0, none⟩ = some (.int .i64 k) ∧ w'.cell? ⟨w1.heap.size, 1, none⟩ = some (.int .i64 l) ∧ w'.cell? ⟨w1.heap.size, 2, none⟩ = some (.int .i64 d) ∧ w'.cell? ⟨w1.heap.size, 3, none⟩ = some (.int .i64 b) ∧ w'.cell? ⟨w1.heap.size, 4, none⟩ = some (.int .i64 cc) ∧ w'.cell? ⟨w1.heap.size, 5, none⟩ = some (.bool o) ∧ w'.cell? ⟨w2.heap.size, 0, none⟩ = some (.int .i64 sa) ∧ w'.cell? ⟨w2.heap.size, 1, none⟩ = some (.int .i64 sl) ∧ w'.cell? ⟨w2.heap.size, 2, none⟩ = some (.int .i64 sh) ∧ w'.cell? ⟨w2.heap.size, 3, none⟩ = some (.slice a n c) ∧ w'.cell? ⟨xb, xo + j * 3, none⟩ = some (.int .i64 ak) ∧ w'.cell? ⟨xb, xo + j * 3 + 1, none⟩ = some (.int .i64 anow) ∧ w'.cell? ⟨xb, xo + j * 3 + 2, none⟩ = some (.int .i64 acost) ∧ ResB w' (w2.heap.size) ∧ LogAt w' a n c sL ∧ Below w.heap.size w w') X ∧ X.cell? ⟨r, 0, none⟩ = some (.int .i64 ra) ∧ X.cell? ⟨r, 1, none⟩ = some (.int .i64 rl) ∧ X.cell? ⟨r, 2, none⟩ = some (.int .i64 rh) ∧ X.cell? ⟨r, 3, none⟩ = some (.slice a1 n1 c1) ∧ ResB X r ∧ LogAt X a1 n1 c1 rL) ⟨hHeld, z0, z1, z2, z3, hRes, hLt⟩ ?_
        clear hHeld z0 z1 z2 z3 hRes hLt
      case' y1_10 =>
        obtain ⟨h_p0, h_p1, h_p2, h_p3, h_p4, h_p5, h_s0, h_s1, h_s2, h_s3, h_x0, h_x1, h_x2, h_sR, h_hLs, h_B⟩ := (id hHeld)
        go_simp
        refine hK.out _ _ ?_ (fun hHeld2 => ?_)
        · (try dsimp only); exact ⟨bl_cell (bl_alloc (bl_refl _) _) h_p0, bl_cell (bl_alloc (bl_refl _) _) h_p1, bl_cell (bl_alloc (bl_refl _) _) h_p2, bl_cell (bl_alloc (bl_refl _) _) h_p3, bl_cell (bl_alloc (bl_refl _) _) h_p4, bl_cell (bl_alloc (bl_refl _) _) h_p5, bl_cell (bl_alloc (bl_refl _) _) h_s0, bl_cell (bl_alloc (bl_refl _) _) h_s1, bl_cell (bl_alloc (bl_refl _) _) h_s2, bl_cell (bl_alloc (bl_refl _) _) h_s3, bl_cell (bl_alloc (bl_refl _) _) h_x0, bl_cell (bl_alloc (bl_refl _) _) h_x1, bl_cell (bl_alloc (bl_refl _) _) h_x2, res_bl h_sR (bl_alloc (bl_refl _) _), log_bl h_hLs (bl_alloc (bl_refl _) _), bl_alloc h_B _⟩
        have rn0 := World.block_lt_of_cell? _ _ h_p0
        have rn1 := World.block_lt_of_cell? _ _ h_s0
        have rn2 := World.block_lt_of_cell? _ _ h_x0
        have LT_hLs := log_lt h_hLs
        dsimp only at rn0 rn1 rn2
        have rB := h_B.size
        clear hHeld hK K h_p0 h_p1 h_p2 h_p3 h_p4 h_p5 h_s0 h_s1 h_s2 h_s3 h_x0 h_x1 h_x2 h_sR h_hLs h_B
        have hHeld := hHeld2
        clear hHeld2
        try simp only [Act.put, List.setIfInBounds_toArray, List.set_cons_zero, List.set_cons_succ]
        refine wpAnyH_abs (F := fun X => ResB X X0.heap.size) hHeld (res_new _ _ _ _ _ _ rfl) ?_
        clear hHeld
        generalize X0.heap.size = r at *
        rintro X6 hHeld hRes
        refine callC (i := 6) rfl (fun K hK => ?_)
        obtain ⟨h_p0, h_p1, h_p2, h_p3, h_p4, h_p5, h_s0, h_s1, h_s2, h_s3, h_x0, h_x1, h_x2, h_sR, h_hLs, h_B⟩ := (id hHeld)
        go_simp
        refine (HDO.out _ _ _ _ h_hLs).mono ?_
        rintro e X7 ⟨a1, n1, c1, rfl, hLt, hSr, hb⟩
        have hOf1 := off_src hOff hSr (World.block_lt_of_cell? _ _ h_s0)
        have hFr := hSr
        clear hSr
        unfold St.v
        (try dsimp only)
        go_wp2_with fail
        refine hK.out _ _ ?_ (fun hHeld2 => ?_)
        · (try dsimp only); exact ⟨bl_cell hb h_p0, bl_cell hb h_p1, bl_cell hb h_p2, bl_cell hb h_p3, bl_cell hb h_p4, bl_cell hb h_p5, bl_cell hb h_s0, bl_cell hb h_s1, bl_cell hb h_s2, bl_cell hb h_s3, bl_cell hb h_x0, bl_cell hb h_x1, bl_cell hb h_x2, res_bl h_sR hb, log_bl h_hLs hb, bl_then h_B hb⟩
        have hrl := res_lt hRes
        have hne : ∀ ad, a1 = some ad → n1 ≠ 0 → ad.block ≠ r := fun ad e hn => by rcases hFr with h | ⟨rfl, rfl⟩ | h; exact absurd h hn; exact Nat.ne_of_lt (LT_hLs ad e hn); have := h ad e; omega
        clear hrl
        replace hRes := res_bl hRes hb
        clear hHeld hK K h_p0 h_p1 h_p2 h_p3 h_p4 h_p5 h_s0 h_s1 h_s2 h_s3 h_x0 h_x1 h_x2 h_sR h_hLs h_B hb
        have hHeld := hHeld2
        clear hHeld2
        try simp only [Act.put, List.setIfInBounds_toArray, List.set_cons_zero, List.set_cons_succ]
        (refine tk (i := 7) rfl rfl hHeld ?_)
        (refine tk (i := 8) rfl rfl hHeld ?_)
        (refine tk (i := 9) rfl rfl hHeld ?_)
        refine callC (i := 11) rfl (fun K hK => ?_)
        obtain ⟨h_p0, h_p1, h_p2, h_p3, h_p4, h_p5, h_s0, h_s1, h_s2, h_s3, h_x0, h_x1, h_x2, h_sR, h_hLs, h_B⟩ := (id hHeld)
        obtain ⟨f0, f1, f2, f3, u0, u1, u2, u3, i0, i1, i2, i3⟩ := res_all hRes
        go_simp
        refine hK.out _ _ ?_ (fun hHeld2 => ?_)
        · (try dsimp only); exact ⟨far4 h_p0 (by dsimp only; omega), far4 h_p1 (by dsimp only; omega), far4 h_p2 (by dsimp only; omega), far4 h_p3 (by dsimp only; omega), far4 h_p4 (by dsimp only; omega), far4 h_p5 (by dsimp only; omega), far4 h_s0 (by dsimp only; omega), far4 h_s1 (by dsimp only; omega), far4 h_s2 (by dsimp only; omega), far4 h_s3 (by dsimp only; omega), far4 h_x0 (by dsimp only; omega), far4 h_x1 (by dsimp only; omega), far4 h_x2 (by dsimp only; omega), res4 h_sR, log_set4 h_hLs (fun ad e hn => by have := LT_hLs ad e hn; omega), bl4 h_B (by omega)⟩
        obtain ⟨z0, z1, z2, z3⟩ := set4r (v0 := .int .i64 ra) (v1 := .int .i64 rl) (v2 := .int .i64 rh) (v3 := .slice a1 n1 c1) hRes
        replace hLt := log_set4 (b := r) (v0 := .int .i64 ra) (v1 := .int .i64 rl) (v2 := .int .i64 rh) (v3 := .slice a1 n1 c1) hLt hne
        replace hRes := res4 (b := r) (v0 := .int .i64 ra) (v1 := .int .i64 rl) (v2 := .int .i64 rh) (v3 := .slice a1 n1 c1) hRes
        clear hHeld hK K h_p0 h_p1 h_p2 h_p3 h_p4 h_p5 h_s0 h_s1 h_s2 h_s3 h_x0 h_x1 h_x2 h_sR h_hLs h_B f0 f1 f2 f3 i0 i1 i2 i3 u0 u1 u2 u3
        have hHeld := hHeld2
        clear hHeld2
        try simp only [Act.put, List.setIfInBounds_toArray, List.set_cons_zero, List.set_cons_succ]
        (refine tk (i := 12) rfl rfl hHeld ?_)
        refine wpAnyH_done (by kernel_rfl) ?_ _
        refine then_abs (F := fun X => (fun w' => w'.cell? ⟨w1.heap.size, 0, none⟩ = some (.int .i64 k) ∧ w'.cell? ⟨w1.heap.size, 1, none⟩ = some (.int .i64 l) ∧ w'.cell? ⟨w1.heap.size, 2, none⟩ = some (.int .i64 d) ∧ w'.cell? ⟨w1.heap.size, 3, none⟩ = some (.int .i64 b) ∧ w'.cell? ⟨w1.heap.size, 4, none⟩ = some (.int .i64 cc) ∧ w'.cell? ⟨w1.heap.size, 5, none⟩ = some (.bool o) ∧ w'.cell? ⟨w2.heap.size, 0, none⟩ = some (.int .i64 sa) ∧ w'.cell? ⟨w2.heap.size, 1, none⟩ = some (.int .i64 sl) ∧ w'.cell? ⟨w2.heap.size, 2, none⟩ = some (.int .i64 sh) ∧ w'.cell? ⟨w2.heap.size, 3, none⟩ = some (.slice a n c) ∧ w'.cell? ⟨xb, xo + j * 3, none⟩ = some (.int .i64 ak) ∧ w'.cell? ⟨xb, xo + j * 3 + 1, none⟩ = some (.int .i64 anow) ∧ w'.cell? ⟨xb, xo + j * 3 + 2, none⟩ = some (.int .i64 acost) ∧ ResB w' (w2.heap.size) ∧ LogAt w' a n c sL ∧ Below w.heap.size w w') X ∧ X.cell? ⟨r, 0, none⟩ = some (.int .i64 ra) ∧ X.cell? ⟨r, 1, none⟩ = some (.int .i64 rl) ∧ X.cell? ⟨r, 2, none⟩ = some (.int .i64 rh) ∧ X.cell? ⟨r, 3, none⟩ = some (.slice a1 n1 c1) ∧ ResB X r ∧ LogAt X a1 n1 c1 rL) ⟨hHeld, z0, z1, z2, z3, hRes, hLt⟩ ?_
        clear hHeld z0 z1 z2 z3 hRes hLt
      all_goals rintro w4 ⟨⟨p0, p1, p2, p3, p4, p5, s0, s1, s2, s3, x0, x1, x2, sR, hLs, hB⟩, r0, r1, r2, r3, rR, hLt⟩
      all_goals
        replace lb_p := World.block_lt_of_cell? w4 _ p0
        dsimp only at lb_p
        replace lb_s := World.block_lt_of_cell? w4 _ s0
        dsimp only at lb_s
        replace lb_x := World.block_lt_of_cell? w4 _ x0
        dsimp only at lb_x
        have lb_r := World.block_lt_of_cell? w4 _ r0
        dsimp only at lb_r
        clear x0 x1 x2 lb_x hLs
        obtain ⟨fr0, fr1, fr2, fr3, -⟩ := res_all sR
        go_wp2_with go_step3
        obtain ⟨z0, z1, z2, z3⟩ := set4r (v0 := .int .i64 ra) (v1 := .int .i64 rl) (v2 := .int .i64 rh) (v3 := .slice a1 n1 c1) sR
        replace p0 := far4 (b := w2.heap.size) (v0 := .int .i64 ra) (v1 := .int .i64 rl) (v2 := .int .i64 rh) (v3 := .slice a1 n1 c1) p0 (by dsimp only; omega)
        replace p1 := far4 (b := w2.heap.size) (v0 := .int .i64 ra) (v1 := .int .i64 rl) (v2 := .int .i64 rh) (v3 := .slice a1 n1 c1) p1 (by dsimp only; omega)
        replace p2 := far4 (b := w2.heap.size) (v0 := .int .i64 ra) (v1 := .int .i64 rl) (v2 := .int .i64 rh) (v3 := .slice a1 n1 c1) p2 (by dsimp only; omega)
        replace p3 := far4 (b := w2.heap.size) (v0 := .int .i64 ra) (v1 := .int .i64 rl) (v2 := .int .i64 rh) (v3 := .slice a1 n1 c1) p3 (by dsimp only; omega)
        replace p4 := far4 (b := w2.heap.size) (v0 := .int .i64 ra) (v1 := .int .i64 rl) (v2 := .int .i64 rh) (v3 := .slice a1 n1 c1) p4 (by dsimp only; omega)
        replace p5 := far4 (b := w2.heap.size) (v0 := .int .i64 ra) (v1 := .int .i64 rl) (v2 := .int .i64 rh) (v3 := .slice a1 n1 c1) p5 (by dsimp only; omega)
        replace s0 := z0
        replace s1 := z1
        replace s2 := z2
        replace s3 := z3
        replace sR := res4 (b := w2.heap.size) (v0 := .int .i64 ra) (v1 := .int .i64 rl) (v2 := .int .i64 rh) (v3 := .slice a1 n1 c1) sR
        replace r0 := far4 (b := w2.heap.size) (v0 := .int .i64 ra) (v1 := .int .i64 rl) (v2 := .int .i64 rh) (v3 := .slice a1 n1 c1) r0 (by dsimp only; omega)
        replace r1 := far4 (b := w2.heap.size) (v0 := .int .i64 ra) (v1 := .int .i64 rl) (v2 := .int .i64 rh) (v3 := .slice a1 n1 c1) r1 (by dsimp only; omega)
        replace r2 := far4 (b := w2.heap.size) (v0 := .int .i64 ra) (v1 := .int .i64 rl) (v2 := .int .i64 rh) (v3 := .slice a1 n1 c1) r2 (by dsimp only; omega)
        replace r3 := far4 (b := w2.heap.size) (v0 := .int .i64 ra) (v1 := .int .i64 rl) (v2 := .int .i64 rh) (v3 := .slice a1 n1 c1) r3 (by dsimp only; omega)
        replace rR := res4 (b := w2.heap.size) (v0 := .int .i64 ra) (v1 := .int .i64 rl) (v2 := .int .i64 rh) (v3 := .slice a1 n1 c1) rR
        replace hLt := log_set4 (b := w2.heap.size) (v0 := .int .i64 ra) (v1 := .int .i64 rl) (v2 := .int .i64 rh) (v3 := .slice a1 n1 c1) hLt hOf1
        replace hB := bl4 (b := w2.heap.size) (v0 := .int .i64 ra) (v1 := .int .i64 rl) (v2 := .int .i64 rh) (v3 := .slice a1 n1 c1) hB (by omega)
        clear z0 z1 z2 z3 fr0 fr1 fr2 fr3
        go_roundw
        case rel => exact ⟨j + 1, by go_num, hj1, ⟨a1, n1, c1, p0, p1, p2, p3, p4, p5, by rw [HST.out]; exact s0, by rw [HST.out]; exact s1, by rw [HST.out]; exact s2, s3, sR, by rw [HST.out]; exact hLt, hB, hOf1⟩⟩
        case measure => (simp [intOf]; first | exact hms | omega)
    · have hje : m = j := by omega
      subst hje
      rw [H_HEND.out] at s0 s1 s2 hLs
      have hrt := H_HRT.out
      have hun := H_HUN.out
      have hd1 := H_HD1.out
      obtain ⟨eok, hrth, hng, huth, hat, hU2, hR1, hR2⟩ := HFIN.out
      have hUU := HUU.out
      have ww3 := HWW.out
      clear H_HRT H_HUN H_HD1 HFIN HUU HWW H H_HEND H_HST H_HRI H_HRN H_H0 H_HDO HDP
      obtain ⟨sa, sl, sh, sL⟩ := s
      obtain ⟨rn, rok⟩ := RT
      dsimp only at *
      unfold Ac.v St.v Pol.v at hd1
      unfold St.v Pol.v at hrt hun
      dsimp only at hd1 hrt hun
      obtain ⟨g, hg⟩ : ∃ g, decide (1 + cost ≤ N - sh) = g := ⟨_, rfl⟩
      rw [hg] at eok
      replace eok := eok.symm
      subst eok
      by_cases hlate : 4503599627370496 < sa
      · clear hrth hng huth hUU
        have H_HRT := Go.Lib.hid hrt
        have H_HUN := Go.Lib.hid hun
        have H_HD1 := Go.Lib.hid hd1
        clear hrt hun hd1
        have lb_p := World.block_lt_of_cell? wr _ p0
        dsimp only at lb_p
        have lb_s := World.block_lt_of_cell? wr _ s0
        dsimp only at lb_s
        go_wp2_with go_step3
        refine (H_HRT.out _ _ _ _ hLs).mono ?_
        rintro e w5 ⟨rfl, hb⟩
        have hsz4 : wr.heap.size + 0 ≤ w5.heap.size := by have h := hb.size; (try simp at h); omega
        replace p0 := bl_cell hb p0
        replace p1 := bl_cell hb p1
        replace p2 := bl_cell hb p2
        replace p3 := bl_cell hb p3
        replace p4 := bl_cell hb p4
        replace p5 := bl_cell hb p5
        replace s0 := bl_cell hb s0
        replace s1 := bl_cell hb s1
        replace s2 := bl_cell hb s2
        replace s3 := bl_cell hb s3
        replace hLs := log_bl hLs hb
        replace hB : Below w.heap.size w w5 := bl_then hB hb
        replace lb_p := World.block_lt_of_cell? w5 _ p0
        dsimp only at lb_p
        replace lb_s := World.block_lt_of_cell? w5 _ s0
        dsimp only at lb_s
        clear hb
        go_wp2_with go_step3
        refine wp_region_held_drew (S := fun w' => w'.cell? ⟨w1.heap.size, 0, none⟩ = some (.int .i64 k) ∧ w'.cell? ⟨w1.heap.size, 1, none⟩ = some (.int .i64 l) ∧ w'.cell? ⟨w1.heap.size, 2, none⟩ = some (.int .i64 d) ∧ w'.cell? ⟨w1.heap.size, 3, none⟩ = some (.int .i64 b) ∧ w'.cell? ⟨w1.heap.size, 4, none⟩ = some (.int .i64 cc) ∧ w'.cell? ⟨w1.heap.size, 5, none⟩ = some (.bool o) ∧ w'.cell? ⟨w2.heap.size, 0, none⟩ = some (.int .i64 sa) ∧ w'.cell? ⟨w2.heap.size, 1, none⟩ = some (.int .i64 sl) ∧ w'.cell? ⟨w2.heap.size, 2, none⟩ = some (.int .i64 sh) ∧ w'.cell? ⟨w2.heap.size, 3, none⟩ = some (.slice a n c) ∧ LogAt w' a n c sL ∧ Below w.heap.size w w') (by kernel_rfl) ?_ (fun hHeld => ?_)
        · exact ⟨p0, p1, p2, p3, p4, p5, s0, s1, s2, s3, hLs, bl_drew hB⟩
        try simp only [Act.put, List.setIfInBounds_toArray, List.set_cons_zero, List.set_cons_succ]
        (refine tk (i := 0) rfl rfl hHeld ?_)
        (refine tk (i := 1) rfl rfl hHeld ?_)
        (refine tk (i := 2) rfl rfl hHeld ?_)
        (refine tk (i := 4) rfl rfl hHeld ?_)
        (refine tk (i := 5) rfl rfl hHeld ?_)
        (refine callH (i := 3) rfl hHeld (fun W hW K hK => ?_); clear hHeld; (try dsimp only at hW); obtain ⟨h_p0, h_p1, h_p2, h_p3, h_p4, h_p5, h_s0, h_s1, h_s2, h_s3, h_hLs, h_B⟩ := hW; go_simp; refine (H_HMOST.out _).mono ?_; rintro e w9 ⟨rfl, hb⟩; go_wp2_with fail; refine hK.out _ _ ?_ (fun hHeld => ?_); (focus ((try dsimp only); exact ⟨bl_cell hb h_p0, bl_cell hb h_p1, bl_cell hb h_p2, bl_cell hb h_p3, bl_cell hb h_p4, bl_cell hb h_p5, bl_cell hb h_s0, bl_cell hb h_s1, bl_cell hb h_s2, bl_cell hb h_s3, log_bl h_hLs hb, bl_then h_B hb⟩)); clear hK K; clear h_p0 h_p1 h_p2 h_p3 h_p4 h_p5 h_s0 h_s1 h_s2 h_s3 h_hLs h_B; try simp only [Act.put, List.setIfInBounds_toArray, List.set_cons_zero, List.set_cons_succ])
        (refine tk (i := 6) rfl rfl hHeld ?_)
        (refine tk (i := 7) rfl rfl hHeld ?_)
        (refine tk (i := 8) rfl rfl hHeld ?_)
        refine wpAnyH_done (by kernel_rfl) ?_ _
        refine then_abs (F := fun w' => w'.cell? ⟨w1.heap.size, 0, none⟩ = some (.int .i64 k) ∧ w'.cell? ⟨w1.heap.size, 1, none⟩ = some (.int .i64 l) ∧ w'.cell? ⟨w1.heap.size, 2, none⟩ = some (.int .i64 d) ∧ w'.cell? ⟨w1.heap.size, 3, none⟩ = some (.int .i64 b) ∧ w'.cell? ⟨w1.heap.size, 4, none⟩ = some (.int .i64 cc) ∧ w'.cell? ⟨w1.heap.size, 5, none⟩ = some (.bool o) ∧ w'.cell? ⟨w2.heap.size, 0, none⟩ = some (.int .i64 sa) ∧ w'.cell? ⟨w2.heap.size, 1, none⟩ = some (.int .i64 sl) ∧ w'.cell? ⟨w2.heap.size, 2, none⟩ = some (.int .i64 sh) ∧ w'.cell? ⟨w2.heap.size, 3, none⟩ = some (.slice a n c) ∧ LogAt w' a n c sL ∧ Below w.heap.size w w') hHeld ?_
        clear hHeld hB p0 p1 p2 p3 p4 p5 s0 s1 s2 s3 hLs
        rintro w6 ⟨p0, p1, p2, p3, p4, p5, s0, s1, s2, s3, hLs, hB⟩
        replace lb_p := World.block_lt_of_cell? w6 _ p0
        dsimp only at lb_p
        replace lb_s := World.block_lt_of_cell? w6 _ s0
        dsimp only at lb_s
        go_wp2_with go_step3
        refine (H_HKN.out _).mono ?_
        rintro e w7 ⟨rfl, hb⟩
        have hsz5 : w6.heap.size + 0 ≤ w7.heap.size := by have h := hb.size; (try simp at h); omega
        replace p0 := bl_cell hb p0
        replace p1 := bl_cell hb p1
        replace p2 := bl_cell hb p2
        replace p3 := bl_cell hb p3
        replace p4 := bl_cell hb p4
        replace p5 := bl_cell hb p5
        replace s0 := bl_cell hb s0
        replace s1 := bl_cell hb s1
        replace s2 := bl_cell hb s2
        replace s3 := bl_cell hb s3
        replace hLs := log_bl hLs hb
        replace hB : Below w.heap.size w w7 := bl_then hB hb
        replace lb_p := World.block_lt_of_cell? w7 _ p0
        dsimp only at lb_p
        replace lb_s := World.block_lt_of_cell? w7 _ s0
        dsimp only at lb_s
        clear hb
        go_wp2_with go_step3
        go_ret
        exact ⟨rfl, hB⟩
      · skip
        have wu1 : IntKind.i64.wrap (sa + U) = sa + U ∨ U < 0 := by by_cases hx : U < 0; exact .inr hx; exact .inl (IntWalk.i64_in _ (by omega))
        have wu2 : IntKind.i64.wrap (sa + U - 1) = sa + U - 1 ∨ U < 0 := by by_cases hx : U < 0; exact .inr hx; exact .inl (IntWalk.i64_in _ (by omega))
        have hU : (U < 0 ∧ 0 < sh) ∨ (¬ U < 0 ∧ ¬ 0 < sh ∧ UF (sa + U) = 0 ∧ (U = 0 ∨ (¬ U = 0 ∧ 0 < UF (sa + U - 1)))) := by
          by_cases hx : U < 0
          · exact .inl ⟨hx, hng.1 hx⟩
          · obtain ⟨h1, h2⟩ := huth (by omega) (by omega)
            refine .inr ⟨hx, fun h => hx (hng.2 h), h1, ?_⟩
            by_cases hz : U = 0
            · exact .inl hz
            · exact .inr ⟨hz, h2 hz⟩
        have wr1 : IntKind.i64.wrap (sa + rn) = sa + rn := IntWalk.i64_in _ (by omega)
        have wr2 : IntKind.i64.wrap (sa + rn - 1) = sa + rn - 1 := IntWalk.i64_in _ (by omega)
        have HU := Go.Lib.hid (And.intro wu1 (And.intro wu2 hU))
        clear wu1 wu2 hU hng huth
        have hun0 : ∀ a n c w, LogAt w a n c sL → Calls Try.prog 29 #[.agg #[.int .i64 k, .int .i64 l, .int .i64 d, .int .i64 b, .int .i64 cc, .bool o], .agg #[.int .i64 sa, .int .i64 sl, .int .i64 sh, .slice a n c], .int .i64 0] w fun e w' => e = .returned (.int .i64 U) ∧ Below w.heap.size w w' := fun a n c w hw => by rw [← hUU]; exact hun 0 a n c w hw
        clear hUU
        have H_HUN0 := Go.Lib.hid hun0
        clear hun0
        have H_HRT := Go.Lib.hid hrt
        have H_HUN := Go.Lib.hid hun
        have H_HD1 := Go.Lib.hid hd1
        clear hrt hun hd1
        have lb_p := World.block_lt_of_cell? wr _ p0
        dsimp only at lb_p
        have lb_s := World.block_lt_of_cell? wr _ s0
        dsimp only at lb_s
        cases g
        · skip
          clear hrth wr1 wr2 hR1 hR2 hat
          go_wp2_with go_step3
          refine (H_HRT.out _ _ _ _ hLs).mono ?_
          rintro e w5 ⟨rfl, hb⟩
          have hsz4 : wr.heap.size + 0 ≤ w5.heap.size := by have h := hb.size; (try simp at h); omega
          replace p0 := bl_cell hb p0
          replace p1 := bl_cell hb p1
          replace p2 := bl_cell hb p2
          replace p3 := bl_cell hb p3
          replace p4 := bl_cell hb p4
          replace p5 := bl_cell hb p5
          replace s0 := bl_cell hb s0
          replace s1 := bl_cell hb s1
          replace s2 := bl_cell hb s2
          replace s3 := bl_cell hb s3
          replace hLs := log_bl hLs hb
          replace hB : Below w.heap.size w w5 := bl_then hB hb
          replace lb_p := World.block_lt_of_cell? w5 _ p0
          dsimp only at lb_p
          replace lb_s := World.block_lt_of_cell? w5 _ s0
          dsimp only at lb_s
          clear hb
          go_wp2_with go_step3
          refine wp_region_held_drew (S := fun w' => w'.cell? ⟨w1.heap.size, 0, none⟩ = some (.int .i64 k) ∧ w'.cell? ⟨w1.heap.size, 1, none⟩ = some (.int .i64 l) ∧ w'.cell? ⟨w1.heap.size, 2, none⟩ = some (.int .i64 d) ∧ w'.cell? ⟨w1.heap.size, 3, none⟩ = some (.int .i64 b) ∧ w'.cell? ⟨w1.heap.size, 4, none⟩ = some (.int .i64 cc) ∧ w'.cell? ⟨w1.heap.size, 5, none⟩ = some (.bool o) ∧ w'.cell? ⟨w2.heap.size, 0, none⟩ = some (.int .i64 sa) ∧ w'.cell? ⟨w2.heap.size, 1, none⟩ = some (.int .i64 sl) ∧ w'.cell? ⟨w2.heap.size, 2, none⟩ = some (.int .i64 sh) ∧ w'.cell? ⟨w2.heap.size, 3, none⟩ = some (.slice a n c) ∧ LogAt w' a n c sL ∧ Below w.heap.size w w') (by kernel_rfl) ?_ (fun hHeld => ?_)
          · exact ⟨p0, p1, p2, p3, p4, p5, s0, s1, s2, s3, hLs, bl_drew hB⟩
          try simp only [Act.put, List.setIfInBounds_toArray, List.set_cons_zero, List.set_cons_succ]
          (refine tk (i := 0) rfl rfl hHeld ?_)
          (refine tk (i := 1) rfl rfl hHeld ?_)
          (refine tk (i := 2) rfl rfl hHeld ?_)
          (refine tk (i := 4) rfl rfl hHeld ?_)
          (refine tk (i := 5) rfl rfl hHeld ?_)
          (refine callH (i := 3) rfl hHeld (fun W hW K hK => ?_); clear hHeld; (try dsimp only at hW); obtain ⟨h_p0, h_p1, h_p2, h_p3, h_p4, h_p5, h_s0, h_s1, h_s2, h_s3, h_hLs, h_B⟩ := hW; go_simp; refine (H_HMOST.out _).mono ?_; rintro e w9 ⟨rfl, hb⟩; go_wp2_with fail; refine hK.out _ _ ?_ (fun hHeld => ?_); (focus ((try dsimp only); exact ⟨bl_cell hb h_p0, bl_cell hb h_p1, bl_cell hb h_p2, bl_cell hb h_p3, bl_cell hb h_p4, bl_cell hb h_p5, bl_cell hb h_s0, bl_cell hb h_s1, bl_cell hb h_s2, bl_cell hb h_s3, log_bl h_hLs hb, bl_then h_B hb⟩)); clear hK K; clear h_p0 h_p1 h_p2 h_p3 h_p4 h_p5 h_s0 h_s1 h_s2 h_s3 h_hLs h_B; try simp only [Act.put, List.setIfInBounds_toArray, List.set_cons_zero, List.set_cons_succ])
          (refine tk (i := 6) rfl rfl hHeld ?_)
          (refine tk (i := 7) rfl rfl hHeld ?_)
          (refine tk (i := 8) rfl rfl hHeld ?_)
          refine wpAnyH_done (by kernel_rfl) ?_ _
          refine then_abs (F := fun w' => w'.cell? ⟨w1.heap.size, 0, none⟩ = some (.int .i64 k) ∧ w'.cell? ⟨w1.heap.size, 1, none⟩ = some (.int .i64 l) ∧ w'.cell? ⟨w1.heap.size, 2, none⟩ = some (.int .i64 d) ∧ w'.cell? ⟨w1.heap.size, 3, none⟩ = some (.int .i64 b) ∧ w'.cell? ⟨w1.heap.size, 4, none⟩ = some (.int .i64 cc) ∧ w'.cell? ⟨w1.heap.size, 5, none⟩ = some (.bool o) ∧ w'.cell? ⟨w2.heap.size, 0, none⟩ = some (.int .i64 sa) ∧ w'.cell? ⟨w2.heap.size, 1, none⟩ = some (.int .i64 sl) ∧ w'.cell? ⟨w2.heap.size, 2, none⟩ = some (.int .i64 sh) ∧ w'.cell? ⟨w2.heap.size, 3, none⟩ = some (.slice a n c) ∧ LogAt w' a n c sL ∧ Below w.heap.size w w') hHeld ?_
          clear hHeld hB p0 p1 p2 p3 p4 p5 s0 s1 s2 s3 hLs
          rintro w6 ⟨p0, p1, p2, p3, p4, p5, s0, s1, s2, s3, hLs, hB⟩
          replace lb_p := World.block_lt_of_cell? w6 _ p0
          dsimp only at lb_p
          replace lb_s := World.block_lt_of_cell? w6 _ s0
          dsimp only at lb_s
          go_wp2_with go_step3
          refine (H_HUN0.out _ _ _ _ hLs).mono ?_
          rintro e w7 ⟨rfl, hb⟩
          have hsz5 : w6.heap.size + 0 ≤ w7.heap.size := by have h := hb.size; (try simp at h); omega
          replace p0 := bl_cell hb p0
          replace p1 := bl_cell hb p1
          replace p2 := bl_cell hb p2
          replace p3 := bl_cell hb p3
          replace p4 := bl_cell hb p4
          replace p5 := bl_cell hb p5
          replace s0 := bl_cell hb s0
          replace s1 := bl_cell hb s1
          replace s2 := bl_cell hb s2
          replace s3 := bl_cell hb s3
          replace hLs := log_bl hLs hb
          replace hB : Below w.heap.size w w7 := bl_then hB hb
          replace lb_p := World.block_lt_of_cell? w7 _ p0
          dsimp only at lb_p
          replace lb_s := World.block_lt_of_cell? w7 _ s0
          dsimp only at lb_s
          clear hb
          obtain ⟨wu1, wu2, hU | ⟨hU1, hU2', hU3, hU4⟩⟩ := HU.out
          · have b1 : decide (U < 0) = true := decide_eq_true hU.1
            have b2 : decide (0 < sh) = true := decide_eq_true hU.2
            clear wu1 wu2 hU
            go_wp2_with go_step3
            refine (H_HKN.out _).mono ?_
            rintro e w8 ⟨rfl, hb⟩
            have hsz6 : w7.heap.size + 0 ≤ w8.heap.size := by have h := hb.size; (try simp at h); omega
            replace p0 := bl_cell hb p0
            replace p1 := bl_cell hb p1
            replace p2 := bl_cell hb p2
            replace p3 := bl_cell hb p3
            replace p4 := bl_cell hb p4
            replace p5 := bl_cell hb p5
            replace s0 := bl_cell hb s0
            replace s1 := bl_cell hb s1
            replace s2 := bl_cell hb s2
            replace s3 := bl_cell hb s3
            replace hLs := log_bl hLs hb
            replace hB : Below w.heap.size w w8 := bl_then hB hb
            replace lb_p := World.block_lt_of_cell? w8 _ p0
            dsimp only at lb_p
            replace lb_s := World.block_lt_of_cell? w8 _ s0
            dsimp only at lb_s
            clear hb
            go_wp2_with go_step3
            go_ret
            exact ⟨rfl, hB⟩
          · replace wu1 := wu1.resolve_right (by omega)
            replace wu2 := wu2.resolve_right (by omega)
            have b1 : decide (U < 0) = false := decide_eq_false (by omega)
            have b2 : decide (0 < sh) = false := decide_eq_false (by omega)
            clear hU1 hU2'
            rcases hU4 with hU4 | ⟨hU4, hU5⟩
            · subst hU4
              (try rw [Int.add_zero] at *)
              have hun1 : ∀ a n c w, LogAt w a n c sL → _ := fun a n c w hw => H_HUN.out sa a n c w hw
              rw [hU3] at hun1
              have H_HUN1 := Go.Lib.hid hun1
              clear hun1 hU3 wu2 b1
              go_wp2_with go_step3
              refine (H_HUN1.out _ _ _ _ hLs).mono ?_
              rintro e w8 ⟨rfl, hb⟩
              have hsz6 : w7.heap.size + 0 ≤ w8.heap.size := by have h := hb.size; (try simp at h); omega
              replace p0 := bl_cell hb p0
              replace p1 := bl_cell hb p1
              replace p2 := bl_cell hb p2
              replace p3 := bl_cell hb p3
              replace p4 := bl_cell hb p4
              replace p5 := bl_cell hb p5
              replace s0 := bl_cell hb s0
              replace s1 := bl_cell hb s1
              replace s2 := bl_cell hb s2
              replace s3 := bl_cell hb s3
              replace hLs := log_bl hLs hb
              replace hB : Below w.heap.size w w8 := bl_then hB hb
              replace lb_p := World.block_lt_of_cell? w8 _ p0
              dsimp only at lb_p
              replace lb_s := World.block_lt_of_cell? w8 _ s0
              dsimp only at lb_s
              clear hb
              go_wp2_with go_step3
              refine (H_HKN.out _).mono ?_
              rintro e w9 ⟨rfl, hb⟩
              have hsz7 : w8.heap.size + 0 ≤ w9.heap.size := by have h := hb.size; (try simp at h); omega
              replace p0 := bl_cell hb p0
              replace p1 := bl_cell hb p1
              replace p2 := bl_cell hb p2
              replace p3 := bl_cell hb p3
              replace p4 := bl_cell hb p4
              replace p5 := bl_cell hb p5
              replace s0 := bl_cell hb s0
              replace s1 := bl_cell hb s1
              replace s2 := bl_cell hb s2
              replace s3 := bl_cell hb s3
              replace hLs := log_bl hLs hb
              replace hB : Below w.heap.size w w9 := bl_then hB hb
              replace lb_p := World.block_lt_of_cell? w9 _ p0
              dsimp only at lb_p
              replace lb_s := World.block_lt_of_cell? w9 _ s0
              dsimp only at lb_s
              clear hb
              go_wp2_with go_step3
              go_ret
              exact ⟨rfl, hB⟩
            · have hun1 : ∀ a n c w, LogAt w a n c sL → _ := fun a n c w hw => H_HUN.out (sa + U) a n c w hw
              rw [hU3] at hun1
              have H_HUN1 := Go.Lib.hid hun1
              have hun2 : ∀ a n c w, LogAt w a n c sL → _ := fun a n c w hw => H_HUN.out (sa + U - 1) a n c w hw
              generalize UF (sa + U - 1) = V at *
              have b3 : decide (0 < V) = true := decide_eq_true hU5
              have b4 : decide (U = 0) = false := decide_eq_false hU4
              have H_HUN2 := Go.Lib.hid hun2
              clear hun1 hun2 hU3
              go_wp2_with go_step3
              refine (H_HUN1.out _ _ _ _ hLs).mono ?_
              rintro e w8 ⟨rfl, hb⟩
              have hsz6 : w7.heap.size + 0 ≤ w8.heap.size := by have h := hb.size; (try simp at h); omega
              replace p0 := bl_cell hb p0
              replace p1 := bl_cell hb p1
              replace p2 := bl_cell hb p2
              replace p3 := bl_cell hb p3
              replace p4 := bl_cell hb p4
              replace p5 := bl_cell hb p5
              replace s0 := bl_cell hb s0
              replace s1 := bl_cell hb s1
              replace s2 := bl_cell hb s2
              replace s3 := bl_cell hb s3
              replace hLs := log_bl hLs hb
              replace hB : Below w.heap.size w w8 := bl_then hB hb
              replace lb_p := World.block_lt_of_cell? w8 _ p0
              dsimp only at lb_p
              replace lb_s := World.block_lt_of_cell? w8 _ s0
              dsimp only at lb_s
              clear hb
              go_wp2_with go_step3
              refine (H_HUN2.out _ _ _ _ hLs).mono ?_
              rintro e w9 ⟨rfl, hb⟩
              have hsz7 : w8.heap.size + 0 ≤ w9.heap.size := by have h := hb.size; (try simp at h); omega
              replace p0 := bl_cell hb p0
              replace p1 := bl_cell hb p1
              replace p2 := bl_cell hb p2
              replace p3 := bl_cell hb p3
              replace p4 := bl_cell hb p4
              replace p5 := bl_cell hb p5
              replace s0 := bl_cell hb s0
              replace s1 := bl_cell hb s1
              replace s2 := bl_cell hb s2
              replace s3 := bl_cell hb s3
              replace hLs := log_bl hLs hb
              replace hB : Below w.heap.size w w9 := bl_then hB hb
              replace lb_p := World.block_lt_of_cell? w9 _ p0
              dsimp only at lb_p
              replace lb_s := World.block_lt_of_cell? w9 _ s0
              dsimp only at lb_s
              clear hb
              go_wp2_with go_step3
              refine (H_HKN.out _).mono ?_
              rintro e w10 ⟨rfl, hb⟩
              have hsz8 : w9.heap.size + 0 ≤ w10.heap.size := by have h := hb.size; (try simp at h); omega
              replace p0 := bl_cell hb p0
              replace p1 := bl_cell hb p1
              replace p2 := bl_cell hb p2
              replace p3 := bl_cell hb p3
              replace p4 := bl_cell hb p4
              replace p5 := bl_cell hb p5
              replace s0 := bl_cell hb s0
              replace s1 := bl_cell hb s1
              replace s2 := bl_cell hb s2
              replace s3 := bl_cell hb s3
              replace hLs := log_bl hLs hb
              replace hB : Below w.heap.size w w10 := bl_then hB hb
              replace lb_p := World.block_lt_of_cell? w10 _ p0
              dsimp only at lb_p
              replace lb_s := World.block_lt_of_cell? w10 _ s0
              dsimp only at lb_s
              clear hb
              go_wp2_with go_step3
              go_ret
              exact ⟨rfl, hB⟩
        · skip
          obtain ⟨hf1, hf2⟩ := hrth (by simpa using hg) (by omega)
          have hd3 : ∀ a n c w, LogAt w a n c sL → _ := fun a n c w hw => H_HD1.out (sa + rn) a n c w hw
          have hd4 : ∀ a n c w, LogAt w a n c sL → _ := fun a n c w hw => H_HD1.out (sa + rn - 1) a n c w hw
          generalize D ⟨1, sa + rn, 1 + cost⟩ = R3 at *
          generalize D ⟨1, sa + rn - 1, 1 + cost⟩ = R4 at *
          obtain ⟨⟨r3a, r3l, r3h, r3L⟩, r3o⟩ := R3
          obtain ⟨⟨r4a, r4l, r4h, r4L⟩, r4o⟩ := R4
          dsimp only at hf1 hf2
          subst hf1
          have hrz : (¬ 0 < rn) ∨ (0 < rn ∧ r4o = false) := by
            by_cases hx : 0 < rn
            · exact .inr ⟨hx, hf2 hx⟩
            · exact .inl hx
          have HRZ := Go.Lib.hid hrz
          have H_HD3 := Go.Lib.hid hd3
          have H_HD4 := Go.Lib.hid hd4
          clear hrz hd3 hd4 hf2 hrth hat H_HD1
          go_wp2_with go_step3
          refine (H_HRT.out _ _ _ _ hLs).mono ?_
          rintro e w5 ⟨rfl, hb⟩
          have hsz4 : wr.heap.size + 0 ≤ w5.heap.size := by have h := hb.size; (try simp at h); omega
          replace p0 := bl_cell hb p0
          replace p1 := bl_cell hb p1
          replace p2 := bl_cell hb p2
          replace p3 := bl_cell hb p3
          replace p4 := bl_cell hb p4
          replace p5 := bl_cell hb p5
          replace s0 := bl_cell hb s0
          replace s1 := bl_cell hb s1
          replace s2 := bl_cell hb s2
          replace s3 := bl_cell hb s3
          replace hLs := log_bl hLs hb
          replace hB : Below w.heap.size w w5 := bl_then hB hb
          replace lb_p := World.block_lt_of_cell? w5 _ p0
          dsimp only at lb_p
          replace lb_s := World.block_lt_of_cell? w5 _ s0
          dsimp only at lb_s
          clear hb
          go_wp2_with go_step3
          refine wp_region_held_drew (S := fun w' => w'.cell? ⟨w1.heap.size, 0, none⟩ = some (.int .i64 k) ∧ w'.cell? ⟨w1.heap.size, 1, none⟩ = some (.int .i64 l) ∧ w'.cell? ⟨w1.heap.size, 2, none⟩ = some (.int .i64 d) ∧ w'.cell? ⟨w1.heap.size, 3, none⟩ = some (.int .i64 b) ∧ w'.cell? ⟨w1.heap.size, 4, none⟩ = some (.int .i64 cc) ∧ w'.cell? ⟨w1.heap.size, 5, none⟩ = some (.bool o) ∧ w'.cell? ⟨w2.heap.size, 0, none⟩ = some (.int .i64 sa) ∧ w'.cell? ⟨w2.heap.size, 1, none⟩ = some (.int .i64 sl) ∧ w'.cell? ⟨w2.heap.size, 2, none⟩ = some (.int .i64 sh) ∧ w'.cell? ⟨w2.heap.size, 3, none⟩ = some (.slice a n c) ∧ LogAt w' a n c sL ∧ Below w.heap.size w w') (by kernel_rfl) ?_ (fun hHeld => ?_)
          · exact ⟨p0, p1, p2, p3, p4, p5, s0, s1, s2, s3, hLs, bl_drew hB⟩
          try simp only [Act.put, List.setIfInBounds_toArray, List.set_cons_zero, List.set_cons_succ]
          (refine tk (i := 0) rfl rfl hHeld ?_)
          (refine tk (i := 1) rfl rfl hHeld ?_)
          (refine tk (i := 2) rfl rfl hHeld ?_)
          (refine tk (i := 4) rfl rfl hHeld ?_)
          (refine tk (i := 5) rfl rfl hHeld ?_)
          (refine callH (i := 3) rfl hHeld (fun W hW K hK => ?_); clear hHeld; (try dsimp only at hW); obtain ⟨h_p0, h_p1, h_p2, h_p3, h_p4, h_p5, h_s0, h_s1, h_s2, h_s3, h_hLs, h_B⟩ := hW; go_simp; refine (H_HMOST.out _).mono ?_; rintro e w9 ⟨rfl, hb⟩; go_wp2_with fail; refine hK.out _ _ ?_ (fun hHeld => ?_); (focus ((try dsimp only); exact ⟨bl_cell hb h_p0, bl_cell hb h_p1, bl_cell hb h_p2, bl_cell hb h_p3, bl_cell hb h_p4, bl_cell hb h_p5, bl_cell hb h_s0, bl_cell hb h_s1, bl_cell hb h_s2, bl_cell hb h_s3, log_bl h_hLs hb, bl_then h_B hb⟩)); clear hK K; clear h_p0 h_p1 h_p2 h_p3 h_p4 h_p5 h_s0 h_s1 h_s2 h_s3 h_hLs h_B; try simp only [Act.put, List.setIfInBounds_toArray, List.set_cons_zero, List.set_cons_succ])
          (refine tk (i := 6) rfl rfl hHeld ?_)
          (refine tk (i := 7) rfl rfl hHeld ?_)
          (refine tk (i := 8) rfl rfl hHeld ?_)
          refine wpAnyH_done (by kernel_rfl) ?_ _
          refine then_abs (F := fun w' => w'.cell? ⟨w1.heap.size, 0, none⟩ = some (.int .i64 k) ∧ w'.cell? ⟨w1.heap.size, 1, none⟩ = some (.int .i64 l) ∧ w'.cell? ⟨w1.heap.size, 2, none⟩ = some (.int .i64 d) ∧ w'.cell? ⟨w1.heap.size, 3, none⟩ = some (.int .i64 b) ∧ w'.cell? ⟨w1.heap.size, 4, none⟩ = some (.int .i64 cc) ∧ w'.cell? ⟨w1.heap.size, 5, none⟩ = some (.bool o) ∧ w'.cell? ⟨w2.heap.size, 0, none⟩ = some (.int .i64 sa) ∧ w'.cell? ⟨w2.heap.size, 1, none⟩ = some (.int .i64 sl) ∧ w'.cell? ⟨w2.heap.size, 2, none⟩ = some (.int .i64 sh) ∧ w'.cell? ⟨w2.heap.size, 3, none⟩ = some (.slice a n c) ∧ LogAt w' a n c sL ∧ Below w.heap.size w w') hHeld ?_
          clear hHeld hB p0 p1 p2 p3 p4 p5 s0 s1 s2 s3 hLs
          rintro w6 ⟨p0, p1, p2, p3, p4, p5, s0, s1, s2, s3, hLs, hB⟩
          replace lb_p := World.block_lt_of_cell? w6 _ p0
          dsimp only at lb_p
          replace lb_s := World.block_lt_of_cell? w6 _ s0
          dsimp only at lb_s
          go_wp2_with go_step3
          refine (H_HD3.out _ _ _ _ hLs).mono ?_
          rintro e w7 ⟨a5, n5, c5, rfl, -, -, hb⟩
          have hsz5 : w6.heap.size + 0 ≤ w7.heap.size := by have h := hb.size; (try simp at h); omega
          replace p0 := bl_cell hb p0
          replace p1 := bl_cell hb p1
          replace p2 := bl_cell hb p2
          replace p3 := bl_cell hb p3
          replace p4 := bl_cell hb p4
          replace p5 := bl_cell hb p5
          replace s0 := bl_cell hb s0
          replace s1 := bl_cell hb s1
          replace s2 := bl_cell hb s2
          replace s3 := bl_cell hb s3
          replace hLs := log_bl hLs hb
          replace hB : Below w.heap.size w w7 := bl_then hB hb
          replace lb_p := World.block_lt_of_cell? w7 _ p0
          dsimp only at lb_p
          replace lb_s := World.block_lt_of_cell? w7 _ s0
          dsimp only at lb_s
          clear hb
          unfold St.v
          (try dsimp only)
          go_wp2_with go_step3
          refine (H_HD4.out _ _ _ _ (log_bl hLs (bl_alloc (bl_refl _) _))).mono ?_
          rintro e w8 ⟨a6, n6, c6, rfl, -, -, hb⟩
          have hx : Below w7.heap.size w7 w8 := bl_then (bl_alloc (bl_refl _) _) hb
          have hsz6 : w7.heap.size + 1 ≤ w8.heap.size := by have h := hb.size; (try simp at h); omega
          replace p0 := bl_cell hx p0
          replace p1 := bl_cell hx p1
          replace p2 := bl_cell hx p2
          replace p3 := bl_cell hx p3
          replace p4 := bl_cell hx p4
          replace p5 := bl_cell hx p5
          replace s0 := bl_cell hx s0
          replace s1 := bl_cell hx s1
          replace s2 := bl_cell hx s2
          replace s3 := bl_cell hx s3
          replace hLs := log_bl hLs hx
          have y0 := bl_cell (v := .int .i64 r3a) hb (show World.cell? _ ⟨w7.heap.size, 0, none⟩ = _ by go_simp)
          have y1 := bl_cell (v := .int .i64 r3l) hb (show World.cell? _ ⟨w7.heap.size, 1, none⟩ = _ by go_simp)
          have y2 := bl_cell (v := .int .i64 r3h) hb (show World.cell? _ ⟨w7.heap.size, 2, none⟩ = _ by go_simp)
          have y3 := bl_cell (v := .slice a5 n5 c5) hb (show World.cell? _ ⟨w7.heap.size, 3, none⟩ = _ by go_simp)
          replace hB : Below w.heap.size w w8 := bl_then hB hx
          replace lb_p := World.block_lt_of_cell? w8 _ p0
          dsimp only at lb_p
          replace lb_s := World.block_lt_of_cell? w8 _ s0
          dsimp only at lb_s
          have lb_y := World.block_lt_of_cell? w8 _ y0
          dsimp only at lb_y
          clear hb hx
          unfold St.v
          (try dsimp only)
          clear y0
          clear y1
          clear y2
          clear y3
          rcases HRZ.out with hz1 | ⟨hz1, hz2⟩
          · have hz : decide (0 < rn) = false := decide_eq_false (by omega)
            go_wp2_with go_step3
            refine (H_HUN0.out _ _ _ _ (log_bl hLs (bl_alloc (bl_refl _) _))).mono ?_
            rintro e w9 ⟨rfl, hb⟩
            have hx : Below w8.heap.size w8 w9 := bl_then (bl_alloc (bl_refl _) _) hb
            have hsz7 : w8.heap.size + 1 ≤ w9.heap.size := by have h := hb.size; (try simp at h); omega
            replace p0 := bl_cell hx p0
            replace p1 := bl_cell hx p1
            replace p2 := bl_cell hx p2
            replace p3 := bl_cell hx p3
            replace p4 := bl_cell hx p4
            replace p5 := bl_cell hx p5
            replace s0 := bl_cell hx s0
            replace s1 := bl_cell hx s1
            replace s2 := bl_cell hx s2
            replace s3 := bl_cell hx s3
            replace hLs := log_bl hLs hx
            have z0 := bl_cell (v := .int .i64 r4a) hb (show World.cell? _ ⟨w8.heap.size, 0, none⟩ = _ by go_simp)
            have z1 := bl_cell (v := .int .i64 r4l) hb (show World.cell? _ ⟨w8.heap.size, 1, none⟩ = _ by go_simp)
            have z2 := bl_cell (v := .int .i64 r4h) hb (show World.cell? _ ⟨w8.heap.size, 2, none⟩ = _ by go_simp)
            have z3 := bl_cell (v := .slice a6 n6 c6) hb (show World.cell? _ ⟨w8.heap.size, 3, none⟩ = _ by go_simp)
            replace hB : Below w.heap.size w w9 := bl_then hB hx
            replace lb_p := World.block_lt_of_cell? w9 _ p0
            dsimp only at lb_p
            replace lb_s := World.block_lt_of_cell? w9 _ s0
            dsimp only at lb_s
            have lb_z := World.block_lt_of_cell? w9 _ z0
            dsimp only at lb_z
            clear hb hx
            obtain ⟨wu1, wu2, hU | ⟨hU1, hU2', hU3, hU4⟩⟩ := HU.out
            · have b1 : decide (U < 0) = true := decide_eq_true hU.1
              have b2 : decide (0 < sh) = true := decide_eq_true hU.2
              clear wu1 wu2 hU
              go_wp2_with go_step3
              refine (H_HKN.out _).mono ?_
              rintro e w10 ⟨rfl, hb⟩
              have hsz8 : w9.heap.size + 0 ≤ w10.heap.size := by have h := hb.size; (try simp at h); omega
              replace p0 := bl_cell hb p0
              replace p1 := bl_cell hb p1
              replace p2 := bl_cell hb p2
              replace p3 := bl_cell hb p3
              replace p4 := bl_cell hb p4
              replace p5 := bl_cell hb p5
              replace s0 := bl_cell hb s0
              replace s1 := bl_cell hb s1
              replace s2 := bl_cell hb s2
              replace s3 := bl_cell hb s3
              replace hLs := log_bl hLs hb
              replace z0 := bl_cell hb z0
              replace z1 := bl_cell hb z1
              replace z2 := bl_cell hb z2
              replace z3 := bl_cell hb z3
              replace hB : Below w.heap.size w w10 := bl_then hB hb
              replace lb_p := World.block_lt_of_cell? w10 _ p0
              dsimp only at lb_p
              replace lb_s := World.block_lt_of_cell? w10 _ s0
              dsimp only at lb_s
              replace lb_z := World.block_lt_of_cell? w10 _ z0
              dsimp only at lb_z
              clear hb
              go_wp2_with go_step3
              go_ret
              exact ⟨rfl, hB⟩
            · replace wu1 := wu1.resolve_right (by omega)
              replace wu2 := wu2.resolve_right (by omega)
              have b1 : decide (U < 0) = false := decide_eq_false (by omega)
              have b2 : decide (0 < sh) = false := decide_eq_false (by omega)
              clear hU1 hU2'
              rcases hU4 with hU4 | ⟨hU4, hU5⟩
              · subst hU4
                (try rw [Int.add_zero] at *)
                have hun1 : ∀ a n c w, LogAt w a n c sL → _ := fun a n c w hw => H_HUN.out sa a n c w hw
                rw [hU3] at hun1
                have H_HUN1 := Go.Lib.hid hun1
                clear hun1 hU3 wu2 b1
                go_wp2_with go_step3
                refine (H_HUN1.out _ _ _ _ hLs).mono ?_
                rintro e w10 ⟨rfl, hb⟩
                have hsz8 : w9.heap.size + 0 ≤ w10.heap.size := by have h := hb.size; (try simp at h); omega
                replace p0 := bl_cell hb p0
                replace p1 := bl_cell hb p1
                replace p2 := bl_cell hb p2
                replace p3 := bl_cell hb p3
                replace p4 := bl_cell hb p4
                replace p5 := bl_cell hb p5
                replace s0 := bl_cell hb s0
                replace s1 := bl_cell hb s1
                replace s2 := bl_cell hb s2
                replace s3 := bl_cell hb s3
                replace hLs := log_bl hLs hb
                replace z0 := bl_cell hb z0
                replace z1 := bl_cell hb z1
                replace z2 := bl_cell hb z2
                replace z3 := bl_cell hb z3
                replace hB : Below w.heap.size w w10 := bl_then hB hb
                replace lb_p := World.block_lt_of_cell? w10 _ p0
                dsimp only at lb_p
                replace lb_s := World.block_lt_of_cell? w10 _ s0
                dsimp only at lb_s
                replace lb_z := World.block_lt_of_cell? w10 _ z0
                dsimp only at lb_z
                clear hb
                go_wp2_with go_step3
                refine (H_HKN.out _).mono ?_
                rintro e w11 ⟨rfl, hb⟩
                have hsz9 : w10.heap.size + 0 ≤ w11.heap.size := by have h := hb.size; (try simp at h); omega
                replace p0 := bl_cell hb p0
                replace p1 := bl_cell hb p1
                replace p2 := bl_cell hb p2
                replace p3 := bl_cell hb p3
                replace p4 := bl_cell hb p4
                replace p5 := bl_cell hb p5
                replace s0 := bl_cell hb s0
                replace s1 := bl_cell hb s1
                replace s2 := bl_cell hb s2
                replace s3 := bl_cell hb s3
                replace hLs := log_bl hLs hb
                replace z0 := bl_cell hb z0
                replace z1 := bl_cell hb z1
                replace z2 := bl_cell hb z2
                replace z3 := bl_cell hb z3
                replace hB : Below w.heap.size w w11 := bl_then hB hb
                replace lb_p := World.block_lt_of_cell? w11 _ p0
                dsimp only at lb_p
                replace lb_s := World.block_lt_of_cell? w11 _ s0
                dsimp only at lb_s
                replace lb_z := World.block_lt_of_cell? w11 _ z0
                dsimp only at lb_z
                clear hb
                go_wp2_with go_step3
                go_ret
                exact ⟨rfl, hB⟩
              · have hun1 : ∀ a n c w, LogAt w a n c sL → _ := fun a n c w hw => H_HUN.out (sa + U) a n c w hw
                rw [hU3] at hun1
                have H_HUN1 := Go.Lib.hid hun1
                have hun2 : ∀ a n c w, LogAt w a n c sL → _ := fun a n c w hw => H_HUN.out (sa + U - 1) a n c w hw
                generalize UF (sa + U - 1) = V at *
                have b3 : decide (0 < V) = true := decide_eq_true hU5
                have b4 : decide (U = 0) = false := decide_eq_false hU4
                have H_HUN2 := Go.Lib.hid hun2
                clear hun1 hun2 hU3
                go_wp2_with go_step3
                refine (H_HUN1.out _ _ _ _ hLs).mono ?_
                rintro e w10 ⟨rfl, hb⟩
                have hsz8 : w9.heap.size + 0 ≤ w10.heap.size := by have h := hb.size; (try simp at h); omega
                replace p0 := bl_cell hb p0
                replace p1 := bl_cell hb p1
                replace p2 := bl_cell hb p2
                replace p3 := bl_cell hb p3
                replace p4 := bl_cell hb p4
                replace p5 := bl_cell hb p5
                replace s0 := bl_cell hb s0
                replace s1 := bl_cell hb s1
                replace s2 := bl_cell hb s2
                replace s3 := bl_cell hb s3
                replace hLs := log_bl hLs hb
                replace z0 := bl_cell hb z0
                replace z1 := bl_cell hb z1
                replace z2 := bl_cell hb z2
                replace z3 := bl_cell hb z3
                replace hB : Below w.heap.size w w10 := bl_then hB hb
                replace lb_p := World.block_lt_of_cell? w10 _ p0
                dsimp only at lb_p
                replace lb_s := World.block_lt_of_cell? w10 _ s0
                dsimp only at lb_s
                replace lb_z := World.block_lt_of_cell? w10 _ z0
                dsimp only at lb_z
                clear hb
                go_wp2_with go_step3
                refine (H_HUN2.out _ _ _ _ hLs).mono ?_
                rintro e w11 ⟨rfl, hb⟩
                have hsz9 : w10.heap.size + 0 ≤ w11.heap.size := by have h := hb.size; (try simp at h); omega
                replace p0 := bl_cell hb p0
                replace p1 := bl_cell hb p1
                replace p2 := bl_cell hb p2
                replace p3 := bl_cell hb p3
                replace p4 := bl_cell hb p4
                replace p5 := bl_cell hb p5
                replace s0 := bl_cell hb s0
                replace s1 := bl_cell hb s1
                replace s2 := bl_cell hb s2
                replace s3 := bl_cell hb s3
                replace hLs := log_bl hLs hb
                replace z0 := bl_cell hb z0
                replace z1 := bl_cell hb z1
                replace z2 := bl_cell hb z2
                replace z3 := bl_cell hb z3
                replace hB : Below w.heap.size w w11 := bl_then hB hb
                replace lb_p := World.block_lt_of_cell? w11 _ p0
                dsimp only at lb_p
                replace lb_s := World.block_lt_of_cell? w11 _ s0
                dsimp only at lb_s
                replace lb_z := World.block_lt_of_cell? w11 _ z0
                dsimp only at lb_z
                clear hb
                go_wp2_with go_step3
                refine (H_HKN.out _).mono ?_
                rintro e w12 ⟨rfl, hb⟩
                have hsz10 : w11.heap.size + 0 ≤ w12.heap.size := by have h := hb.size; (try simp at h); omega
                replace p0 := bl_cell hb p0
                replace p1 := bl_cell hb p1
                replace p2 := bl_cell hb p2
                replace p3 := bl_cell hb p3
                replace p4 := bl_cell hb p4
                replace p5 := bl_cell hb p5
                replace s0 := bl_cell hb s0
                replace s1 := bl_cell hb s1
                replace s2 := bl_cell hb s2
                replace s3 := bl_cell hb s3
                replace hLs := log_bl hLs hb
                replace z0 := bl_cell hb z0
                replace z1 := bl_cell hb z1
                replace z2 := bl_cell hb z2
                replace z3 := bl_cell hb z3
                replace hB : Below w.heap.size w w12 := bl_then hB hb
                replace lb_p := World.block_lt_of_cell? w12 _ p0
                dsimp only at lb_p
                replace lb_s := World.block_lt_of_cell? w12 _ s0
                dsimp only at lb_s
                replace lb_z := World.block_lt_of_cell? w12 _ z0
                dsimp only at lb_z
                clear hb
                go_wp2_with go_step3
                go_ret
                exact ⟨rfl, hB⟩
          · subst hz2
            have hz : decide (0 < rn) = true := decide_eq_true hz1
            go_wp2_with go_step3
            refine (H_HUN0.out _ _ _ _ (log_bl hLs (bl_alloc (bl_refl _) _))).mono ?_
            rintro e w9 ⟨rfl, hb⟩
            have hx : Below w8.heap.size w8 w9 := bl_then (bl_alloc (bl_refl _) _) hb
            have hsz7 : w8.heap.size + 1 ≤ w9.heap.size := by have h := hb.size; (try simp at h); omega
            replace p0 := bl_cell hx p0
            replace p1 := bl_cell hx p1
            replace p2 := bl_cell hx p2
            replace p3 := bl_cell hx p3
            replace p4 := bl_cell hx p4
            replace p5 := bl_cell hx p5
            replace s0 := bl_cell hx s0
            replace s1 := bl_cell hx s1
            replace s2 := bl_cell hx s2
            replace s3 := bl_cell hx s3
            replace hLs := log_bl hLs hx
            have z0 := bl_cell (v := .int .i64 r4a) hb (show World.cell? _ ⟨w8.heap.size, 0, none⟩ = _ by go_simp)
            have z1 := bl_cell (v := .int .i64 r4l) hb (show World.cell? _ ⟨w8.heap.size, 1, none⟩ = _ by go_simp)
            have z2 := bl_cell (v := .int .i64 r4h) hb (show World.cell? _ ⟨w8.heap.size, 2, none⟩ = _ by go_simp)
            have z3 := bl_cell (v := .slice a6 n6 c6) hb (show World.cell? _ ⟨w8.heap.size, 3, none⟩ = _ by go_simp)
            replace hB : Below w.heap.size w w9 := bl_then hB hx
            replace lb_p := World.block_lt_of_cell? w9 _ p0
            dsimp only at lb_p
            replace lb_s := World.block_lt_of_cell? w9 _ s0
            dsimp only at lb_s
            have lb_z := World.block_lt_of_cell? w9 _ z0
            dsimp only at lb_z
            clear hb hx
            obtain ⟨wu1, wu2, hU | ⟨hU1, hU2', hU3, hU4⟩⟩ := HU.out
            · have b1 : decide (U < 0) = true := decide_eq_true hU.1
              have b2 : decide (0 < sh) = true := decide_eq_true hU.2
              clear wu1 wu2 hU
              go_wp2_with go_step3
              refine (H_HKN.out _).mono ?_
              rintro e w10 ⟨rfl, hb⟩
              have hsz8 : w9.heap.size + 0 ≤ w10.heap.size := by have h := hb.size; (try simp at h); omega
              replace p0 := bl_cell hb p0
              replace p1 := bl_cell hb p1
              replace p2 := bl_cell hb p2
              replace p3 := bl_cell hb p3
              replace p4 := bl_cell hb p4
              replace p5 := bl_cell hb p5
              replace s0 := bl_cell hb s0
              replace s1 := bl_cell hb s1
              replace s2 := bl_cell hb s2
              replace s3 := bl_cell hb s3
              replace hLs := log_bl hLs hb
              replace z0 := bl_cell hb z0
              replace z1 := bl_cell hb z1
              replace z2 := bl_cell hb z2
              replace z3 := bl_cell hb z3
              replace hB : Below w.heap.size w w10 := bl_then hB hb
              replace lb_p := World.block_lt_of_cell? w10 _ p0
              dsimp only at lb_p
              replace lb_s := World.block_lt_of_cell? w10 _ s0
              dsimp only at lb_s
              replace lb_z := World.block_lt_of_cell? w10 _ z0
              dsimp only at lb_z
              clear hb
              go_wp2_with go_step3
              go_ret
              exact ⟨rfl, hB⟩
            · replace wu1 := wu1.resolve_right (by omega)
              replace wu2 := wu2.resolve_right (by omega)
              have b1 : decide (U < 0) = false := decide_eq_false (by omega)
              have b2 : decide (0 < sh) = false := decide_eq_false (by omega)
              clear hU1 hU2'
              rcases hU4 with hU4 | ⟨hU4, hU5⟩
              · subst hU4
                (try rw [Int.add_zero] at *)
                have hun1 : ∀ a n c w, LogAt w a n c sL → _ := fun a n c w hw => H_HUN.out sa a n c w hw
                rw [hU3] at hun1
                have H_HUN1 := Go.Lib.hid hun1
                clear hun1 hU3 wu2 b1
                go_wp2_with go_step3
                refine (H_HUN1.out _ _ _ _ hLs).mono ?_
                rintro e w10 ⟨rfl, hb⟩
                have hsz8 : w9.heap.size + 0 ≤ w10.heap.size := by have h := hb.size; (try simp at h); omega
                replace p0 := bl_cell hb p0
                replace p1 := bl_cell hb p1
                replace p2 := bl_cell hb p2
                replace p3 := bl_cell hb p3
                replace p4 := bl_cell hb p4
                replace p5 := bl_cell hb p5
                replace s0 := bl_cell hb s0
                replace s1 := bl_cell hb s1
                replace s2 := bl_cell hb s2
                replace s3 := bl_cell hb s3
                replace hLs := log_bl hLs hb
                replace z0 := bl_cell hb z0
                replace z1 := bl_cell hb z1
                replace z2 := bl_cell hb z2
                replace z3 := bl_cell hb z3
                replace hB : Below w.heap.size w w10 := bl_then hB hb
                replace lb_p := World.block_lt_of_cell? w10 _ p0
                dsimp only at lb_p
                replace lb_s := World.block_lt_of_cell? w10 _ s0
                dsimp only at lb_s
                replace lb_z := World.block_lt_of_cell? w10 _ z0
                dsimp only at lb_z
                clear hb
                go_wp2_with go_step3
                refine (H_HKN.out _).mono ?_
                rintro e w11 ⟨rfl, hb⟩
                have hsz9 : w10.heap.size + 0 ≤ w11.heap.size := by have h := hb.size; (try simp at h); omega
                replace p0 := bl_cell hb p0
                replace p1 := bl_cell hb p1
                replace p2 := bl_cell hb p2
                replace p3 := bl_cell hb p3
                replace p4 := bl_cell hb p4
                replace p5 := bl_cell hb p5
                replace s0 := bl_cell hb s0
                replace s1 := bl_cell hb s1
                replace s2 := bl_cell hb s2
                replace s3 := bl_cell hb s3
                replace hLs := log_bl hLs hb
                replace z0 := bl_cell hb z0
                replace z1 := bl_cell hb z1
                replace z2 := bl_cell hb z2
                replace z3 := bl_cell hb z3
                replace hB : Below w.heap.size w w11 := bl_then hB hb
                replace lb_p := World.block_lt_of_cell? w11 _ p0
                dsimp only at lb_p
                replace lb_s := World.block_lt_of_cell? w11 _ s0
                dsimp only at lb_s
                replace lb_z := World.block_lt_of_cell? w11 _ z0
                dsimp only at lb_z
                clear hb
                go_wp2_with go_step3
                go_ret
                exact ⟨rfl, hB⟩
              · have hun1 : ∀ a n c w, LogAt w a n c sL → _ := fun a n c w hw => H_HUN.out (sa + U) a n c w hw
                rw [hU3] at hun1
                have H_HUN1 := Go.Lib.hid hun1
                have hun2 : ∀ a n c w, LogAt w a n c sL → _ := fun a n c w hw => H_HUN.out (sa + U - 1) a n c w hw
                generalize UF (sa + U - 1) = V at *
                have b3 : decide (0 < V) = true := decide_eq_true hU5
                have b4 : decide (U = 0) = false := decide_eq_false hU4
                have H_HUN2 := Go.Lib.hid hun2
                clear hun1 hun2 hU3
                go_wp2_with go_step3
                refine (H_HUN1.out _ _ _ _ hLs).mono ?_
                rintro e w10 ⟨rfl, hb⟩
                have hsz8 : w9.heap.size + 0 ≤ w10.heap.size := by have h := hb.size; (try simp at h); omega
                replace p0 := bl_cell hb p0
                replace p1 := bl_cell hb p1
                replace p2 := bl_cell hb p2
                replace p3 := bl_cell hb p3
                replace p4 := bl_cell hb p4
                replace p5 := bl_cell hb p5
                replace s0 := bl_cell hb s0
                replace s1 := bl_cell hb s1
                replace s2 := bl_cell hb s2
                replace s3 := bl_cell hb s3
                replace hLs := log_bl hLs hb
                replace z0 := bl_cell hb z0
                replace z1 := bl_cell hb z1
                replace z2 := bl_cell hb z2
                replace z3 := bl_cell hb z3
                replace hB : Below w.heap.size w w10 := bl_then hB hb
                replace lb_p := World.block_lt_of_cell? w10 _ p0
                dsimp only at lb_p
                replace lb_s := World.block_lt_of_cell? w10 _ s0
                dsimp only at lb_s
                replace lb_z := World.block_lt_of_cell? w10 _ z0
                dsimp only at lb_z
                clear hb
                go_wp2_with go_step3
                refine (H_HUN2.out _ _ _ _ hLs).mono ?_
                rintro e w11 ⟨rfl, hb⟩
                have hsz9 : w10.heap.size + 0 ≤ w11.heap.size := by have h := hb.size; (try simp at h); omega
                replace p0 := bl_cell hb p0
                replace p1 := bl_cell hb p1
                replace p2 := bl_cell hb p2
                replace p3 := bl_cell hb p3
                replace p4 := bl_cell hb p4
                replace p5 := bl_cell hb p5
                replace s0 := bl_cell hb s0
                replace s1 := bl_cell hb s1
                replace s2 := bl_cell hb s2
                replace s3 := bl_cell hb s3
                replace hLs := log_bl hLs hb
                replace z0 := bl_cell hb z0
                replace z1 := bl_cell hb z1
                replace z2 := bl_cell hb z2
                replace z3 := bl_cell hb z3
                replace hB : Below w.heap.size w w11 := bl_then hB hb
                replace lb_p := World.block_lt_of_cell? w11 _ p0
                dsimp only at lb_p
                replace lb_s := World.block_lt_of_cell? w11 _ s0
                dsimp only at lb_s
                replace lb_z := World.block_lt_of_cell? w11 _ z0
                dsimp only at lb_z
                clear hb
                go_wp2_with go_step3
                refine (H_HKN.out _).mono ?_
                rintro e w12 ⟨rfl, hb⟩
                have hsz10 : w11.heap.size + 0 ≤ w12.heap.size := by have h := hb.size; (try simp at h); omega
                replace p0 := bl_cell hb p0
                replace p1 := bl_cell hb p1
                replace p2 := bl_cell hb p2
                replace p3 := bl_cell hb p3
                replace p4 := bl_cell hb p4
                replace p5 := bl_cell hb p5
                replace s0 := bl_cell hb s0
                replace s1 := bl_cell hb s1
                replace s2 := bl_cell hb s2
                replace s3 := bl_cell hb s3
                replace hLs := log_bl hLs hb
                replace z0 := bl_cell hb z0
                replace z1 := bl_cell hb z1
                replace z2 := bl_cell hb z2
                replace z3 := bl_cell hb z3
                replace hB : Below w.heap.size w w12 := bl_then hB hb
                replace lb_p := World.block_lt_of_cell? w12 _ p0
                dsimp only at lb_p
                replace lb_s := World.block_lt_of_cell? w12 _ s0
                dsimp only at lb_s
                replace lb_z := World.block_lt_of_cell? w12 _ z0
                dsimp only at lb_z
                clear hb
                go_wp2_with go_step3
                go_ret
                exact ⟨rfl, hB⟩

theorem retries_walk (kd lm pd bs : Int) (la : Option Addr) (m lc : Nat) (acts : List Ac) (cost : Int) (w : World) (hk1 : 0 ≤ kd) (hk2 : kd ≤ 255) (hl1 : 0 ≤ lm) (hl2 : lm ≤ 65535) (hp1 : 0 ≤ pd) (hp2 : pd ≤ 65535) (hb1 : 0 ≤ bs) (hb2 : bs ≤ 65535) (hA : ActsIn w la m lc acts) (hc1 : 0 ≤ cost) (hc2 : cost ≤ 255) :
    Calls Try.prog 7 #[.int .u8 kd, .int .u16 lm, .int .u16 pd, .int .u16 bs, .slice la m lc, .int .u8 cost] w fun e w' => e = .returned (.bool true) ∧ Below w.heap.size w w' := by
  by_cases hm : (m : Int) ≤ 60
  · exact retries_run kd lm pd bs la m lc acts cost w ⟨hk1, hk2⟩ ⟨hl1, hl2⟩ ⟨hp1, hp2⟩ ⟨hb1, hb2⟩ ⟨hc1, hc2⟩ hm hA _ rfl
  · exact retries_long kd lm pd bs la m lc acts cost w hm
end Go.Proofs.Ythinbjknkjpdjaa

namespace Go.Proofs.Ythinbjknkjpdjaa.limiterRetries
open Go.ChangeShapes Go.WideShapes Go.ChangeAt Go.RowKit
open Go.ChangeMaps (open_string shut_string)
set_option linter.unusedVariables false
set_option linter.unusedSimpArgs false

theorem own : ownKnob Try.prog.godebug = none := by kernel_rfl
theorem laidOut : laidOutB Try.prog = true := by kernel_rfl

set_option maxHeartbeats 1000000 in
set_option maxRecDepth 100000 in
theorem lifted (os : Os) (started : os.Started) (H : Type) (enc : TypeId × Value → H) :
    ReturnsInHanded {} Try.checked os 7 .any (Rows.limiterRetriesSpec.pre6 enc Try.prog Try.f7 Rows.limiterRetriesRow.domain false) (Rows.limiterRetriesSpec.post enc Try.prog Try.f7 false true false false) := by
  refine returnsInHanded_of_change (C := Try.checked) own started (by kernel_rfl) Try.func7
    (ChangeSpec.witness6 (enc := enc) (C := Try.checked) false ⟨#[], #[.int .u8 0, .int .u16 0, .int .u16 0, .int .u16 0, .slice none 0 0, .int .u8 0], []⟩ 8 (by kernel_rfl) (by kernel_rfl) (by kernel_rfl) (by kernel_rfl)) ?_
  intro W base args ds gs before hval0 hW hcnd _
  have hval : ∀ (j : Nat) t v, Try.f7.params[j]? = some t → args[j]? = some v → Value.okWide Try.prog W .any base t v := hval0
  have hW' := hW
  obtain ⟨p, q, hA0, hV, rfl, hfz, hnd⟩ := hW
  have hA : DataW.TrodAll enc Try.prog W 0 (fun _ => true) true Try.f7.params.toList args.toList ds p := hA0
  rw [Try.params7] at hA hval
  obtain ⟨v0, vs0, d0, ds0', p0, q0, hargs, rfl, rfl, h0, r0⟩ := trodAll_cons hA
  obtain ⟨v1, vs1, d1, ds1', p1, q1, rfl, rfl, rfl, h1, r1⟩ := trodAll_cons r0
  obtain ⟨v2, vs2, d2, ds2', p2, q2, rfl, rfl, rfl, h2, r2⟩ := trodAll_cons r1
  obtain ⟨v3, vs3, d3, ds3', p3, q3, rfl, rfl, rfl, h3, r3⟩ := trodAll_cons r2
  obtain ⟨v4, vs4, d4, ds4', p4, q4, rfl, rfl, rfl, h4, r4⟩ := trodAll_cons r3
  obtain ⟨v5, vs5, d5, ds5', p5, q5, rfl, rfl, rfl, h5, r5⟩ := trodAll_cons r4
  obtain ⟨rfl, rfl, rfl⟩ := trodAll_nil r5
  obtain rfl : args = #[v0, v1, v2, v3, v4, v5] := by cases args; simp_all
  obtain ⟨rfl, rfl⟩ := trodVars_none hV
  obtain ⟨a0, rfl, rfl, rfl, w0⟩ := open_int Try.underlying5 (hval 0 5 v0 rfl rfl) h0
  have b0l : 0 ≤ a0 := by have h := w0; simp only [Lit.wf, Bool.and_eq_true, decide_eq_true_eq] at h; exact h.1
  have b0h : a0 ≤ 255 := by have h := w0; simp only [Lit.wf, Bool.and_eq_true, decide_eq_true_eq] at h; exact h.2
  obtain ⟨a1, rfl, rfl, rfl, w1⟩ := open_int Try.underlying22 (hval 1 22 v1 rfl rfl) h1
  have b1l : 0 ≤ a1 := by have h := w1; simp only [Lit.wf, Bool.and_eq_true, decide_eq_true_eq] at h; exact h.1
  have b1h : a1 ≤ 65535 := by have h := w1; simp only [Lit.wf, Bool.and_eq_true, decide_eq_true_eq] at h; exact h.2
  obtain ⟨a2, rfl, rfl, rfl, w2⟩ := open_int Try.underlying22 (hval 2 22 v2 rfl rfl) h2
  have b2l : 0 ≤ a2 := by have h := w2; simp only [Lit.wf, Bool.and_eq_true, decide_eq_true_eq] at h; exact h.1
  have b2h : a2 ≤ 65535 := by have h := w2; simp only [Lit.wf, Bool.and_eq_true, decide_eq_true_eq] at h; exact h.2
  obtain ⟨a3, rfl, rfl, rfl, w3⟩ := open_int Try.underlying22 (hval 3 22 v3 rfl rfl) h3
  have b3l : 0 ≤ a3 := by have h := w3; simp only [Lit.wf, Bool.and_eq_true, decide_eq_true_eq] at h; exact h.1
  have b3h : a3 ≤ 65535 := by have h := w3; simp only [Lit.wf, Bool.and_eq_true, decide_eq_true_eq] at h; exact h.2
  obtain ⟨a4, len4, cap4, rfl⟩ := okWide_slice Try.underlying23 (hval 4 23 v4 rfl rfl)
  have k4 := h4
  have lt4 : ∀ x ∈ p4, x.block < W.heap.size := by obtain ⟨m, hm⟩ := k4; exact DataW.trod_lt m _ _ _ hm
  obtain ⟨ds4, w4⟩ : ∃ ds, ActsIn W a4 len4 cap4 ds := by obtain ⟨fuel, hf⟩ := h4; exact open_acts (by simpa [Value.cells] using hf)
  obtain ⟨a5, rfl, rfl, rfl, w5⟩ := open_int Try.underlying5 (hval 5 5 v5 rfl rfl) h5
  have b5l : 0 ≤ a5 := by have h := w5; simp only [Lit.wf, Bool.and_eq_true, decide_eq_true_eq] at h; exact h.1
  have b5h : a5 ≤ 255 := by have h := w5; simp only [Lit.wf, Bool.and_eq_true, decide_eq_true_eq] at h; exact h.2
  clear hA0 hval0
  refine (retries_walk a0 a1 a2 a3 a4 len4 cap4 ds4 a5 W b0l b0h b1l b1h b2l b2h b3l b3h w4 b5l b5h).mono fun e W' ⟨he, bel⟩ => ?_
  subst he
  exact ⟨_, rfl, _, _, _, [], _, [], hW', trodAll_mk1 (shut_bool Try.underlying4 _), (trodAll_cons_mk (shut_int Try.underlying5 w0) (trodAll_cons_mk (shut_int Try.underlying22 w1) (trodAll_cons_mk (shut_int Try.underlying22 w2) (trodAll_cons_mk (shut_int Try.underlying22 w3) (trodAll_cons_mk (Below.trod laidOut (by kernel_rfl) (of_decide_eq_true (by kernel_rfl)) k4 bel lt4) (trodAll_cons_mk (shut_int Try.underlying5 w5) trodAll_mk0)))))), rfl, bel.frame _, fun h => by cases h⟩

theorem over : Rows.limiterRetriesRow.holds Try.pinned (OpenSpec.ofChange Rows.limiterRetriesSpec) :=
  OpenClaim.holds_of_wide 7 Try.f7 rfl rfl rfl rfl rfl rfl rfl ⟨rfl, rfl, rfl, rfl, rfl⟩ rfl rfl rfl rfl rfl (by kernel_rfl) Try.func7 (by kernel_rfl)
    (of_decide_eq_true (by kernel_rfl)) (by unfold Func.isWrapper; first | (rw [if_pos (by decide +kernel)]; kernel_rfl) | (rw [if_neg (by decide +kernel)]; exact ⟨rfl, rfl⟩))
    (fun os started H enc _ => lifted os started H enc)

/-- The statement. -/
theorem proved : Rows.LimiterRetriesSaid := over
end Go.Proofs.Ythinbjknkjpdjaa.limiterRetries
