/-
  The statement LimiterKinds of this seat: for every input the law returns true, and each argument reads afterwards as it read before. No condition.
-/
import Derived.Test.YthinbjknkjpdjaaM5
import Derived.Test.YthinbjknkjpdjaaRows
import Derived.WalkKit
import Derived.ProofKit
import Derived.OpenShut
import Derived.ShutString
import Derived.ChangeOld
import Derived.Below
namespace Go.Proofs.Ythinbjknkjpdjaa
open Go.RowKit
set_option linter.unusedVariables false
set_option linter.unusedSimpArgs false

set_option maxHeartbeats 4000000 in
set_option maxRecDepth 100000 in
theorem kinds_less (K k l d b cc : Int) (o : Bool) (at_ level held : Int) (L : List (Int × Int)) (a : Option Addr) (n c : Nat) (ak anow acost : Int) (w : World) (hl : LogAt w a n c L) (hn : ¬ (100 : Int) < n) (hK : K < 1) :
    Calls Try.prog 8 #[.int .i64 K, Pol.v ⟨k, l, d, b, cc, o⟩, St.v ⟨at_, level, held, L⟩ a n c, Ac.v ⟨ak, anow, acost⟩] w fun e w' => e = .returned (.bool true) ∧ Below w.heap.size w w' := by
  have k1 : ¬ K = 1 := by omega
  have k2 : ¬ K = 2 := by omega
  have k3 : ¬ K = 3 := by omega
  have k4 : ¬ K = 4 := by omega
  have hdo := fun w hw => ldo_any ⟨K, l, d, b, cc, o⟩ ⟨at_, level, held, L⟩ a n c ⟨ak, anow, acost⟩ w hw
  rw [show doP ⟨K, l, d, b, cc, o⟩ ⟨at_, level, held, L⟩ ⟨ak, anow, acost⟩ = (St.none, false) by unfold doP doB rightB okB; simp [k1, k2, k3, k4]] at hdo
  have hre := fun w hw => lretry_any ⟨K, l, d, b, cc, o⟩ ⟨at_, level, held, L⟩ a n c anow acost w hw
  rw [show retryP ⟨K, l, d, b, cc, o⟩ ⟨at_, level, held, L⟩ anow acost = (0, false) by unfold retryP retryB rightB okB; simp [k1, k2, k3, k4]] at hre
  have hck := lcheck_any ⟨K, l, d, b, cc, o⟩
  have eck : chkP ⟨K, l, d, b, cc, o⟩ = 2 := by unfold chkP chkB okB; simp [k1, k2, k3, k4]
  rw [eck] at hck
  have hun := fun w hw => luntil_any ⟨K, l, d, b, cc, o⟩ ⟨at_, level, held, L⟩ a n c 0 w hw
  rw [show untilP ⟨K, l, d, b, cc, o⟩ ⟨at_, level, held, L⟩ 0 = -1 by unfold untilP untilB rightB okB; simp [k1, k2, k3, k4]] at hun
  have hmo := lmost_any ⟨K, l, d, b, cc, o⟩
  rw [mostP_no (by rw [eck]; omega)] at hmo
  have hri := fun w hw => lright_any ⟨K, l, d, b, cc, o⟩ ⟨at_, level, held, L⟩ a n c w hw
  rw [show rightP ⟨K, l, d, b, cc, o⟩ ⟨at_, level, held, L⟩ = false by unfold rightP rightB okB; simp [k1, k2, k3, k4]] at hri
  have hsm := fun a1 c1 w h1 => same_yes St.none a1 none 0 c1 0 w h1 (log_nil _ _ _ (by omega))
  have hkn := known_yes
  clear eck k1 k2 k3 k4
  unfold Ac.v St.v Pol.v at *
  unfold St.none at *
  (try dsimp only at *)
  have HDO := Go.Lib.hid hdo
  have HRE := Go.Lib.hid hre
  have HCK := Go.Lib.hid hck
  have HUN := Go.Lib.hid hun
  have HMO := Go.Lib.hid hmo
  have HRI := Go.Lib.hid hri
  have HSM := Go.Lib.hid hsm
  have HKN := Go.Lib.hid hkn
  have HL := Go.Lib.hid hl
  clear hdo hre hck hun hmo hri hsm hkn hl
  go_enter Try.func8, Try.ntmps8
  go_wp2_with go_step3
  refine (HDO.out _ (log_bl HL.out (bl_alloc (bl_alloc (bl_alloc (bl_alloc (bl_refl _) _) _) _) _))).mono ?_
  rintro e w1 ⟨a1, n1, c1, rfl, hl1, -, hb⟩
  have hx : Below w.heap.size w w1 := bl_then (bl_alloc (bl_alloc (bl_alloc (bl_alloc (bl_refl _) _) _) _) _) hb
  have hsz1 : w.heap.size + 4 ≤ w1.heap.size := by have h := hb.size; (try simp at h); omega
  have p0 := bl_cell (v := .int .i64 k) hb (show World.cell? _ ⟨w.heap.size, 0, none⟩ = _ by go_simp)
  have p1 := bl_cell (v := .int .i64 l) hb (show World.cell? _ ⟨w.heap.size, 1, none⟩ = _ by go_simp)
  have p2 := bl_cell (v := .int .i64 d) hb (show World.cell? _ ⟨w.heap.size, 2, none⟩ = _ by go_simp)
  have p3 := bl_cell (v := .int .i64 b) hb (show World.cell? _ ⟨w.heap.size, 3, none⟩ = _ by go_simp)
  have p4 := bl_cell (v := .int .i64 cc) hb (show World.cell? _ ⟨w.heap.size, 4, none⟩ = _ by go_simp)
  have p5 := bl_cell (v := .bool o) hb (show World.cell? _ ⟨w.heap.size, 5, none⟩ = _ by go_simp)
  have s0 := bl_cell (v := .int .i64 at_) hb (show World.cell? _ ⟨w.heap.size + 1, 0, none⟩ = _ by go_simp)
  have s1 := bl_cell (v := .int .i64 level) hb (show World.cell? _ ⟨w.heap.size + 1, 1, none⟩ = _ by go_simp)
  have s2 := bl_cell (v := .int .i64 held) hb (show World.cell? _ ⟨w.heap.size + 1, 2, none⟩ = _ by go_simp)
  have s3 := bl_cell (v := .slice a n c) hb (show World.cell? _ ⟨w.heap.size + 1, 3, none⟩ = _ by go_simp)
  have x0 := bl_cell (v := .int .i64 ak) hb (show World.cell? _ ⟨w.heap.size + 1 + 1, 0, none⟩ = _ by go_simp)
  have x1 := bl_cell (v := .int .i64 anow) hb (show World.cell? _ ⟨w.heap.size + 1 + 1, 1, none⟩ = _ by go_simp)
  have x2 := bl_cell (v := .int .i64 acost) hb (show World.cell? _ ⟨w.heap.size + 1 + 1, 2, none⟩ = _ by go_simp)
  have q0 := bl_cell (v := .int .i64 K) hb (show World.cell? _ ⟨w.heap.size + 1 + 1 + 1, 0, none⟩ = _ by go_simp)
  have q1 := bl_cell (v := .int .i64 l) hb (show World.cell? _ ⟨w.heap.size + 1 + 1 + 1, 1, none⟩ = _ by go_simp)
  have q2 := bl_cell (v := .int .i64 d) hb (show World.cell? _ ⟨w.heap.size + 1 + 1 + 1, 2, none⟩ = _ by go_simp)
  have q3 := bl_cell (v := .int .i64 b) hb (show World.cell? _ ⟨w.heap.size + 1 + 1 + 1, 3, none⟩ = _ by go_simp)
  have q4 := bl_cell (v := .int .i64 cc) hb (show World.cell? _ ⟨w.heap.size + 1 + 1 + 1, 4, none⟩ = _ by go_simp)
  have q5 := bl_cell (v := .bool o) hb (show World.cell? _ ⟨w.heap.size + 1 + 1 + 1, 5, none⟩ = _ by go_simp)
  have hB : Below w.heap.size w w1 := hx
  have lb_p := World.block_lt_of_cell? w1 _ p0
  dsimp only at lb_p
  have lb_s := World.block_lt_of_cell? w1 _ s0
  dsimp only at lb_s
  have lb_x := World.block_lt_of_cell? w1 _ x0
  dsimp only at lb_x
  have lb_q := World.block_lt_of_cell? w1 _ q0
  dsimp only at lb_q
  clear hb hx
  have hn1 : n1 = 0 := hl1.1.symm
  subst hn1
  unfold St.v
  (try dsimp only)
  go_wp2_with go_step3
  refine (HRE.out _ (log_bl HL.out (bl_alloc (hB) _))).mono ?_
  rintro e w2 ⟨rfl, hb⟩
  have hx : Below w1.heap.size w1 w2 := bl_then (bl_alloc (bl_refl _) _) hb
  have hsz2 : w1.heap.size + 1 ≤ w2.heap.size := by have h := hb.size; (try simp at h); omega
  replace p0 := bl_cell hx p0
  replace p1 := bl_cell hx p1
  replace p2 := bl_cell hx p2
  replace p3 := bl_cell hx p3
  replace p4 := bl_cell hx p4
  replace p5 := bl_cell hx p5
  replace s0 := bl_cell hx s0
  replace s1 := bl_cell hx s1
  replace s2 := bl_cell hx s2
  replace s3 := bl_cell hx s3
  replace x0 := bl_cell hx x0
  replace x1 := bl_cell hx x1
  replace x2 := bl_cell hx x2
  replace q0 := bl_cell hx q0
  replace q1 := bl_cell hx q1
  replace q2 := bl_cell hx q2
  replace q3 := bl_cell hx q3
  replace q4 := bl_cell hx q4
  replace q5 := bl_cell hx q5
  replace hl1 := log_bl hl1 hx
  have t0 := bl_cell (v := .int .i64 0) hb (show World.cell? _ ⟨w1.heap.size, 0, none⟩ = _ by go_simp)
  have t1 := bl_cell (v := .int .i64 0) hb (show World.cell? _ ⟨w1.heap.size, 1, none⟩ = _ by go_simp)
  have t2 := bl_cell (v := .int .i64 0) hb (show World.cell? _ ⟨w1.heap.size, 2, none⟩ = _ by go_simp)
  have t3 := bl_cell (v := .slice a1 0 c1) hb (show World.cell? _ ⟨w1.heap.size, 3, none⟩ = _ by go_simp)
  replace hB : Below w.heap.size w w2 := bl_then hB hx
  replace lb_p := World.block_lt_of_cell? w2 _ p0
  dsimp only at lb_p
  replace lb_s := World.block_lt_of_cell? w2 _ s0
  dsimp only at lb_s
  replace lb_x := World.block_lt_of_cell? w2 _ x0
  dsimp only at lb_x
  replace lb_q := World.block_lt_of_cell? w2 _ q0
  dsimp only at lb_q
  have lb_t := World.block_lt_of_cell? w2 _ t0
  dsimp only at lb_t
  clear hb hx
  go_wp2_with go_step3
  refine (HCK.out _).mono ?_
  rintro e w3 ⟨rfl, hb⟩
  have hsz3 : w2.heap.size + 0 ≤ w3.heap.size := by have h := hb.size; (try simp at h); omega
  replace p0 := bl_cell hb p0
  replace p1 := bl_cell hb p1
  replace p2 := bl_cell hb p2
  replace p3 := bl_cell hb p3
  replace p4 := bl_cell hb p4
  replace p5 := bl_cell hb p5
  replace s0 := bl_cell hb s0
  replace s1 := bl_cell hb s1
  replace s2 := bl_cell hb s2
  replace s3 := bl_cell hb s3
  replace x0 := bl_cell hb x0
  replace x1 := bl_cell hb x1
  replace x2 := bl_cell hb x2
  replace q0 := bl_cell hb q0
  replace q1 := bl_cell hb q1
  replace q2 := bl_cell hb q2
  replace q3 := bl_cell hb q3
  replace q4 := bl_cell hb q4
  replace q5 := bl_cell hb q5
  replace hl1 := log_bl hl1 hb
  replace t0 := bl_cell hb t0
  replace t1 := bl_cell hb t1
  replace t2 := bl_cell hb t2
  replace t3 := bl_cell hb t3
  replace hB : Below w.heap.size w w3 := bl_then hB hb
  replace lb_p := World.block_lt_of_cell? w3 _ p0
  dsimp only at lb_p
  replace lb_s := World.block_lt_of_cell? w3 _ s0
  dsimp only at lb_s
  replace lb_x := World.block_lt_of_cell? w3 _ x0
  dsimp only at lb_x
  replace lb_q := World.block_lt_of_cell? w3 _ q0
  dsimp only at lb_q
  replace lb_t := World.block_lt_of_cell? w3 _ t0
  dsimp only at lb_t
  clear hb
  go_wp2_with go_step3
  refine (HSM.out a1 c1 _ hl1).mono ?_
  rintro e w4 ⟨rfl, hb⟩
  have hsz4 : w3.heap.size + 0 ≤ w4.heap.size := by have h := hb.size; (try simp at h); omega
  replace p0 := bl_cell hb p0
  replace p1 := bl_cell hb p1
  replace p2 := bl_cell hb p2
  replace p3 := bl_cell hb p3
  replace p4 := bl_cell hb p4
  replace p5 := bl_cell hb p5
  replace s0 := bl_cell hb s0
  replace s1 := bl_cell hb s1
  replace s2 := bl_cell hb s2
  replace s3 := bl_cell hb s3
  replace x0 := bl_cell hb x0
  replace x1 := bl_cell hb x1
  replace x2 := bl_cell hb x2
  replace q0 := bl_cell hb q0
  replace q1 := bl_cell hb q1
  replace q2 := bl_cell hb q2
  replace q3 := bl_cell hb q3
  replace q4 := bl_cell hb q4
  replace q5 := bl_cell hb q5
  replace hl1 := log_bl hl1 hb
  replace t0 := bl_cell hb t0
  replace t1 := bl_cell hb t1
  replace t2 := bl_cell hb t2
  replace t3 := bl_cell hb t3
  replace hB : Below w.heap.size w w4 := bl_then hB hb
  replace lb_p := World.block_lt_of_cell? w4 _ p0
  dsimp only at lb_p
  replace lb_s := World.block_lt_of_cell? w4 _ s0
  dsimp only at lb_s
  replace lb_x := World.block_lt_of_cell? w4 _ x0
  dsimp only at lb_x
  replace lb_q := World.block_lt_of_cell? w4 _ q0
  dsimp only at lb_q
  replace lb_t := World.block_lt_of_cell? w4 _ t0
  dsimp only at lb_t
  clear hb
  go_wp2_with go_step3
  refine (HUN.out _ (log_bl HL.out (hB))).mono ?_
  rintro e w5 ⟨rfl, hb⟩
  have hsz5 : w4.heap.size + 0 ≤ w5.heap.size := by have h := hb.size; (try simp at h); omega
  replace p0 := bl_cell hb p0
  replace p1 := bl_cell hb p1
  replace p2 := bl_cell hb p2
  replace p3 := bl_cell hb p3
  replace p4 := bl_cell hb p4
  replace p5 := bl_cell hb p5
  replace s0 := bl_cell hb s0
  replace s1 := bl_cell hb s1
  replace s2 := bl_cell hb s2
  replace s3 := bl_cell hb s3
  replace x0 := bl_cell hb x0
  replace x1 := bl_cell hb x1
  replace x2 := bl_cell hb x2
  replace q0 := bl_cell hb q0
  replace q1 := bl_cell hb q1
  replace q2 := bl_cell hb q2
  replace q3 := bl_cell hb q3
  replace q4 := bl_cell hb q4
  replace q5 := bl_cell hb q5
  replace hl1 := log_bl hl1 hb
  replace t0 := bl_cell hb t0
  replace t1 := bl_cell hb t1
  replace t2 := bl_cell hb t2
  replace t3 := bl_cell hb t3
  replace hB : Below w.heap.size w w5 := bl_then hB hb
  replace lb_p := World.block_lt_of_cell? w5 _ p0
  dsimp only at lb_p
  replace lb_s := World.block_lt_of_cell? w5 _ s0
  dsimp only at lb_s
  replace lb_x := World.block_lt_of_cell? w5 _ x0
  dsimp only at lb_x
  replace lb_q := World.block_lt_of_cell? w5 _ q0
  dsimp only at lb_q
  replace lb_t := World.block_lt_of_cell? w5 _ t0
  dsimp only at lb_t
  clear hb
  go_wp2_with go_step3
  refine (HMO.out _).mono ?_
  rintro e w6 ⟨rfl, hb⟩
  have hsz6 : w5.heap.size + 0 ≤ w6.heap.size := by have h := hb.size; (try simp at h); omega
  replace p0 := bl_cell hb p0
  replace p1 := bl_cell hb p1
  replace p2 := bl_cell hb p2
  replace p3 := bl_cell hb p3
  replace p4 := bl_cell hb p4
  replace p5 := bl_cell hb p5
  replace s0 := bl_cell hb s0
  replace s1 := bl_cell hb s1
  replace s2 := bl_cell hb s2
  replace s3 := bl_cell hb s3
  replace x0 := bl_cell hb x0
  replace x1 := bl_cell hb x1
  replace x2 := bl_cell hb x2
  replace q0 := bl_cell hb q0
  replace q1 := bl_cell hb q1
  replace q2 := bl_cell hb q2
  replace q3 := bl_cell hb q3
  replace q4 := bl_cell hb q4
  replace q5 := bl_cell hb q5
  replace hl1 := log_bl hl1 hb
  replace t0 := bl_cell hb t0
  replace t1 := bl_cell hb t1
  replace t2 := bl_cell hb t2
  replace t3 := bl_cell hb t3
  replace hB : Below w.heap.size w w6 := bl_then hB hb
  replace lb_p := World.block_lt_of_cell? w6 _ p0
  dsimp only at lb_p
  replace lb_s := World.block_lt_of_cell? w6 _ s0
  dsimp only at lb_s
  replace lb_x := World.block_lt_of_cell? w6 _ x0
  dsimp only at lb_x
  replace lb_q := World.block_lt_of_cell? w6 _ q0
  dsimp only at lb_q
  replace lb_t := World.block_lt_of_cell? w6 _ t0
  dsimp only at lb_t
  clear hb
  go_wp2_with go_step3
  refine (HRI.out _ (log_bl HL.out (hB))).mono ?_
  rintro e w7 ⟨rfl, hb⟩
  have hsz7 : w6.heap.size + 0 ≤ w7.heap.size := by have h := hb.size; (try simp at h); omega
  replace p0 := bl_cell hb p0
  replace p1 := bl_cell hb p1
  replace p2 := bl_cell hb p2
  replace p3 := bl_cell hb p3
  replace p4 := bl_cell hb p4
  replace p5 := bl_cell hb p5
  replace s0 := bl_cell hb s0
  replace s1 := bl_cell hb s1
  replace s2 := bl_cell hb s2
  replace s3 := bl_cell hb s3
  replace x0 := bl_cell hb x0
  replace x1 := bl_cell hb x1
  replace x2 := bl_cell hb x2
  replace q0 := bl_cell hb q0
  replace q1 := bl_cell hb q1
  replace q2 := bl_cell hb q2
  replace q3 := bl_cell hb q3
  replace q4 := bl_cell hb q4
  replace q5 := bl_cell hb q5
  replace hl1 := log_bl hl1 hb
  replace t0 := bl_cell hb t0
  replace t1 := bl_cell hb t1
  replace t2 := bl_cell hb t2
  replace t3 := bl_cell hb t3
  replace hB : Below w.heap.size w w7 := bl_then hB hb
  replace lb_p := World.block_lt_of_cell? w7 _ p0
  dsimp only at lb_p
  replace lb_s := World.block_lt_of_cell? w7 _ s0
  dsimp only at lb_s
  replace lb_x := World.block_lt_of_cell? w7 _ x0
  dsimp only at lb_x
  replace lb_q := World.block_lt_of_cell? w7 _ q0
  dsimp only at lb_q
  replace lb_t := World.block_lt_of_cell? w7 _ t0
  dsimp only at lb_t
  clear hb
  go_wp2_with go_step3
  refine (HKN.out _).mono ?_
  rintro e w8 ⟨rfl, hb⟩
  have hsz8 : w7.heap.size + 0 ≤ w8.heap.size := by have h := hb.size; (try simp at h); omega
  replace p0 := bl_cell hb p0
  replace p1 := bl_cell hb p1
  replace p2 := bl_cell hb p2
  replace p3 := bl_cell hb p3
  replace p4 := bl_cell hb p4
  replace p5 := bl_cell hb p5
  replace s0 := bl_cell hb s0
  replace s1 := bl_cell hb s1
  replace s2 := bl_cell hb s2
  replace s3 := bl_cell hb s3
  replace x0 := bl_cell hb x0
  replace x1 := bl_cell hb x1
  replace x2 := bl_cell hb x2
  replace q0 := bl_cell hb q0
  replace q1 := bl_cell hb q1
  replace q2 := bl_cell hb q2
  replace q3 := bl_cell hb q3
  replace q4 := bl_cell hb q4
  replace q5 := bl_cell hb q5
  replace hl1 := log_bl hl1 hb
  replace t0 := bl_cell hb t0
  replace t1 := bl_cell hb t1
  replace t2 := bl_cell hb t2
  replace t3 := bl_cell hb t3
  replace hB : Below w.heap.size w w8 := bl_then hB hb
  replace lb_p := World.block_lt_of_cell? w8 _ p0
  dsimp only at lb_p
  replace lb_s := World.block_lt_of_cell? w8 _ s0
  dsimp only at lb_s
  replace lb_x := World.block_lt_of_cell? w8 _ x0
  dsimp only at lb_x
  replace lb_q := World.block_lt_of_cell? w8 _ q0
  dsimp only at lb_q
  replace lb_t := World.block_lt_of_cell? w8 _ t0
  dsimp only at lb_t
  clear hb
  go_wp2_with go_step3
  go_ret
  exact ⟨rfl, hB⟩

set_option maxHeartbeats 4000000 in
set_option maxRecDepth 100000 in
theorem kinds_more (K k l d b cc : Int) (o : Bool) (at_ level held : Int) (L : List (Int × Int)) (a : Option Addr) (n c : Nat) (ak anow acost : Int) (w : World) (hl : LogAt w a n c L) (hn : ¬ (100 : Int) < n) (hK' : ¬ K < 1) (hK : 4 < K) :
    Calls Try.prog 8 #[.int .i64 K, Pol.v ⟨k, l, d, b, cc, o⟩, St.v ⟨at_, level, held, L⟩ a n c, Ac.v ⟨ak, anow, acost⟩] w fun e w' => e = .returned (.bool true) ∧ Below w.heap.size w w' := by
  have k1 : ¬ K = 1 := by omega
  have k2 : ¬ K = 2 := by omega
  have k3 : ¬ K = 3 := by omega
  have k4 : ¬ K = 4 := by omega
  have hdo := fun w hw => ldo_any ⟨K, l, d, b, cc, o⟩ ⟨at_, level, held, L⟩ a n c ⟨ak, anow, acost⟩ w hw
  rw [show doP ⟨K, l, d, b, cc, o⟩ ⟨at_, level, held, L⟩ ⟨ak, anow, acost⟩ = (St.none, false) by unfold doP doB rightB okB; simp [k1, k2, k3, k4]] at hdo
  have hre := fun w hw => lretry_any ⟨K, l, d, b, cc, o⟩ ⟨at_, level, held, L⟩ a n c anow acost w hw
  rw [show retryP ⟨K, l, d, b, cc, o⟩ ⟨at_, level, held, L⟩ anow acost = (0, false) by unfold retryP retryB rightB okB; simp [k1, k2, k3, k4]] at hre
  have hck := lcheck_any ⟨K, l, d, b, cc, o⟩
  have eck : chkP ⟨K, l, d, b, cc, o⟩ = 2 := by unfold chkP chkB okB; simp [k1, k2, k3, k4]
  rw [eck] at hck
  have hun := fun w hw => luntil_any ⟨K, l, d, b, cc, o⟩ ⟨at_, level, held, L⟩ a n c 0 w hw
  rw [show untilP ⟨K, l, d, b, cc, o⟩ ⟨at_, level, held, L⟩ 0 = -1 by unfold untilP untilB rightB okB; simp [k1, k2, k3, k4]] at hun
  have hmo := lmost_any ⟨K, l, d, b, cc, o⟩
  rw [mostP_no (by rw [eck]; omega)] at hmo
  have hri := fun w hw => lright_any ⟨K, l, d, b, cc, o⟩ ⟨at_, level, held, L⟩ a n c w hw
  rw [show rightP ⟨K, l, d, b, cc, o⟩ ⟨at_, level, held, L⟩ = false by unfold rightP rightB okB; simp [k1, k2, k3, k4]] at hri
  have hsm := fun a1 c1 w h1 => same_yes St.none a1 none 0 c1 0 w h1 (log_nil _ _ _ (by omega))
  have hkn := known_yes
  clear eck k1 k2 k3 k4
  unfold Ac.v St.v Pol.v at *
  unfold St.none at *
  (try dsimp only at *)
  have HDO := Go.Lib.hid hdo
  have HRE := Go.Lib.hid hre
  have HCK := Go.Lib.hid hck
  have HUN := Go.Lib.hid hun
  have HMO := Go.Lib.hid hmo
  have HRI := Go.Lib.hid hri
  have HSM := Go.Lib.hid hsm
  have HKN := Go.Lib.hid hkn
  have HL := Go.Lib.hid hl
  clear hdo hre hck hun hmo hri hsm hkn hl
  go_enter Try.func8, Try.ntmps8
  go_wp2_with go_step3
  refine (HDO.out _ (log_bl HL.out (bl_alloc (bl_alloc (bl_alloc (bl_alloc (bl_refl _) _) _) _) _))).mono ?_
  rintro e w1 ⟨a1, n1, c1, rfl, hl1, -, hb⟩
  have hx : Below w.heap.size w w1 := bl_then (bl_alloc (bl_alloc (bl_alloc (bl_alloc (bl_refl _) _) _) _) _) hb
  have hsz1 : w.heap.size + 4 ≤ w1.heap.size := by have h := hb.size; (try simp at h); omega
  have p0 := bl_cell (v := .int .i64 k) hb (show World.cell? _ ⟨w.heap.size, 0, none⟩ = _ by go_simp)
  have p1 := bl_cell (v := .int .i64 l) hb (show World.cell? _ ⟨w.heap.size, 1, none⟩ = _ by go_simp)
  have p2 := bl_cell (v := .int .i64 d) hb (show World.cell? _ ⟨w.heap.size, 2, none⟩ = _ by go_simp)
  have p3 := bl_cell (v := .int .i64 b) hb (show World.cell? _ ⟨w.heap.size, 3, none⟩ = _ by go_simp)
  have p4 := bl_cell (v := .int .i64 cc) hb (show World.cell? _ ⟨w.heap.size, 4, none⟩ = _ by go_simp)
  have p5 := bl_cell (v := .bool o) hb (show World.cell? _ ⟨w.heap.size, 5, none⟩ = _ by go_simp)
  have s0 := bl_cell (v := .int .i64 at_) hb (show World.cell? _ ⟨w.heap.size + 1, 0, none⟩ = _ by go_simp)
  have s1 := bl_cell (v := .int .i64 level) hb (show World.cell? _ ⟨w.heap.size + 1, 1, none⟩ = _ by go_simp)
  have s2 := bl_cell (v := .int .i64 held) hb (show World.cell? _ ⟨w.heap.size + 1, 2, none⟩ = _ by go_simp)
  have s3 := bl_cell (v := .slice a n c) hb (show World.cell? _ ⟨w.heap.size + 1, 3, none⟩ = _ by go_simp)
  have x0 := bl_cell (v := .int .i64 ak) hb (show World.cell? _ ⟨w.heap.size + 1 + 1, 0, none⟩ = _ by go_simp)
  have x1 := bl_cell (v := .int .i64 anow) hb (show World.cell? _ ⟨w.heap.size + 1 + 1, 1, none⟩ = _ by go_simp)
  have x2 := bl_cell (v := .int .i64 acost) hb (show World.cell? _ ⟨w.heap.size + 1 + 1, 2, none⟩ = _ by go_simp)
  have q0 := bl_cell (v := .int .i64 K) hb (show World.cell? _ ⟨w.heap.size + 1 + 1 + 1, 0, none⟩ = _ by go_simp)
  have q1 := bl_cell (v := .int .i64 l) hb (show World.cell? _ ⟨w.heap.size + 1 + 1 + 1, 1, none⟩ = _ by go_simp)
  have q2 := bl_cell (v := .int .i64 d) hb (show World.cell? _ ⟨w.heap.size + 1 + 1 + 1, 2, none⟩ = _ by go_simp)
  have q3 := bl_cell (v := .int .i64 b) hb (show World.cell? _ ⟨w.heap.size + 1 + 1 + 1, 3, none⟩ = _ by go_simp)
  have q4 := bl_cell (v := .int .i64 cc) hb (show World.cell? _ ⟨w.heap.size + 1 + 1 + 1, 4, none⟩ = _ by go_simp)
  have q5 := bl_cell (v := .bool o) hb (show World.cell? _ ⟨w.heap.size + 1 + 1 + 1, 5, none⟩ = _ by go_simp)
  have hB : Below w.heap.size w w1 := hx
  have lb_p := World.block_lt_of_cell? w1 _ p0
  dsimp only at lb_p
  have lb_s := World.block_lt_of_cell? w1 _ s0
  dsimp only at lb_s
  have lb_x := World.block_lt_of_cell? w1 _ x0
  dsimp only at lb_x
  have lb_q := World.block_lt_of_cell? w1 _ q0
  dsimp only at lb_q
  clear hb hx
  have hn1 : n1 = 0 := hl1.1.symm
  subst hn1
  unfold St.v
  (try dsimp only)
  go_wp2_with go_step3
  refine (HRE.out _ (log_bl HL.out (bl_alloc (hB) _))).mono ?_
  rintro e w2 ⟨rfl, hb⟩
  have hx : Below w1.heap.size w1 w2 := bl_then (bl_alloc (bl_refl _) _) hb
  have hsz2 : w1.heap.size + 1 ≤ w2.heap.size := by have h := hb.size; (try simp at h); omega
  replace p0 := bl_cell hx p0
  replace p1 := bl_cell hx p1
  replace p2 := bl_cell hx p2
  replace p3 := bl_cell hx p3
  replace p4 := bl_cell hx p4
  replace p5 := bl_cell hx p5
  replace s0 := bl_cell hx s0
  replace s1 := bl_cell hx s1
  replace s2 := bl_cell hx s2
  replace s3 := bl_cell hx s3
  replace x0 := bl_cell hx x0
  replace x1 := bl_cell hx x1
  replace x2 := bl_cell hx x2
  replace q0 := bl_cell hx q0
  replace q1 := bl_cell hx q1
  replace q2 := bl_cell hx q2
  replace q3 := bl_cell hx q3
  replace q4 := bl_cell hx q4
  replace q5 := bl_cell hx q5
  replace hl1 := log_bl hl1 hx
  have t0 := bl_cell (v := .int .i64 0) hb (show World.cell? _ ⟨w1.heap.size, 0, none⟩ = _ by go_simp)
  have t1 := bl_cell (v := .int .i64 0) hb (show World.cell? _ ⟨w1.heap.size, 1, none⟩ = _ by go_simp)
  have t2 := bl_cell (v := .int .i64 0) hb (show World.cell? _ ⟨w1.heap.size, 2, none⟩ = _ by go_simp)
  have t3 := bl_cell (v := .slice a1 0 c1) hb (show World.cell? _ ⟨w1.heap.size, 3, none⟩ = _ by go_simp)
  replace hB : Below w.heap.size w w2 := bl_then hB hx
  replace lb_p := World.block_lt_of_cell? w2 _ p0
  dsimp only at lb_p
  replace lb_s := World.block_lt_of_cell? w2 _ s0
  dsimp only at lb_s
  replace lb_x := World.block_lt_of_cell? w2 _ x0
  dsimp only at lb_x
  replace lb_q := World.block_lt_of_cell? w2 _ q0
  dsimp only at lb_q
  have lb_t := World.block_lt_of_cell? w2 _ t0
  dsimp only at lb_t
  clear hb hx
  go_wp2_with go_step3
  refine (HCK.out _).mono ?_
  rintro e w3 ⟨rfl, hb⟩
  have hsz3 : w2.heap.size + 0 ≤ w3.heap.size := by have h := hb.size; (try simp at h); omega
  replace p0 := bl_cell hb p0
  replace p1 := bl_cell hb p1
  replace p2 := bl_cell hb p2
  replace p3 := bl_cell hb p3
  replace p4 := bl_cell hb p4
  replace p5 := bl_cell hb p5
  replace s0 := bl_cell hb s0
  replace s1 := bl_cell hb s1
  replace s2 := bl_cell hb s2
  replace s3 := bl_cell hb s3
  replace x0 := bl_cell hb x0
  replace x1 := bl_cell hb x1
  replace x2 := bl_cell hb x2
  replace q0 := bl_cell hb q0
  replace q1 := bl_cell hb q1
  replace q2 := bl_cell hb q2
  replace q3 := bl_cell hb q3
  replace q4 := bl_cell hb q4
  replace q5 := bl_cell hb q5
  replace hl1 := log_bl hl1 hb
  replace t0 := bl_cell hb t0
  replace t1 := bl_cell hb t1
  replace t2 := bl_cell hb t2
  replace t3 := bl_cell hb t3
  replace hB : Below w.heap.size w w3 := bl_then hB hb
  replace lb_p := World.block_lt_of_cell? w3 _ p0
  dsimp only at lb_p
  replace lb_s := World.block_lt_of_cell? w3 _ s0
  dsimp only at lb_s
  replace lb_x := World.block_lt_of_cell? w3 _ x0
  dsimp only at lb_x
  replace lb_q := World.block_lt_of_cell? w3 _ q0
  dsimp only at lb_q
  replace lb_t := World.block_lt_of_cell? w3 _ t0
  dsimp only at lb_t
  clear hb
  go_wp2_with go_step3
  refine (HSM.out a1 c1 _ hl1).mono ?_
  rintro e w4 ⟨rfl, hb⟩
  have hsz4 : w3.heap.size + 0 ≤ w4.heap.size := by have h := hb.size; (try simp at h); omega
  replace p0 := bl_cell hb p0
  replace p1 := bl_cell hb p1
  replace p2 := bl_cell hb p2
  replace p3 := bl_cell hb p3
  replace p4 := bl_cell hb p4
  replace p5 := bl_cell hb p5
  replace s0 := bl_cell hb s0
  replace s1 := bl_cell hb s1
  replace s2 := bl_cell hb s2
  replace s3 := bl_cell hb s3
  replace x0 := bl_cell hb x0
  replace x1 := bl_cell hb x1
  replace x2 := bl_cell hb x2
  replace q0 := bl_cell hb q0
  replace q1 := bl_cell hb q1
  replace q2 := bl_cell hb q2
  replace q3 := bl_cell hb q3
  replace q4 := bl_cell hb q4
  replace q5 := bl_cell hb q5
  replace hl1 := log_bl hl1 hb
  replace t0 := bl_cell hb t0
  replace t1 := bl_cell hb t1
  replace t2 := bl_cell hb t2
  replace t3 := bl_cell hb t3
  replace hB : Below w.heap.size w w4 := bl_then hB hb
  replace lb_p := World.block_lt_of_cell? w4 _ p0
  dsimp only at lb_p
  replace lb_s := World.block_lt_of_cell? w4 _ s0
  dsimp only at lb_s
  replace lb_x := World.block_lt_of_cell? w4 _ x0
  dsimp only at lb_x
  replace lb_q := World.block_lt_of_cell? w4 _ q0
  dsimp only at lb_q
  replace lb_t := World.block_lt_of_cell? w4 _ t0
  dsimp only at lb_t
  clear hb
  go_wp2_with go_step3
  refine (HUN.out _ (log_bl HL.out (hB))).mono ?_
  rintro e w5 ⟨rfl, hb⟩
  have hsz5 : w4.heap.size + 0 ≤ w5.heap.size := by have h := hb.size; (try simp at h); omega
  replace p0 := bl_cell hb p0
  replace p1 := bl_cell hb p1
  replace p2 := bl_cell hb p2
  replace p3 := bl_cell hb p3
  replace p4 := bl_cell hb p4
  replace p5 := bl_cell hb p5
  replace s0 := bl_cell hb s0
  replace s1 := bl_cell hb s1
  replace s2 := bl_cell hb s2
  replace s3 := bl_cell hb s3
  replace x0 := bl_cell hb x0
  replace x1 := bl_cell hb x1
  replace x2 := bl_cell hb x2
  replace q0 := bl_cell hb q0
  replace q1 := bl_cell hb q1
  replace q2 := bl_cell hb q2
  replace q3 := bl_cell hb q3
  replace q4 := bl_cell hb q4
  replace q5 := bl_cell hb q5
  replace hl1 := log_bl hl1 hb
  replace t0 := bl_cell hb t0
  replace t1 := bl_cell hb t1
  replace t2 := bl_cell hb t2
  replace t3 := bl_cell hb t3
  replace hB : Below w.heap.size w w5 := bl_then hB hb
  replace lb_p := World.block_lt_of_cell? w5 _ p0
  dsimp only at lb_p
  replace lb_s := World.block_lt_of_cell? w5 _ s0
  dsimp only at lb_s
  replace lb_x := World.block_lt_of_cell? w5 _ x0
  dsimp only at lb_x
  replace lb_q := World.block_lt_of_cell? w5 _ q0
  dsimp only at lb_q
  replace lb_t := World.block_lt_of_cell? w5 _ t0
  dsimp only at lb_t
  clear hb
  go_wp2_with go_step3
  refine (HMO.out _).mono ?_
  rintro e w6 ⟨rfl, hb⟩
  have hsz6 : w5.heap.size + 0 ≤ w6.heap.size := by have h := hb.size; (try simp at h); omega
  replace p0 := bl_cell hb p0
  replace p1 := bl_cell hb p1
  replace p2 := bl_cell hb p2
  replace p3 := bl_cell hb p3
  replace p4 := bl_cell hb p4
  replace p5 := bl_cell hb p5
  replace s0 := bl_cell hb s0
  replace s1 := bl_cell hb s1
  replace s2 := bl_cell hb s2
  replace s3 := bl_cell hb s3
  replace x0 := bl_cell hb x0
  replace x1 := bl_cell hb x1
  replace x2 := bl_cell hb x2
  replace q0 := bl_cell hb q0
  replace q1 := bl_cell hb q1
  replace q2 := bl_cell hb q2
  replace q3 := bl_cell hb q3
  replace q4 := bl_cell hb q4
  replace q5 := bl_cell hb q5
  replace hl1 := log_bl hl1 hb
  replace t0 := bl_cell hb t0
  replace t1 := bl_cell hb t1
  replace t2 := bl_cell hb t2
  replace t3 := bl_cell hb t3
  replace hB : Below w.heap.size w w6 := bl_then hB hb
  replace lb_p := World.block_lt_of_cell? w6 _ p0
  dsimp only at lb_p
  replace lb_s := World.block_lt_of_cell? w6 _ s0
  dsimp only at lb_s
  replace lb_x := World.block_lt_of_cell? w6 _ x0
  dsimp only at lb_x
  replace lb_q := World.block_lt_of_cell? w6 _ q0
  dsimp only at lb_q
  replace lb_t := World.block_lt_of_cell? w6 _ t0
  dsimp only at lb_t
  clear hb
  go_wp2_with go_step3
  refine (HRI.out _ (log_bl HL.out (hB))).mono ?_
  rintro e w7 ⟨rfl, hb⟩
  have hsz7 : w6.heap.size + 0 ≤ w7.heap.size := by have h := hb.size; (try simp at h); omega
  replace p0 := bl_cell hb p0
  replace p1 := bl_cell hb p1
  replace p2 := bl_cell hb p2
  replace p3 := bl_cell hb p3
  replace p4 := bl_cell hb p4
  replace p5 := bl_cell hb p5
  replace s0 := bl_cell hb s0
  replace s1 := bl_cell hb s1
  replace s2 := bl_cell hb s2
  replace s3 := bl_cell hb s3
  replace x0 := bl_cell hb x0
  replace x1 := bl_cell hb x1
  replace x2 := bl_cell hb x2
  replace q0 := bl_cell hb q0
  replace q1 := bl_cell hb q1
  replace q2 := bl_cell hb q2
  replace q3 := bl_cell hb q3
  replace q4 := bl_cell hb q4
  replace q5 := bl_cell hb q5
  replace hl1 := log_bl hl1 hb
  replace t0 := bl_cell hb t0
  replace t1 := bl_cell hb t1
  replace t2 := bl_cell hb t2
  replace t3 := bl_cell hb t3
  replace hB : Below w.heap.size w w7 := bl_then hB hb
  replace lb_p := World.block_lt_of_cell? w7 _ p0
  dsimp only at lb_p
  replace lb_s := World.block_lt_of_cell? w7 _ s0
  dsimp only at lb_s
  replace lb_x := World.block_lt_of_cell? w7 _ x0
  dsimp only at lb_x
  replace lb_q := World.block_lt_of_cell? w7 _ q0
  dsimp only at lb_q
  replace lb_t := World.block_lt_of_cell? w7 _ t0
  dsimp only at lb_t
  clear hb
  go_wp2_with go_step3
  refine (HKN.out _).mono ?_
  rintro e w8 ⟨rfl, hb⟩
  have hsz8 : w7.heap.size + 0 ≤ w8.heap.size := by have h := hb.size; (try simp at h); omega
  replace p0 := bl_cell hb p0
  replace p1 := bl_cell hb p1
  replace p2 := bl_cell hb p2
  replace p3 := bl_cell hb p3
  replace p4 := bl_cell hb p4
  replace p5 := bl_cell hb p5
  replace s0 := bl_cell hb s0
  replace s1 := bl_cell hb s1
  replace s2 := bl_cell hb s2
  replace s3 := bl_cell hb s3
  replace x0 := bl_cell hb x0
  replace x1 := bl_cell hb x1
  replace x2 := bl_cell hb x2
  replace q0 := bl_cell hb q0
  replace q1 := bl_cell hb q1
  replace q2 := bl_cell hb q2
  replace q3 := bl_cell hb q3
  replace q4 := bl_cell hb q4
  replace q5 := bl_cell hb q5
  replace hl1 := log_bl hl1 hb
  replace t0 := bl_cell hb t0
  replace t1 := bl_cell hb t1
  replace t2 := bl_cell hb t2
  replace t3 := bl_cell hb t3
  replace hB : Below w.heap.size w w8 := bl_then hB hb
  replace lb_p := World.block_lt_of_cell? w8 _ p0
  dsimp only at lb_p
  replace lb_s := World.block_lt_of_cell? w8 _ s0
  dsimp only at lb_s
  replace lb_x := World.block_lt_of_cell? w8 _ x0
  dsimp only at lb_x
  replace lb_q := World.block_lt_of_cell? w8 _ q0
  dsimp only at lb_q
  replace lb_t := World.block_lt_of_cell? w8 _ t0
  dsimp only at lb_t
  clear hb
  go_wp2_with go_step3
  go_ret
  exact ⟨rfl, hB⟩

set_option maxHeartbeats 4000000 in
set_option maxRecDepth 100000 in
theorem kinds_no (K k l d b cc : Int) (o : Bool) (at_ level held : Int) (L : List (Int × Int)) (a : Option Addr) (n c : Nat) (ak anow acost : Int) (w : World) (hn : ¬ (100 : Int) < n) (hK1 : ¬ K < 1) (hK2 : ¬ 4 < K) (hC : ¬ chkP ⟨k, l, d, b, cc, o⟩ = 0) :
    Calls Try.prog 8 #[.int .i64 K, Pol.v ⟨k, l, d, b, cc, o⟩, St.v ⟨at_, level, held, L⟩ a n c, Ac.v ⟨ak, anow, acost⟩] w fun e w' => e = .returned (.bool true) ∧ Below w.heap.size w w' := by
  have hck := lcheck_any ⟨k, l, d, b, cc, o⟩
  have hmo := lmost_any ⟨k, l, d, b, cc, o⟩
  rw [mostP_no hC] at hmo
  have hnw := lnew_any ⟨k, l, d, b, cc, o⟩ anow
  rw [newP_no hC] at hnw
  have hsm := fun w => same_yes St.none none none 0 0 0 w (log_nil _ _ _ (by omega)) (log_nil _ _ _ (by omega))
  have hkn := known_yes
  generalize chkP ⟨k, l, d, b, cc, o⟩ = C at *
  unfold Ac.v St.v Pol.v at *
  unfold St.none at *
  (try dsimp only at *)
  have HCK := Go.Lib.hid hck
  have HMO := Go.Lib.hid hmo
  have HNW := Go.Lib.hid hnw
  have HSM := Go.Lib.hid hsm
  have HKN := Go.Lib.hid hkn
  clear hck hmo hnw hsm hkn
  go_enter Try.func8, Try.ntmps8
  go_wp2_with go_step3
  refine (HCK.out _).mono ?_
  rintro e w1 ⟨rfl, hb⟩
  have hx : Below w.heap.size w w1 := bl_then (bl_alloc (bl_alloc (bl_alloc (bl_refl _) _) _) _) hb
  have hsz1 : w.heap.size + 3 ≤ w1.heap.size := by have h := hb.size; (try simp at h); omega
  have p0 := bl_cell (v := .int .i64 k) hb (show World.cell? _ ⟨w.heap.size, 0, none⟩ = _ by go_simp)
  have p1 := bl_cell (v := .int .i64 l) hb (show World.cell? _ ⟨w.heap.size, 1, none⟩ = _ by go_simp)
  have p2 := bl_cell (v := .int .i64 d) hb (show World.cell? _ ⟨w.heap.size, 2, none⟩ = _ by go_simp)
  have p3 := bl_cell (v := .int .i64 b) hb (show World.cell? _ ⟨w.heap.size, 3, none⟩ = _ by go_simp)
  have p4 := bl_cell (v := .int .i64 cc) hb (show World.cell? _ ⟨w.heap.size, 4, none⟩ = _ by go_simp)
  have p5 := bl_cell (v := .bool o) hb (show World.cell? _ ⟨w.heap.size, 5, none⟩ = _ by go_simp)
  have s0 := bl_cell (v := .int .i64 at_) hb (show World.cell? _ ⟨w.heap.size + 1, 0, none⟩ = _ by go_simp)
  have s1 := bl_cell (v := .int .i64 level) hb (show World.cell? _ ⟨w.heap.size + 1, 1, none⟩ = _ by go_simp)
  have s2 := bl_cell (v := .int .i64 held) hb (show World.cell? _ ⟨w.heap.size + 1, 2, none⟩ = _ by go_simp)
  have s3 := bl_cell (v := .slice a n c) hb (show World.cell? _ ⟨w.heap.size + 1, 3, none⟩ = _ by go_simp)
  have x0 := bl_cell (v := .int .i64 ak) hb (show World.cell? _ ⟨w.heap.size + 1 + 1, 0, none⟩ = _ by go_simp)
  have x1 := bl_cell (v := .int .i64 anow) hb (show World.cell? _ ⟨w.heap.size + 1 + 1, 1, none⟩ = _ by go_simp)
  have x2 := bl_cell (v := .int .i64 acost) hb (show World.cell? _ ⟨w.heap.size + 1 + 1, 2, none⟩ = _ by go_simp)
  have hB : Below w.heap.size w w1 := hx
  have lb_p := World.block_lt_of_cell? w1 _ p0
  dsimp only at lb_p
  have lb_s := World.block_lt_of_cell? w1 _ s0
  dsimp only at lb_s
  have lb_x := World.block_lt_of_cell? w1 _ x0
  dsimp only at lb_x
  clear hb hx
  go_wp2_with go_step3
  refine (HMO.out _).mono ?_
  rintro e w2 ⟨rfl, hb⟩
  have hsz2 : w1.heap.size + 0 ≤ w2.heap.size := by have h := hb.size; (try simp at h); omega
  replace p0 := bl_cell hb p0
  replace p1 := bl_cell hb p1
  replace p2 := bl_cell hb p2
  replace p3 := bl_cell hb p3
  replace p4 := bl_cell hb p4
  replace p5 := bl_cell hb p5
  replace s0 := bl_cell hb s0
  replace s1 := bl_cell hb s1
  replace s2 := bl_cell hb s2
  replace s3 := bl_cell hb s3
  replace x0 := bl_cell hb x0
  replace x1 := bl_cell hb x1
  replace x2 := bl_cell hb x2
  replace hB : Below w.heap.size w w2 := bl_then hB hb
  replace lb_p := World.block_lt_of_cell? w2 _ p0
  dsimp only at lb_p
  replace lb_s := World.block_lt_of_cell? w2 _ s0
  dsimp only at lb_s
  replace lb_x := World.block_lt_of_cell? w2 _ x0
  dsimp only at lb_x
  clear hb
  go_wp2_with go_step3
  refine (HNW.out _).mono ?_
  rintro e w3 ⟨rfl, hb⟩
  have hsz3 : w2.heap.size + 0 ≤ w3.heap.size := by have h := hb.size; (try simp at h); omega
  replace p0 := bl_cell hb p0
  replace p1 := bl_cell hb p1
  replace p2 := bl_cell hb p2
  replace p3 := bl_cell hb p3
  replace p4 := bl_cell hb p4
  replace p5 := bl_cell hb p5
  replace s0 := bl_cell hb s0
  replace s1 := bl_cell hb s1
  replace s2 := bl_cell hb s2
  replace s3 := bl_cell hb s3
  replace x0 := bl_cell hb x0
  replace x1 := bl_cell hb x1
  replace x2 := bl_cell hb x2
  replace hB : Below w.heap.size w w3 := bl_then hB hb
  replace lb_p := World.block_lt_of_cell? w3 _ p0
  dsimp only at lb_p
  replace lb_s := World.block_lt_of_cell? w3 _ s0
  dsimp only at lb_s
  replace lb_x := World.block_lt_of_cell? w3 _ x0
  dsimp only at lb_x
  clear hb
  go_wp2_with go_step3
  refine (HSM.out _).mono ?_
  rintro e w4 ⟨rfl, hb⟩
  have hsz4 : w3.heap.size + 0 ≤ w4.heap.size := by have h := hb.size; (try simp at h); omega
  replace p0 := bl_cell hb p0
  replace p1 := bl_cell hb p1
  replace p2 := bl_cell hb p2
  replace p3 := bl_cell hb p3
  replace p4 := bl_cell hb p4
  replace p5 := bl_cell hb p5
  replace s0 := bl_cell hb s0
  replace s1 := bl_cell hb s1
  replace s2 := bl_cell hb s2
  replace s3 := bl_cell hb s3
  replace x0 := bl_cell hb x0
  replace x1 := bl_cell hb x1
  replace x2 := bl_cell hb x2
  replace hB : Below w.heap.size w w4 := bl_then hB hb
  replace lb_p := World.block_lt_of_cell? w4 _ p0
  dsimp only at lb_p
  replace lb_s := World.block_lt_of_cell? w4 _ s0
  dsimp only at lb_s
  replace lb_x := World.block_lt_of_cell? w4 _ x0
  dsimp only at lb_x
  clear hb
  go_wp2_with go_step3
  refine (HKN.out _).mono ?_
  rintro e w5 ⟨rfl, hb⟩
  have hsz5 : w4.heap.size + 0 ≤ w5.heap.size := by have h := hb.size; (try simp at h); omega
  replace p0 := bl_cell hb p0
  replace p1 := bl_cell hb p1
  replace p2 := bl_cell hb p2
  replace p3 := bl_cell hb p3
  replace p4 := bl_cell hb p4
  replace p5 := bl_cell hb p5
  replace s0 := bl_cell hb s0
  replace s1 := bl_cell hb s1
  replace s2 := bl_cell hb s2
  replace s3 := bl_cell hb s3
  replace x0 := bl_cell hb x0
  replace x1 := bl_cell hb x1
  replace x2 := bl_cell hb x2
  replace hB : Below w.heap.size w w5 := bl_then hB hb
  replace lb_p := World.block_lt_of_cell? w5 _ p0
  dsimp only at lb_p
  replace lb_s := World.block_lt_of_cell? w5 _ s0
  dsimp only at lb_s
  replace lb_x := World.block_lt_of_cell? w5 _ x0
  dsimp only at lb_x
  clear hb
  go_wp2_with go_step3
  go_ret
  exact ⟨rfl, hB⟩

set_option maxHeartbeats 4000000 in
set_option maxRecDepth 100000 in
theorem kinds_yes (K k l d b cc : Int) (o : Bool) (at_ level held : Int) (L : List (Int × Int)) (a : Option Addr) (n c : Nat) (ak anow acost : Int) (w : World) (hn : ¬ (100 : Int) < n) (hK1 : ¬ K < 1) (hK2 : ¬ 4 < K) (hC : chkP ⟨k, l, d, b, cc, o⟩ = 0) :
    Calls Try.prog 8 #[.int .i64 K, Pol.v ⟨k, l, d, b, cc, o⟩, St.v ⟨at_, level, held, L⟩ a n c, Ac.v ⟨ak, anow, acost⟩] w fun e w' => e = .returned (.bool true) ∧ Below w.heap.size w w' := by
  have KL := kern_P hC
  have hN0 := capP_range hC
  have hck := lcheck_any ⟨k, l, d, b, cc, o⟩
  rw [hC] at hck
  have hmo := lmost_any ⟨k, l, d, b, cc, o⟩
  rw [mostP_cap hC] at hmo
  have hrm := r8most ⟨k, l, d, b, cc, o⟩
  rw [if_pos hC] at hrm
  have hnw := lnew_any ⟨k, l, d, b, cc, o⟩ anow
  have hlog := newP_log ⟨k, l, d, b, cc, o⟩ anow
  generalize hN : capP ⟨k, l, d, b, cc, o⟩ = N at *
  obtain ⟨hr1, hr2, hr3, hr4⟩ := KL.new_all anow
  have hrr := KL.right_new anow
  (try dsimp only at hrr)
  have e1 := (KL.hold_take _ anow N hrr (by omega)).2
  rw [hr1, decide_eq_true (Int.le_refl N)] at e1
  have e2 := (KL.hold_take _ anow (N + 1) hrr (by omega)).2
  rw [hr1, decide_eq_false (by omega)] at e2
  have e3 := KL.retry_ok _ anow (N + 1) hrr (by omega)
  rw [hr2, decide_eq_false (by omega)] at e3
  generalize hX0 : newP ⟨k, l, d, b, cc, o⟩ anow = X0 at *
  have hd1 := fun w hw => ldo_any ⟨k, l, d, b, cc, o⟩ X0 none 0 0 ⟨1, anow, N⟩ w hw
  have hd2 := fun w hw => ldo_any ⟨k, l, d, b, cc, o⟩ X0 none 0 0 ⟨1, anow, N + 1⟩ w hw
  have hre := fun w hw => lretry_any ⟨k, l, d, b, cc, o⟩ X0 none 0 0 anow (N + 1) w hw
  have hfr := fun w hw => lfresh_any ⟨k, l, d, b, cc, o⟩ X0 none 0 0 anow w hw
  rw [hr3] at hfr
  have hri := fun w hw => lright_any ⟨k, l, d, b, cc, o⟩ X0 none 0 0 w hw
  rw [hrr] at hri
  have hkn := known_yes
  generalize doP ⟨k, l, d, b, cc, o⟩ X0 ⟨1, anow, N⟩ = R1 at *
  generalize doP ⟨k, l, d, b, cc, o⟩ X0 ⟨1, anow, N + 1⟩ = R2 at *
  generalize retryP ⟨k, l, d, b, cc, o⟩ X0 anow (N + 1) = R3 at *
  obtain ⟨⟨r1a, r1l, r1h, r1L⟩, r1o⟩ := R1
  obtain ⟨⟨r2a, r2l, r2h, r2L⟩, r2o⟩ := R2
  obtain ⟨r3n, r3o⟩ := R3
  obtain ⟨xat, xlv, xhd, xL⟩ := X0
  dsimp only at e1 e2 e3 hlog
  subst e1 e2 e3 hlog
  have hw1 : IntKind.i64.wrap (N + 1) = N + 1 := IntWalk.i64_in _ (by omega)
  have hN1 : 1 ≤ N := hr4
  clear KL hr1 hr2 hr3 hr4 hrr hX0 hN hN0
  unfold Ac.v St.v Pol.v at *
  (try dsimp only at *)
  have HCK := Go.Lib.hid hck
  have HMO := Go.Lib.hid hmo
  have HRM := Go.Lib.hid hrm
  have HNW := Go.Lib.hid hnw
  have HD1 := Go.Lib.hid hd1
  have HD2 := Go.Lib.hid hd2
  have HRE := Go.Lib.hid hre
  have HFR := Go.Lib.hid hfr
  have HRI := Go.Lib.hid hri
  have HKN := Go.Lib.hid hkn
  clear hck hmo hrm hnw hd1 hd2 hre hfr hri hkn
  go_enter Try.func8, Try.ntmps8
  go_wp2_with go_step3
  refine (HCK.out _).mono ?_
  rintro e w1 ⟨rfl, hb⟩
  have hx : Below w.heap.size w w1 := bl_then (bl_alloc (bl_alloc (bl_alloc (bl_refl _) _) _) _) hb
  have hsz1 : w.heap.size + 3 ≤ w1.heap.size := by have h := hb.size; (try simp at h); omega
  have p0 := bl_cell (v := .int .i64 k) hb (show World.cell? _ ⟨w.heap.size, 0, none⟩ = _ by go_simp)
  have p1 := bl_cell (v := .int .i64 l) hb (show World.cell? _ ⟨w.heap.size, 1, none⟩ = _ by go_simp)
  have p2 := bl_cell (v := .int .i64 d) hb (show World.cell? _ ⟨w.heap.size, 2, none⟩ = _ by go_simp)
  have p3 := bl_cell (v := .int .i64 b) hb (show World.cell? _ ⟨w.heap.size, 3, none⟩ = _ by go_simp)
  have p4 := bl_cell (v := .int .i64 cc) hb (show World.cell? _ ⟨w.heap.size, 4, none⟩ = _ by go_simp)
  have p5 := bl_cell (v := .bool o) hb (show World.cell? _ ⟨w.heap.size, 5, none⟩ = _ by go_simp)
  have s0 := bl_cell (v := .int .i64 at_) hb (show World.cell? _ ⟨w.heap.size + 1, 0, none⟩ = _ by go_simp)
  have s1 := bl_cell (v := .int .i64 level) hb (show World.cell? _ ⟨w.heap.size + 1, 1, none⟩ = _ by go_simp)
  have s2 := bl_cell (v := .int .i64 held) hb (show World.cell? _ ⟨w.heap.size + 1, 2, none⟩ = _ by go_simp)
  have s3 := bl_cell (v := .slice a n c) hb (show World.cell? _ ⟨w.heap.size + 1, 3, none⟩ = _ by go_simp)
  have x0 := bl_cell (v := .int .i64 ak) hb (show World.cell? _ ⟨w.heap.size + 1 + 1, 0, none⟩ = _ by go_simp)
  have x1 := bl_cell (v := .int .i64 anow) hb (show World.cell? _ ⟨w.heap.size + 1 + 1, 1, none⟩ = _ by go_simp)
  have x2 := bl_cell (v := .int .i64 acost) hb (show World.cell? _ ⟨w.heap.size + 1 + 1, 2, none⟩ = _ by go_simp)
  have hB : Below w.heap.size w w1 := hx
  have lb_p := World.block_lt_of_cell? w1 _ p0
  dsimp only at lb_p
  have lb_s := World.block_lt_of_cell? w1 _ s0
  dsimp only at lb_s
  have lb_x := World.block_lt_of_cell? w1 _ x0
  dsimp only at lb_x
  clear hb hx
  go_wp2_with go_step3
  refine (HMO.out _).mono ?_
  rintro e w2 ⟨rfl, hb⟩
  have hsz2 : w1.heap.size + 0 ≤ w2.heap.size := by have h := hb.size; (try simp at h); omega
  replace p0 := bl_cell hb p0
  replace p1 := bl_cell hb p1
  replace p2 := bl_cell hb p2
  replace p3 := bl_cell hb p3
  replace p4 := bl_cell hb p4
  replace p5 := bl_cell hb p5
  replace s0 := bl_cell hb s0
  replace s1 := bl_cell hb s1
  replace s2 := bl_cell hb s2
  replace s3 := bl_cell hb s3
  replace x0 := bl_cell hb x0
  replace x1 := bl_cell hb x1
  replace x2 := bl_cell hb x2
  replace hB : Below w.heap.size w w2 := bl_then hB hb
  replace lb_p := World.block_lt_of_cell? w2 _ p0
  dsimp only at lb_p
  replace lb_s := World.block_lt_of_cell? w2 _ s0
  dsimp only at lb_s
  replace lb_x := World.block_lt_of_cell? w2 _ x0
  dsimp only at lb_x
  clear hb
  go_wp2_with go_step3
  refine (HNW.out _).mono ?_
  rintro e w3 ⟨rfl, hb⟩
  have hsz3 : w2.heap.size + 0 ≤ w3.heap.size := by have h := hb.size; (try simp at h); omega
  replace p0 := bl_cell hb p0
  replace p1 := bl_cell hb p1
  replace p2 := bl_cell hb p2
  replace p3 := bl_cell hb p3
  replace p4 := bl_cell hb p4
  replace p5 := bl_cell hb p5
  replace s0 := bl_cell hb s0
  replace s1 := bl_cell hb s1
  replace s2 := bl_cell hb s2
  replace s3 := bl_cell hb s3
  replace x0 := bl_cell hb x0
  replace x1 := bl_cell hb x1
  replace x2 := bl_cell hb x2
  replace hB : Below w.heap.size w w3 := bl_then hB hb
  replace lb_p := World.block_lt_of_cell? w3 _ p0
  dsimp only at lb_p
  replace lb_s := World.block_lt_of_cell? w3 _ s0
  dsimp only at lb_s
  replace lb_x := World.block_lt_of_cell? w3 _ x0
  dsimp only at lb_x
  clear hb
  go_wp2_with go_step3
  refine (HD1.out _ (log_nil _ _ _ (by omega))).mono ?_
  rintro e w4 ⟨a1, n1, c1, rfl, -, -, hb⟩
  have hx : Below w3.heap.size w3 w4 := bl_then (bl_alloc (bl_refl _) _) hb
  have hsz4 : w3.heap.size + 1 ≤ w4.heap.size := by have h := hb.size; (try simp at h); omega
  replace p0 := bl_cell hx p0
  replace p1 := bl_cell hx p1
  replace p2 := bl_cell hx p2
  replace p3 := bl_cell hx p3
  replace p4 := bl_cell hx p4
  replace p5 := bl_cell hx p5
  replace s0 := bl_cell hx s0
  replace s1 := bl_cell hx s1
  replace s2 := bl_cell hx s2
  replace s3 := bl_cell hx s3
  replace x0 := bl_cell hx x0
  replace x1 := bl_cell hx x1
  replace x2 := bl_cell hx x2
  have y0 := bl_cell (v := .int .i64 xat) hb (show World.cell? _ ⟨w3.heap.size, 0, none⟩ = _ by go_simp)
  have y1 := bl_cell (v := .int .i64 xlv) hb (show World.cell? _ ⟨w3.heap.size, 1, none⟩ = _ by go_simp)
  have y2 := bl_cell (v := .int .i64 xhd) hb (show World.cell? _ ⟨w3.heap.size, 2, none⟩ = _ by go_simp)
  have y3 := bl_cell (v := .slice none 0 0) hb (show World.cell? _ ⟨w3.heap.size, 3, none⟩ = _ by go_simp)
  replace hB : Below w.heap.size w w4 := bl_then hB hx
  replace lb_p := World.block_lt_of_cell? w4 _ p0
  dsimp only at lb_p
  replace lb_s := World.block_lt_of_cell? w4 _ s0
  dsimp only at lb_s
  replace lb_x := World.block_lt_of_cell? w4 _ x0
  dsimp only at lb_x
  have lb_y := World.block_lt_of_cell? w4 _ y0
  dsimp only at lb_y
  clear hb hx
  unfold St.v
  (try dsimp only)
  go_wp2_with go_step3
  refine (HD2.out _ (log_nil _ _ _ (by omega))).mono ?_
  rintro e w5 ⟨a2, n2, c2, rfl, -, -, hb⟩
  have hx : Below w4.heap.size w4 w5 := bl_then (bl_alloc (bl_refl _) _) hb
  have hsz5 : w4.heap.size + 1 ≤ w5.heap.size := by have h := hb.size; (try simp at h); omega
  replace p0 := bl_cell hx p0
  replace p1 := bl_cell hx p1
  replace p2 := bl_cell hx p2
  replace p3 := bl_cell hx p3
  replace p4 := bl_cell hx p4
  replace p5 := bl_cell hx p5
  replace s0 := bl_cell hx s0
  replace s1 := bl_cell hx s1
  replace s2 := bl_cell hx s2
  replace s3 := bl_cell hx s3
  replace x0 := bl_cell hx x0
  replace x1 := bl_cell hx x1
  replace x2 := bl_cell hx x2
  replace y0 := bl_cell hx y0
  replace y1 := bl_cell hx y1
  replace y2 := bl_cell hx y2
  replace y3 := bl_cell hx y3
  have u0 := bl_cell (v := .int .i64 r1a) hb (show World.cell? _ ⟨w4.heap.size, 0, none⟩ = _ by go_simp)
  have u1 := bl_cell (v := .int .i64 r1l) hb (show World.cell? _ ⟨w4.heap.size, 1, none⟩ = _ by go_simp)
  have u2 := bl_cell (v := .int .i64 r1h) hb (show World.cell? _ ⟨w4.heap.size, 2, none⟩ = _ by go_simp)
  have u3 := bl_cell (v := .slice a1 n1 c1) hb (show World.cell? _ ⟨w4.heap.size, 3, none⟩ = _ by go_simp)
  replace hB : Below w.heap.size w w5 := bl_then hB hx
  replace lb_p := World.block_lt_of_cell? w5 _ p0
  dsimp only at lb_p
  replace lb_s := World.block_lt_of_cell? w5 _ s0
  dsimp only at lb_s
  replace lb_x := World.block_lt_of_cell? w5 _ x0
  dsimp only at lb_x
  replace lb_y := World.block_lt_of_cell? w5 _ y0
  dsimp only at lb_y
  have lb_u := World.block_lt_of_cell? w5 _ u0
  dsimp only at lb_u
  clear hb hx
  unfold St.v
  (try dsimp only)
  go_wp2_with go_step3
  refine (HRE.out _ (log_nil _ _ _ (by omega))).mono ?_
  rintro e w6 ⟨rfl, hb⟩
  have hx : Below w5.heap.size w5 w6 := bl_then (bl_alloc (bl_refl _) _) hb
  have hsz6 : w5.heap.size + 1 ≤ w6.heap.size := by have h := hb.size; (try simp at h); omega
  replace p0 := bl_cell hx p0
  replace p1 := bl_cell hx p1
  replace p2 := bl_cell hx p2
  replace p3 := bl_cell hx p3
  replace p4 := bl_cell hx p4
  replace p5 := bl_cell hx p5
  replace s0 := bl_cell hx s0
  replace s1 := bl_cell hx s1
  replace s2 := bl_cell hx s2
  replace s3 := bl_cell hx s3
  replace x0 := bl_cell hx x0
  replace x1 := bl_cell hx x1
  replace x2 := bl_cell hx x2
  replace y0 := bl_cell hx y0
  replace y1 := bl_cell hx y1
  replace y2 := bl_cell hx y2
  replace y3 := bl_cell hx y3
  replace u0 := bl_cell hx u0
  replace u1 := bl_cell hx u1
  replace u2 := bl_cell hx u2
  replace u3 := bl_cell hx u3
  have v0 := bl_cell (v := .int .i64 r2a) hb (show World.cell? _ ⟨w5.heap.size, 0, none⟩ = _ by go_simp)
  have v1 := bl_cell (v := .int .i64 r2l) hb (show World.cell? _ ⟨w5.heap.size, 1, none⟩ = _ by go_simp)
  have v2 := bl_cell (v := .int .i64 r2h) hb (show World.cell? _ ⟨w5.heap.size, 2, none⟩ = _ by go_simp)
  have v3 := bl_cell (v := .slice a2 n2 c2) hb (show World.cell? _ ⟨w5.heap.size, 3, none⟩ = _ by go_simp)
  replace hB : Below w.heap.size w w6 := bl_then hB hx
  replace lb_p := World.block_lt_of_cell? w6 _ p0
  dsimp only at lb_p
  replace lb_s := World.block_lt_of_cell? w6 _ s0
  dsimp only at lb_s
  replace lb_x := World.block_lt_of_cell? w6 _ x0
  dsimp only at lb_x
  replace lb_y := World.block_lt_of_cell? w6 _ y0
  dsimp only at lb_y
  replace lb_u := World.block_lt_of_cell? w6 _ u0
  dsimp only at lb_u
  have lb_v := World.block_lt_of_cell? w6 _ v0
  dsimp only at lb_v
  clear hb hx
  go_wp2_with go_step3
  refine (HFR.out _ (log_nil _ _ _ (by omega))).mono ?_
  rintro e w7 ⟨rfl, hb⟩
  have hsz7 : w6.heap.size + 0 ≤ w7.heap.size := by have h := hb.size; (try simp at h); omega
  replace p0 := bl_cell hb p0
  replace p1 := bl_cell hb p1
  replace p2 := bl_cell hb p2
  replace p3 := bl_cell hb p3
  replace p4 := bl_cell hb p4
  replace p5 := bl_cell hb p5
  replace s0 := bl_cell hb s0
  replace s1 := bl_cell hb s1
  replace s2 := bl_cell hb s2
  replace s3 := bl_cell hb s3
  replace x0 := bl_cell hb x0
  replace x1 := bl_cell hb x1
  replace x2 := bl_cell hb x2
  replace y0 := bl_cell hb y0
  replace y1 := bl_cell hb y1
  replace y2 := bl_cell hb y2
  replace y3 := bl_cell hb y3
  replace u0 := bl_cell hb u0
  replace u1 := bl_cell hb u1
  replace u2 := bl_cell hb u2
  replace u3 := bl_cell hb u3
  replace v0 := bl_cell hb v0
  replace v1 := bl_cell hb v1
  replace v2 := bl_cell hb v2
  replace v3 := bl_cell hb v3
  replace hB : Below w.heap.size w w7 := bl_then hB hb
  replace lb_p := World.block_lt_of_cell? w7 _ p0
  dsimp only at lb_p
  replace lb_s := World.block_lt_of_cell? w7 _ s0
  dsimp only at lb_s
  replace lb_x := World.block_lt_of_cell? w7 _ x0
  dsimp only at lb_x
  replace lb_y := World.block_lt_of_cell? w7 _ y0
  dsimp only at lb_y
  replace lb_u := World.block_lt_of_cell? w7 _ u0
  dsimp only at lb_u
  replace lb_v := World.block_lt_of_cell? w7 _ v0
  dsimp only at lb_v
  clear hb
  go_wp2_with go_step3
  refine (HRI.out _ (log_nil _ _ _ (by omega))).mono ?_
  rintro e w8 ⟨rfl, hb⟩
  have hsz8 : w7.heap.size + 0 ≤ w8.heap.size := by have h := hb.size; (try simp at h); omega
  replace p0 := bl_cell hb p0
  replace p1 := bl_cell hb p1
  replace p2 := bl_cell hb p2
  replace p3 := bl_cell hb p3
  replace p4 := bl_cell hb p4
  replace p5 := bl_cell hb p5
  replace s0 := bl_cell hb s0
  replace s1 := bl_cell hb s1
  replace s2 := bl_cell hb s2
  replace s3 := bl_cell hb s3
  replace x0 := bl_cell hb x0
  replace x1 := bl_cell hb x1
  replace x2 := bl_cell hb x2
  replace y0 := bl_cell hb y0
  replace y1 := bl_cell hb y1
  replace y2 := bl_cell hb y2
  replace y3 := bl_cell hb y3
  replace u0 := bl_cell hb u0
  replace u1 := bl_cell hb u1
  replace u2 := bl_cell hb u2
  replace u3 := bl_cell hb u3
  replace v0 := bl_cell hb v0
  replace v1 := bl_cell hb v1
  replace v2 := bl_cell hb v2
  replace v3 := bl_cell hb v3
  replace hB : Below w.heap.size w w8 := bl_then hB hb
  replace lb_p := World.block_lt_of_cell? w8 _ p0
  dsimp only at lb_p
  replace lb_s := World.block_lt_of_cell? w8 _ s0
  dsimp only at lb_s
  replace lb_x := World.block_lt_of_cell? w8 _ x0
  dsimp only at lb_x
  replace lb_y := World.block_lt_of_cell? w8 _ y0
  dsimp only at lb_y
  replace lb_u := World.block_lt_of_cell? w8 _ u0
  dsimp only at lb_u
  replace lb_v := World.block_lt_of_cell? w8 _ v0
  dsimp only at lb_v
  clear hb
  go_wp2_with go_step3
  refine (HRM.out _).mono ?_
  rintro e w9 ⟨rfl, hb⟩
  have hsz9 : w8.heap.size + 0 ≤ w9.heap.size := by have h := hb.size; (try simp at h); omega
  replace p0 := bl_cell hb p0
  replace p1 := bl_cell hb p1
  replace p2 := bl_cell hb p2
  replace p3 := bl_cell hb p3
  replace p4 := bl_cell hb p4
  replace p5 := bl_cell hb p5
  replace s0 := bl_cell hb s0
  replace s1 := bl_cell hb s1
  replace s2 := bl_cell hb s2
  replace s3 := bl_cell hb s3
  replace x0 := bl_cell hb x0
  replace x1 := bl_cell hb x1
  replace x2 := bl_cell hb x2
  replace y0 := bl_cell hb y0
  replace y1 := bl_cell hb y1
  replace y2 := bl_cell hb y2
  replace y3 := bl_cell hb y3
  replace u0 := bl_cell hb u0
  replace u1 := bl_cell hb u1
  replace u2 := bl_cell hb u2
  replace u3 := bl_cell hb u3
  replace v0 := bl_cell hb v0
  replace v1 := bl_cell hb v1
  replace v2 := bl_cell hb v2
  replace v3 := bl_cell hb v3
  replace hB : Below w.heap.size w w9 := bl_then hB hb
  replace lb_p := World.block_lt_of_cell? w9 _ p0
  dsimp only at lb_p
  replace lb_s := World.block_lt_of_cell? w9 _ s0
  dsimp only at lb_s
  replace lb_x := World.block_lt_of_cell? w9 _ x0
  dsimp only at lb_x
  replace lb_y := World.block_lt_of_cell? w9 _ y0
  dsimp only at lb_y
  replace lb_u := World.block_lt_of_cell? w9 _ u0
  dsimp only at lb_u
  replace lb_v := World.block_lt_of_cell? w9 _ v0
  dsimp only at lb_v
  clear hb
  go_wp2_with go_step3
  refine (HKN.out _).mono ?_
  rintro e w10 ⟨rfl, hb⟩
  have hsz10 : w9.heap.size + 0 ≤ w10.heap.size := by have h := hb.size; (try simp at h); omega
  replace p0 := bl_cell hb p0
  replace p1 := bl_cell hb p1
  replace p2 := bl_cell hb p2
  replace p3 := bl_cell hb p3
  replace p4 := bl_cell hb p4
  replace p5 := bl_cell hb p5
  replace s0 := bl_cell hb s0
  replace s1 := bl_cell hb s1
  replace s2 := bl_cell hb s2
  replace s3 := bl_cell hb s3
  replace x0 := bl_cell hb x0
  replace x1 := bl_cell hb x1
  replace x2 := bl_cell hb x2
  replace y0 := bl_cell hb y0
  replace y1 := bl_cell hb y1
  replace y2 := bl_cell hb y2
  replace y3 := bl_cell hb y3
  replace u0 := bl_cell hb u0
  replace u1 := bl_cell hb u1
  replace u2 := bl_cell hb u2
  replace u3 := bl_cell hb u3
  replace v0 := bl_cell hb v0
  replace v1 := bl_cell hb v1
  replace v2 := bl_cell hb v2
  replace v3 := bl_cell hb v3
  replace hB : Below w.heap.size w w10 := bl_then hB hb
  replace lb_p := World.block_lt_of_cell? w10 _ p0
  dsimp only at lb_p
  replace lb_s := World.block_lt_of_cell? w10 _ s0
  dsimp only at lb_s
  replace lb_x := World.block_lt_of_cell? w10 _ x0
  dsimp only at lb_x
  replace lb_y := World.block_lt_of_cell? w10 _ y0
  dsimp only at lb_y
  replace lb_u := World.block_lt_of_cell? w10 _ u0
  dsimp only at lb_u
  replace lb_v := World.block_lt_of_cell? w10 _ v0
  dsimp only at lb_v
  clear hb
  go_wp2_with go_step3
  go_ret
  exact ⟨rfl, hB⟩

set_option maxHeartbeats 4000000 in
set_option maxRecDepth 100000 in
theorem kinds_long (K : Int) (p : Pol) (s : St) (x : Ac) (a : Option Addr) (n c : Nat) (w : World) (hn : (100 : Int) < n) :
    Calls Try.prog 8 #[.int .i64 K, p.v, s.v a n c, x.v] w fun e w' => e = .returned (.bool true) ∧ Below w.heap.size w w' := by
  have hkn := known_yes
  obtain ⟨k, l, d, b, cc, o⟩ := p
  obtain ⟨at_, level, held, L⟩ := s
  obtain ⟨ak, anow, acost⟩ := x
  unfold Ac.v St.v Pol.v at *
  (try dsimp only at *)
  have HKN := Go.Lib.hid hkn
  clear hkn
  go_enter Try.func8, Try.ntmps8
  go_wp2_with go_step3
  refine (HKN.out _).mono ?_
  rintro e w1 ⟨rfl, hb⟩
  have hx : Below w.heap.size w w1 := bl_then (bl_alloc (bl_alloc (bl_alloc (bl_refl _) _) _) _) hb
  have hsz1 : w.heap.size + 3 ≤ w1.heap.size := by have h := hb.size; (try simp at h); omega
  have p0 := bl_cell (v := .int .i64 k) hb (show World.cell? _ ⟨w.heap.size, 0, none⟩ = _ by go_simp)
  have p1 := bl_cell (v := .int .i64 l) hb (show World.cell? _ ⟨w.heap.size, 1, none⟩ = _ by go_simp)
  have p2 := bl_cell (v := .int .i64 d) hb (show World.cell? _ ⟨w.heap.size, 2, none⟩ = _ by go_simp)
  have p3 := bl_cell (v := .int .i64 b) hb (show World.cell? _ ⟨w.heap.size, 3, none⟩ = _ by go_simp)
  have p4 := bl_cell (v := .int .i64 cc) hb (show World.cell? _ ⟨w.heap.size, 4, none⟩ = _ by go_simp)
  have p5 := bl_cell (v := .bool o) hb (show World.cell? _ ⟨w.heap.size, 5, none⟩ = _ by go_simp)
  have s0 := bl_cell (v := .int .i64 at_) hb (show World.cell? _ ⟨w.heap.size + 1, 0, none⟩ = _ by go_simp)
  have s1 := bl_cell (v := .int .i64 level) hb (show World.cell? _ ⟨w.heap.size + 1, 1, none⟩ = _ by go_simp)
  have s2 := bl_cell (v := .int .i64 held) hb (show World.cell? _ ⟨w.heap.size + 1, 2, none⟩ = _ by go_simp)
  have s3 := bl_cell (v := .slice a n c) hb (show World.cell? _ ⟨w.heap.size + 1, 3, none⟩ = _ by go_simp)
  have x0 := bl_cell (v := .int .i64 ak) hb (show World.cell? _ ⟨w.heap.size + 1 + 1, 0, none⟩ = _ by go_simp)
  have x1 := bl_cell (v := .int .i64 anow) hb (show World.cell? _ ⟨w.heap.size + 1 + 1, 1, none⟩ = _ by go_simp)
  have x2 := bl_cell (v := .int .i64 acost) hb (show World.cell? _ ⟨w.heap.size + 1 + 1, 2, none⟩ = _ by go_simp)
  have hB : Below w.heap.size w w1 := hx
  have lb_p := World.block_lt_of_cell? w1 _ p0
  dsimp only at lb_p
  have lb_s := World.block_lt_of_cell? w1 _ s0
  dsimp only at lb_s
  have lb_x := World.block_lt_of_cell? w1 _ x0
  dsimp only at lb_x
  clear hb hx
  go_wp2_with go_step3
  go_ret
  exact ⟨rfl, hB⟩

theorem kinds_walk (K : Int) (p : Pol) (s : St) (a : Option Addr) (n c : Nat) (x : Ac) (w : World) (hKl : -9223372036854775808 ≤ K) (hKh : K ≤ 9223372036854775807) (hl : LogAt w a n c s.log) :
    Calls Try.prog 8 #[.int .i64 K, p.v, s.v a n c, x.v] w fun e w' => e = .returned (.bool true) ∧ Below w.heap.size w w' := by
  by_cases hn : (100 : Int) < n
  · exact kinds_long K p s x a n c w hn
  obtain ⟨k, l, d, b, cc, o⟩ := p
  obtain ⟨at_, level, held, L⟩ := s
  obtain ⟨ak, anow, acost⟩ := x
  by_cases h1 : K < 1
  · exact kinds_less K k l d b cc o at_ level held L a n c ak anow acost w hl hn h1
  by_cases h2 : 4 < K
  · exact kinds_more K k l d b cc o at_ level held L a n c ak anow acost w hl hn h1 h2
  by_cases hC : chkP ⟨k, l, d, b, cc, o⟩ = 0
  · exact kinds_yes K k l d b cc o at_ level held L a n c ak anow acost w hn h1 h2 hC
  · exact kinds_no K k l d b cc o at_ level held L a n c ak anow acost w hn h1 h2 hC
end Go.Proofs.Ythinbjknkjpdjaa

namespace Go.Proofs.Ythinbjknkjpdjaa.limiterKinds
open Go.ChangeShapes Go.WideShapes Go.ChangeAt Go.RowKit
open Go.ChangeMaps (open_string shut_string)
set_option linter.unusedVariables false
set_option linter.unusedSimpArgs false

theorem own : ownKnob Try.prog.godebug = none := by kernel_rfl
theorem laidOut : laidOutB Try.prog = true := by kernel_rfl

set_option maxHeartbeats 1000000 in
set_option maxRecDepth 100000 in
theorem lifted (os : Os) (started : os.Started) (H : Type) (enc : TypeId × Value → H) :
    ReturnsInHanded {} Try.checked os 8 .any (Rows.limiterKindsSpec.pre6 enc Try.prog Try.f8 Rows.limiterKindsRow.domain false) (Rows.limiterKindsSpec.post enc Try.prog Try.f8 false true false false) := by
  refine returnsInHanded_of_change (C := Try.checked) own started (by kernel_rfl) Try.func8
    (ChangeSpec.witness6 (enc := enc) (C := Try.checked) false ⟨#[], #[.int .i64 0, .agg #[.int .i64 0, .int .i64 0, .int .i64 0, .int .i64 0, .int .i64 0, .bool false], .agg #[.int .i64 0, .int .i64 0, .int .i64 0, .slice none 0 0], .agg #[.int .i64 0, .int .i64 0, .int .i64 0]], []⟩ 8 (by kernel_rfl) (by kernel_rfl) (by kernel_rfl) (by kernel_rfl)) ?_
  intro W base args ds gs before hval0 hW hcnd _
  have hval : ∀ (j : Nat) t v, Try.f8.params[j]? = some t → args[j]? = some v → Value.okWide Try.prog W .any base t v := hval0
  have hW' := hW
  obtain ⟨p, q, hA0, hV, rfl, hfz, hnd⟩ := hW
  have hA : DataW.TrodAll enc Try.prog W 0 (fun _ => true) true Try.f8.params.toList args.toList ds p := hA0
  rw [Try.params8] at hA hval
  obtain ⟨v0, vs0, d0, ds0', p0, q0, hargs, rfl, rfl, h0, r0⟩ := trodAll_cons hA
  obtain ⟨v1, vs1, d1, ds1', p1, q1, rfl, rfl, rfl, h1, r1⟩ := trodAll_cons r0
  obtain ⟨v2, vs2, d2, ds2', p2, q2, rfl, rfl, rfl, h2, r2⟩ := trodAll_cons r1
  obtain ⟨v3, vs3, d3, ds3', p3, q3, rfl, rfl, rfl, h3, r3⟩ := trodAll_cons r2
  obtain ⟨rfl, rfl, rfl⟩ := trodAll_nil r3
  obtain rfl : args = #[v0, v1, v2, v3] := by cases args; simp_all
  obtain ⟨rfl, rfl⟩ := trodVars_none hV
  obtain ⟨a0, rfl, rfl, rfl, w0⟩ := open_int Try.underlying3 (hval 0 3 v0 rfl rfl) h0
  have b0l : -9223372036854775808 ≤ a0 := by have h := w0; simp only [Lit.wf, Bool.and_eq_true, decide_eq_true_eq] at h; exact h.1
  have b0h : a0 ≤ 9223372036854775807 := by have h := w0; simp only [Lit.wf, Bool.and_eq_true, decide_eq_true_eq] at h; exact h.2
  have k1 := h1
  have lt1 : ∀ x ∈ p1, x.block < W.heap.size := by obtain ⟨m, hm⟩ := k1; exact DataW.trod_lt m _ _ _ hm
  obtain ⟨ds1, rfl⟩ := open_pol (hval 1 28 v1 rfl rfl) h1
  have k2 := h2
  have lt2 : ∀ x ∈ p2, x.block < W.heap.size := by obtain ⟨m, hm⟩ := k2; exact DataW.trod_lt m _ _ _ hm
  obtain ⟨ds2, a2, len2, cap2, rfl, w2⟩ := open_st (hval 2 32 v2 rfl rfl) h2
  have k3 := h3
  have lt3 : ∀ x ∈ p3, x.block < W.heap.size := by obtain ⟨m, hm⟩ := k3; exact DataW.trod_lt m _ _ _ hm
  obtain ⟨ds3, rfl⟩ := open_act (hval 3 40 v3 rfl rfl) h3
  clear hA0 hval0
  refine (kinds_walk a0 ds1 ds2 a2 len2 cap2 ds3 W b0l b0h w2).mono fun e W' ⟨he, bel⟩ => ?_
  subst he
  exact ⟨_, rfl, _, _, _, [], _, [], hW', trodAll_mk1 (shut_bool Try.underlying4 _), (trodAll_cons_mk (shut_int Try.underlying3 w0) (trodAll_cons_mk (Below.trod laidOut (by kernel_rfl) (of_decide_eq_true (by kernel_rfl)) k1 bel lt1) (trodAll_cons_mk (Below.trod laidOut (by kernel_rfl) (of_decide_eq_true (by kernel_rfl)) k2 bel lt2) (trodAll_cons_mk (Below.trod laidOut (by kernel_rfl) (of_decide_eq_true (by kernel_rfl)) k3 bel lt3) trodAll_mk0)))), rfl, bel.frame _, fun h => by cases h⟩

theorem over : Rows.limiterKindsRow.holds Try.pinned (OpenSpec.ofChange Rows.limiterKindsSpec) :=
  OpenClaim.holds_of_wide 8 Try.f8 rfl rfl rfl rfl rfl rfl rfl ⟨rfl, rfl, rfl, rfl, rfl⟩ rfl rfl rfl rfl rfl (by kernel_rfl) Try.func8 (by kernel_rfl)
    (of_decide_eq_true (by kernel_rfl)) (by unfold Func.isWrapper; first | (rw [if_pos (by decide +kernel)]; kernel_rfl) | (rw [if_neg (by decide +kernel)]; exact ⟨rfl, rfl⟩))
    (fun os started H enc _ => lifted os started H enc)

/-- The statement. -/
theorem proved : Rows.LimiterKindsSaid := over
end Go.Proofs.Ythinbjknkjpdjaa.limiterKinds
