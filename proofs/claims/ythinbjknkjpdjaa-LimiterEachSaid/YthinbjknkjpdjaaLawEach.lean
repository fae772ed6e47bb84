/-
  The statement LimiterEach of this seat: for every input the law returns true, and each argument reads afterwards as it read before. No condition.
-/
import Derived.Test.YthinbjknkjpdjaaM5
import Derived.Test.YthinbjknkjpdjaaRows
import Derived.WalkKit
import Derived.ProofKit
import Derived.OpenShut
import Derived.ShutString
import Derived.ChangeOld
import Derived.Below
namespace Go.Proofs.Ythinbjknkjpdjaa
open Go.RowKit
set_option linter.unusedVariables false
set_option linter.unusedSimpArgs false

set_option maxHeartbeats 4000000 in
set_option maxRecDepth 100000 in
theorem each_bucket (l d b cc : Int) (o : Bool) (at_ level held : Int) (L : List (Int × Int)) (a : Option Addr) (n c : Nat) (ak anow acost : Int) (w : World) (hl : LogAt w a n c L) (hn : ¬ (100 : Int) < n) :
    Calls Try.prog 4 #[Pol.v ⟨1, l, d, b, cc, o⟩, St.v ⟨at_, level, held, L⟩ a n c, Ac.v ⟨ak, anow, acost⟩] w fun e w' => e = .returned (.bool true) ∧ Below w.heap.size w w' := by
  have hdo := fun w hw => ldo_any ⟨1, l, d, b, cc, o⟩ ⟨at_, level, held, L⟩ a n c ⟨ak, anow, acost⟩ w hw
  rw [show doP ⟨1, l, d, b, cc, o⟩ ⟨at_, level, held, L⟩ ⟨ak, anow, acost⟩ = doB ⟨1, l, d, b, cc, o⟩ ⟨at_, level, held, L⟩ ⟨ak, anow, acost⟩ by unfold doP; simp] at hdo
  have hdb := fun w hw => bdo_all ⟨1, l, d, b, cc, o⟩ ⟨at_, level, held, L⟩ a n c ⟨ak, anow, acost⟩ w hw
  have hck := lcheck_any ⟨1, l, d, b, cc, o⟩
  rw [show chkP ⟨1, l, d, b, cc, o⟩ = chkB ⟨1, l, d, b, cc, o⟩ by unfold chkP; simp] at hck
  have hcb := bcheck_any ⟨1, l, d, b, cc, o⟩
  have hkn := known_yes
  have hsm := same_yes
  generalize doB ⟨1, l, d, b, cc, o⟩ ⟨at_, level, held, L⟩ ⟨ak, anow, acost⟩ = R at *
  generalize chkB ⟨1, l, d, b, cc, o⟩ = C at *
  obtain ⟨⟨rat, rlv, rhd, rL⟩, rok⟩ := R
  unfold Ac.v St.v Pol.v at *
  dsimp only at *
  have HDO := Go.Lib.hid hdo
  have HDB := Go.Lib.hid hdb
  have HCK := Go.Lib.hid hck
  have HCB := Go.Lib.hid hcb
  have HKN := Go.Lib.hid hkn
  have HSM := Go.Lib.hid hsm
  have HL := Go.Lib.hid hl
  clear hdo hdb hck hcb hkn hsm hl
  go_enter Try.func4, Try.ntmps4
  go_wp2_with go_step3
  refine (HDO.out _ (log_bl HL.out (bl_alloc (bl_alloc (bl_alloc (bl_refl _) _) _) _))).mono ?_
  rintro e w1 ⟨a1, n1, c1, rfl, hl1, -, hb⟩
  have hx : Below w.heap.size w w1 := bl_then (bl_alloc (bl_alloc (bl_alloc (bl_refl _) _) _) _) hb
  have hsz1 : w.heap.size + 3 ≤ w1.heap.size := by have h := hb.size; (try simp at h); omega
  have p0 := bl_cell (v := .int .i64 1) hb (show World.cell? _ ⟨w.heap.size, 0, none⟩ = _ by go_simp)
  have p1 := bl_cell (v := .int .i64 l) hb (show World.cell? _ ⟨w.heap.size, 1, none⟩ = _ by go_simp)
  have p2 := bl_cell (v := .int .i64 d) hb (show World.cell? _ ⟨w.heap.size, 2, none⟩ = _ by go_simp)
  have p3 := bl_cell (v := .int .i64 b) hb (show World.cell? _ ⟨w.heap.size, 3, none⟩ = _ by go_simp)
  have p4 := bl_cell (v := .int .i64 cc) hb (show World.cell? _ ⟨w.heap.size, 4, none⟩ = _ by go_simp)
  have p5 := bl_cell (v := .bool o) hb (show World.cell? _ ⟨w.heap.size, 5, none⟩ = _ by go_simp)
  have s0 := bl_cell (v := .int .i64 at_) hb (show World.cell? _ ⟨w.heap.size + 1, 0, none⟩ = _ by go_simp)
  have s1 := bl_cell (v := .int .i64 level) hb (show World.cell? _ ⟨w.heap.size + 1, 1, none⟩ = _ by go_simp)
  have s2 := bl_cell (v := .int .i64 held) hb (show World.cell? _ ⟨w.heap.size + 1, 2, none⟩ = _ by go_simp)
  have s3 := bl_cell (v := .slice a n c) hb (show World.cell? _ ⟨w.heap.size + 1, 3, none⟩ = _ by go_simp)
  have x0 := bl_cell (v := .int .i64 ak) hb (show World.cell? _ ⟨w.heap.size + 1 + 1, 0, none⟩ = _ by go_simp)
  have x1 := bl_cell (v := .int .i64 anow) hb (show World.cell? _ ⟨w.heap.size + 1 + 1, 1, none⟩ = _ by go_simp)
  have x2 := bl_cell (v := .int .i64 acost) hb (show World.cell? _ ⟨w.heap.size + 1 + 1, 2, none⟩ = _ by go_simp)
  have hB : Below w.heap.size w w1 := hx
  have lb_p := World.block_lt_of_cell? w1 _ p0
  dsimp only at lb_p
  have lb_s := World.block_lt_of_cell? w1 _ s0
  dsimp only at lb_s
  have lb_x := World.block_lt_of_cell? w1 _ x0
  dsimp only at lb_x
  clear hb hx
  have lt1 := log_lt hl1
  unfold St.v
  dsimp only
  go_wp2_with go_step3
  refine (HDB.out _ (log_bl HL.out (bl_alloc (bl_alloc (hB) _) _))).mono ?_
  rintro e w2 ⟨a2, n2, c2, rfl, hl2, hs2, hb⟩
  have hx : Below w1.heap.size w1 w2 := bl_then (bl_alloc (bl_alloc (bl_refl _) _) _) hb
  have hsz2 : w1.heap.size + 2 ≤ w2.heap.size := by have h := hb.size; (try simp at h); omega
  replace p0 := bl_cell hx p0
  replace p1 := bl_cell hx p1
  replace p2 := bl_cell hx p2
  replace p3 := bl_cell hx p3
  replace p4 := bl_cell hx p4
  replace p5 := bl_cell hx p5
  replace s0 := bl_cell hx s0
  replace s1 := bl_cell hx s1
  replace s2 := bl_cell hx s2
  replace s3 := bl_cell hx s3
  replace x0 := bl_cell hx x0
  replace x1 := bl_cell hx x1
  replace x2 := bl_cell hx x2
  replace hl1 := log_bl hl1 hx
  have t0 := bl_cell (v := .int .i64 rat) hb (show World.cell? _ ⟨w1.heap.size, 0, none⟩ = _ by go_simp)
  have t1 := bl_cell (v := .int .i64 rlv) hb (show World.cell? _ ⟨w1.heap.size, 1, none⟩ = _ by go_simp)
  have t2 := bl_cell (v := .int .i64 rhd) hb (show World.cell? _ ⟨w1.heap.size, 2, none⟩ = _ by go_simp)
  have t3 := bl_cell (v := .slice a1 n1 c1) hb (show World.cell? _ ⟨w1.heap.size, 3, none⟩ = _ by go_simp)
  have u0 := bl_cell (v := .int .i64 at_) hb (show World.cell? _ ⟨w1.heap.size + 1, 0, none⟩ = _ by go_simp)
  have u1 := bl_cell (v := .int .i64 level) hb (show World.cell? _ ⟨w1.heap.size + 1, 1, none⟩ = _ by go_simp)
  have u2 := bl_cell (v := .int .i64 held) hb (show World.cell? _ ⟨w1.heap.size + 1, 2, none⟩ = _ by go_simp)
  have u3 := bl_cell (v := .slice a n c) hb (show World.cell? _ ⟨w1.heap.size + 1, 3, none⟩ = _ by go_simp)
  have uR := res_bl (b := w1.heap.size + 1) (res_new _ _ _ _ _ _ (by simp)) hb
  replace hB : Below w.heap.size w w2 := bl_then hB hx
  replace lb_p := World.block_lt_of_cell? w2 _ p0
  dsimp only at lb_p
  replace lb_s := World.block_lt_of_cell? w2 _ s0
  dsimp only at lb_s
  replace lb_x := World.block_lt_of_cell? w2 _ x0
  dsimp only at lb_x
  have lb_t := World.block_lt_of_cell? w2 _ t0
  dsimp only at lb_t
  have lb_u := World.block_lt_of_cell? w2 _ u0
  dsimp only at lb_u
  clear hb hx
  unfold St.v
  dsimp only
  have hne2 : ∀ ad, a2 = some ad → n2 ≠ 0 → ad.block ≠ w1.heap.size + 1 := src_ne HL.out hs2 (by omega) (by simp)
  have hnn : n2 = n1 := hl2.1.symm.trans hl1.1
  subst hnn
  obtain ⟨fr0, fr1, fr2, fr3, -⟩ := res_all uR
  go_wp2_with go_step3
  obtain ⟨z0, z1, z2, z3⟩ := set4r (v0 := .int .i64 rat) (v1 := .int .i64 rlv) (v2 := .int .i64 rhd) (v3 := .slice a2 n2 c2) uR
  replace p0 := far4 (b := w1.heap.size + 1) (v0 := .int .i64 rat) (v1 := .int .i64 rlv) (v2 := .int .i64 rhd) (v3 := .slice a2 n2 c2) p0 (by dsimp only; omega)
  replace p1 := far4 (b := w1.heap.size + 1) (v0 := .int .i64 rat) (v1 := .int .i64 rlv) (v2 := .int .i64 rhd) (v3 := .slice a2 n2 c2) p1 (by dsimp only; omega)
  replace p2 := far4 (b := w1.heap.size + 1) (v0 := .int .i64 rat) (v1 := .int .i64 rlv) (v2 := .int .i64 rhd) (v3 := .slice a2 n2 c2) p2 (by dsimp only; omega)
  replace p3 := far4 (b := w1.heap.size + 1) (v0 := .int .i64 rat) (v1 := .int .i64 rlv) (v2 := .int .i64 rhd) (v3 := .slice a2 n2 c2) p3 (by dsimp only; omega)
  replace p4 := far4 (b := w1.heap.size + 1) (v0 := .int .i64 rat) (v1 := .int .i64 rlv) (v2 := .int .i64 rhd) (v3 := .slice a2 n2 c2) p4 (by dsimp only; omega)
  replace p5 := far4 (b := w1.heap.size + 1) (v0 := .int .i64 rat) (v1 := .int .i64 rlv) (v2 := .int .i64 rhd) (v3 := .slice a2 n2 c2) p5 (by dsimp only; omega)
  replace s0 := far4 (b := w1.heap.size + 1) (v0 := .int .i64 rat) (v1 := .int .i64 rlv) (v2 := .int .i64 rhd) (v3 := .slice a2 n2 c2) s0 (by dsimp only; omega)
  replace s1 := far4 (b := w1.heap.size + 1) (v0 := .int .i64 rat) (v1 := .int .i64 rlv) (v2 := .int .i64 rhd) (v3 := .slice a2 n2 c2) s1 (by dsimp only; omega)
  replace s2 := far4 (b := w1.heap.size + 1) (v0 := .int .i64 rat) (v1 := .int .i64 rlv) (v2 := .int .i64 rhd) (v3 := .slice a2 n2 c2) s2 (by dsimp only; omega)
  replace s3 := far4 (b := w1.heap.size + 1) (v0 := .int .i64 rat) (v1 := .int .i64 rlv) (v2 := .int .i64 rhd) (v3 := .slice a2 n2 c2) s3 (by dsimp only; omega)
  replace x0 := far4 (b := w1.heap.size + 1) (v0 := .int .i64 rat) (v1 := .int .i64 rlv) (v2 := .int .i64 rhd) (v3 := .slice a2 n2 c2) x0 (by dsimp only; omega)
  replace x1 := far4 (b := w1.heap.size + 1) (v0 := .int .i64 rat) (v1 := .int .i64 rlv) (v2 := .int .i64 rhd) (v3 := .slice a2 n2 c2) x1 (by dsimp only; omega)
  replace x2 := far4 (b := w1.heap.size + 1) (v0 := .int .i64 rat) (v1 := .int .i64 rlv) (v2 := .int .i64 rhd) (v3 := .slice a2 n2 c2) x2 (by dsimp only; omega)
  replace hl1 := log_set4 (b := w1.heap.size + 1) (v0 := .int .i64 rat) (v1 := .int .i64 rlv) (v2 := .int .i64 rhd) (v3 := .slice a2 n2 c2) hl1 (fun ad e hn => by have := lt1 ad e hn; omega)
  replace t0 := far4 (b := w1.heap.size + 1) (v0 := .int .i64 rat) (v1 := .int .i64 rlv) (v2 := .int .i64 rhd) (v3 := .slice a2 n2 c2) t0 (by dsimp only; omega)
  replace t1 := far4 (b := w1.heap.size + 1) (v0 := .int .i64 rat) (v1 := .int .i64 rlv) (v2 := .int .i64 rhd) (v3 := .slice a2 n2 c2) t1 (by dsimp only; omega)
  replace t2 := far4 (b := w1.heap.size + 1) (v0 := .int .i64 rat) (v1 := .int .i64 rlv) (v2 := .int .i64 rhd) (v3 := .slice a2 n2 c2) t2 (by dsimp only; omega)
  replace t3 := far4 (b := w1.heap.size + 1) (v0 := .int .i64 rat) (v1 := .int .i64 rlv) (v2 := .int .i64 rhd) (v3 := .slice a2 n2 c2) t3 (by dsimp only; omega)
  replace u0 := z0
  replace u1 := z1
  replace u2 := z2
  replace u3 := z3
  replace uR := res4 (b := w1.heap.size + 1) (v0 := .int .i64 rat) (v1 := .int .i64 rlv) (v2 := .int .i64 rhd) (v3 := .slice a2 n2 c2) uR
  replace hl2 := log_set4 (b := w1.heap.size + 1) (v0 := .int .i64 rat) (v1 := .int .i64 rlv) (v2 := .int .i64 rhd) (v3 := .slice a2 n2 c2) hl2 hne2
  replace hB := bl4 (b := w1.heap.size + 1) (v0 := .int .i64 rat) (v1 := .int .i64 rlv) (v2 := .int .i64 rhd) (v3 := .slice a2 n2 c2) hB (by omega)
  clear z0 z1 z2 z3 fr0 fr1 fr2 fr3
  refine (HCB.out _).mono ?_
  rintro e w3 ⟨rfl, hb⟩
  have hsz3 : w2.heap.size + 0 ≤ w3.heap.size := by have h := hb.size; (try simp at h); omega
  replace p0 := bl_cell hb p0
  replace p1 := bl_cell hb p1
  replace p2 := bl_cell hb p2
  replace p3 := bl_cell hb p3
  replace p4 := bl_cell hb p4
  replace p5 := bl_cell hb p5
  replace s0 := bl_cell hb s0
  replace s1 := bl_cell hb s1
  replace s2 := bl_cell hb s2
  replace s3 := bl_cell hb s3
  replace x0 := bl_cell hb x0
  replace x1 := bl_cell hb x1
  replace x2 := bl_cell hb x2
  replace hl1 := log_bl hl1 hb
  replace t0 := bl_cell hb t0
  replace t1 := bl_cell hb t1
  replace t2 := bl_cell hb t2
  replace t3 := bl_cell hb t3
  replace u0 := bl_cell hb u0
  replace u1 := bl_cell hb u1
  replace u2 := bl_cell hb u2
  replace u3 := bl_cell hb u3
  replace uR := res_bl uR hb
  replace hl2 := log_bl hl2 hb
  replace hB : Below w.heap.size w w3 := bl_then hB hb
  replace lb_p := World.block_lt_of_cell? w3 _ p0
  dsimp only at lb_p
  replace lb_s := World.block_lt_of_cell? w3 _ s0
  dsimp only at lb_s
  replace lb_x := World.block_lt_of_cell? w3 _ x0
  dsimp only at lb_x
  replace lb_t := World.block_lt_of_cell? w3 _ t0
  dsimp only at lb_t
  replace lb_u := World.block_lt_of_cell? w3 _ u0
  dsimp only at lb_u
  clear hb
  go_wp2_with go_step3
  refine (HSM.out ⟨rat, rlv, rhd, rL⟩ a1 a2 n2 c1 c2 _ hl1 hl2).mono ?_
  rintro e w4 ⟨rfl, hb⟩
  have hsz4 : w3.heap.size + 0 ≤ w4.heap.size := by have h := hb.size; (try simp at h); omega
  replace p0 := bl_cell hb p0
  replace p1 := bl_cell hb p1
  replace p2 := bl_cell hb p2
  replace p3 := bl_cell hb p3
  replace p4 := bl_cell hb p4
  replace p5 := bl_cell hb p5
  replace s0 := bl_cell hb s0
  replace s1 := bl_cell hb s1
  replace s2 := bl_cell hb s2
  replace s3 := bl_cell hb s3
  replace x0 := bl_cell hb x0
  replace x1 := bl_cell hb x1
  replace x2 := bl_cell hb x2
  replace hl1 := log_bl hl1 hb
  replace t0 := bl_cell hb t0
  replace t1 := bl_cell hb t1
  replace t2 := bl_cell hb t2
  replace t3 := bl_cell hb t3
  replace u0 := bl_cell hb u0
  replace u1 := bl_cell hb u1
  replace u2 := bl_cell hb u2
  replace u3 := bl_cell hb u3
  replace uR := res_bl uR hb
  replace hl2 := log_bl hl2 hb
  replace hB : Below w.heap.size w w4 := bl_then hB hb
  replace lb_p := World.block_lt_of_cell? w4 _ p0
  dsimp only at lb_p
  replace lb_s := World.block_lt_of_cell? w4 _ s0
  dsimp only at lb_s
  replace lb_x := World.block_lt_of_cell? w4 _ x0
  dsimp only at lb_x
  replace lb_t := World.block_lt_of_cell? w4 _ t0
  dsimp only at lb_t
  replace lb_u := World.block_lt_of_cell? w4 _ u0
  dsimp only at lb_u
  clear hb
  go_wp2_with go_step3
  refine (HCK.out _).mono ?_
  rintro e w5 ⟨rfl, hb⟩
  have hsz5 : w4.heap.size + 0 ≤ w5.heap.size := by have h := hb.size; (try simp at h); omega
  replace p0 := bl_cell hb p0
  replace p1 := bl_cell hb p1
  replace p2 := bl_cell hb p2
  replace p3 := bl_cell hb p3
  replace p4 := bl_cell hb p4
  replace p5 := bl_cell hb p5
  replace s0 := bl_cell hb s0
  replace s1 := bl_cell hb s1
  replace s2 := bl_cell hb s2
  replace s3 := bl_cell hb s3
  replace x0 := bl_cell hb x0
  replace x1 := bl_cell hb x1
  replace x2 := bl_cell hb x2
  replace hl1 := log_bl hl1 hb
  replace t0 := bl_cell hb t0
  replace t1 := bl_cell hb t1
  replace t2 := bl_cell hb t2
  replace t3 := bl_cell hb t3
  replace u0 := bl_cell hb u0
  replace u1 := bl_cell hb u1
  replace u2 := bl_cell hb u2
  replace u3 := bl_cell hb u3
  replace uR := res_bl uR hb
  replace hl2 := log_bl hl2 hb
  replace hB : Below w.heap.size w w5 := bl_then hB hb
  replace lb_p := World.block_lt_of_cell? w5 _ p0
  dsimp only at lb_p
  replace lb_s := World.block_lt_of_cell? w5 _ s0
  dsimp only at lb_s
  replace lb_x := World.block_lt_of_cell? w5 _ x0
  dsimp only at lb_x
  replace lb_t := World.block_lt_of_cell? w5 _ t0
  dsimp only at lb_t
  replace lb_u := World.block_lt_of_cell? w5 _ u0
  dsimp only at lb_u
  clear hb
  go_wp2_with go_step3
  refine (HKN.out _).mono ?_
  rintro e w6 ⟨rfl, hb⟩
  have hsz6 : w5.heap.size + 0 ≤ w6.heap.size := by have h := hb.size; (try simp at h); omega
  replace p0 := bl_cell hb p0
  replace p1 := bl_cell hb p1
  replace p2 := bl_cell hb p2
  replace p3 := bl_cell hb p3
  replace p4 := bl_cell hb p4
  replace p5 := bl_cell hb p5
  replace s0 := bl_cell hb s0
  replace s1 := bl_cell hb s1
  replace s2 := bl_cell hb s2
  replace s3 := bl_cell hb s3
  replace x0 := bl_cell hb x0
  replace x1 := bl_cell hb x1
  replace x2 := bl_cell hb x2
  replace hl1 := log_bl hl1 hb
  replace t0 := bl_cell hb t0
  replace t1 := bl_cell hb t1
  replace t2 := bl_cell hb t2
  replace t3 := bl_cell hb t3
  replace u0 := bl_cell hb u0
  replace u1 := bl_cell hb u1
  replace u2 := bl_cell hb u2
  replace u3 := bl_cell hb u3
  replace uR := res_bl uR hb
  replace hl2 := log_bl hl2 hb
  replace hB : Below w.heap.size w w6 := bl_then hB hb
  replace lb_p := World.block_lt_of_cell? w6 _ p0
  dsimp only at lb_p
  replace lb_s := World.block_lt_of_cell? w6 _ s0
  dsimp only at lb_s
  replace lb_x := World.block_lt_of_cell? w6 _ x0
  dsimp only at lb_x
  replace lb_t := World.block_lt_of_cell? w6 _ t0
  dsimp only at lb_t
  replace lb_u := World.block_lt_of_cell? w6 _ u0
  dsimp only at lb_u
  clear hb
  go_wp2_with go_step3
  go_ret
  exact ⟨rfl, hB⟩

set_option maxHeartbeats 4000000 in
set_option maxRecDepth 100000 in
theorem each_gcra (l d b cc : Int) (o : Bool) (at_ level held : Int) (L : List (Int × Int)) (a : Option Addr) (n c : Nat) (ak anow acost : Int) (w : World) (hl : LogAt w a n c L) (hn : ¬ (100 : Int) < n) :
    Calls Try.prog 4 #[Pol.v ⟨2, l, d, b, cc, o⟩, St.v ⟨at_, level, held, L⟩ a n c, Ac.v ⟨ak, anow, acost⟩] w fun e w' => e = .returned (.bool true) ∧ Below w.heap.size w w' := by
  have hdo := fun w hw => ldo_any ⟨2, l, d, b, cc, o⟩ ⟨at_, level, held, L⟩ a n c ⟨ak, anow, acost⟩ w hw
  rw [show doP ⟨2, l, d, b, cc, o⟩ ⟨at_, level, held, L⟩ ⟨ak, anow, acost⟩ = doG ⟨2, l, d, b, cc, o⟩ ⟨at_, level, held, L⟩ ⟨ak, anow, acost⟩ by unfold doP; simp] at hdo
  have hdb := fun w hw => gdo_all ⟨2, l, d, b, cc, o⟩ ⟨at_, level, held, L⟩ a n c ⟨ak, anow, acost⟩ w hw
  have hck := lcheck_any ⟨2, l, d, b, cc, o⟩
  rw [show chkP ⟨2, l, d, b, cc, o⟩ = chkG ⟨2, l, d, b, cc, o⟩ by unfold chkP; simp] at hck
  have hcb := gcheck_any ⟨2, l, d, b, cc, o⟩
  have hkn := known_yes
  have hsm := same_yes
  generalize doG ⟨2, l, d, b, cc, o⟩ ⟨at_, level, held, L⟩ ⟨ak, anow, acost⟩ = R at *
  generalize chkG ⟨2, l, d, b, cc, o⟩ = C at *
  obtain ⟨⟨rat, rlv, rhd, rL⟩, rok⟩ := R
  unfold Ac.v St.v Pol.v at *
  dsimp only at *
  have HDO := Go.Lib.hid hdo
  have HDB := Go.Lib.hid hdb
  have HCK := Go.Lib.hid hck
  have HCB := Go.Lib.hid hcb
  have HKN := Go.Lib.hid hkn
  have HSM := Go.Lib.hid hsm
  have HL := Go.Lib.hid hl
  clear hdo hdb hck hcb hkn hsm hl
  go_enter Try.func4, Try.ntmps4
  go_wp2_with go_step3
  refine (HDO.out _ (log_bl HL.out (bl_alloc (bl_alloc (bl_alloc (bl_refl _) _) _) _))).mono ?_
  rintro e w1 ⟨a1, n1, c1, rfl, hl1, -, hb⟩
  have hx : Below w.heap.size w w1 := bl_then (bl_alloc (bl_alloc (bl_alloc (bl_refl _) _) _) _) hb
  have hsz1 : w.heap.size + 3 ≤ w1.heap.size := by have h := hb.size; (try simp at h); omega
  have p0 := bl_cell (v := .int .i64 2) hb (show World.cell? _ ⟨w.heap.size, 0, none⟩ = _ by go_simp)
  have p1 := bl_cell (v := .int .i64 l) hb (show World.cell? _ ⟨w.heap.size, 1, none⟩ = _ by go_simp)
  have p2 := bl_cell (v := .int .i64 d) hb (show World.cell? _ ⟨w.heap.size, 2, none⟩ = _ by go_simp)
  have p3 := bl_cell (v := .int .i64 b) hb (show World.cell? _ ⟨w.heap.size, 3, none⟩ = _ by go_simp)
  have p4 := bl_cell (v := .int .i64 cc) hb (show World.cell? _ ⟨w.heap.size, 4, none⟩ = _ by go_simp)
  have p5 := bl_cell (v := .bool o) hb (show World.cell? _ ⟨w.heap.size, 5, none⟩ = _ by go_simp)
  have s0 := bl_cell (v := .int .i64 at_) hb (show World.cell? _ ⟨w.heap.size + 1, 0, none⟩ = _ by go_simp)
  have s1 := bl_cell (v := .int .i64 level) hb (show World.cell? _ ⟨w.heap.size + 1, 1, none⟩ = _ by go_simp)
  have s2 := bl_cell (v := .int .i64 held) hb (show World.cell? _ ⟨w.heap.size + 1, 2, none⟩ = _ by go_simp)
  have s3 := bl_cell (v := .slice a n c) hb (show World.cell? _ ⟨w.heap.size + 1, 3, none⟩ = _ by go_simp)
  have x0 := bl_cell (v := .int .i64 ak) hb (show World.cell? _ ⟨w.heap.size + 1 + 1, 0, none⟩ = _ by go_simp)
  have x1 := bl_cell (v := .int .i64 anow) hb (show World.cell? _ ⟨w.heap.size + 1 + 1, 1, none⟩ = _ by go_simp)
  have x2 := bl_cell (v := .int .i64 acost) hb (show World.cell? _ ⟨w.heap.size + 1 + 1, 2, none⟩ = _ by go_simp)
  have hB : Below w.heap.size w w1 := hx
  have lb_p := World.block_lt_of_cell? w1 _ p0
  dsimp only at lb_p
  have lb_s := World.block_lt_of_cell? w1 _ s0
  dsimp only at lb_s
  have lb_x := World.block_lt_of_cell? w1 _ x0
  dsimp only at lb_x
  clear hb hx
  have lt1 := log_lt hl1
  unfold St.v
  dsimp only
  go_wp2_with go_step3
  refine (HDB.out _ (log_bl HL.out (bl_alloc (bl_alloc (hB) _) _))).mono ?_
  rintro e w2 ⟨a2, n2, c2, rfl, hl2, hs2, hb⟩
  have hx : Below w1.heap.size w1 w2 := bl_then (bl_alloc (bl_alloc (bl_refl _) _) _) hb
  have hsz2 : w1.heap.size + 2 ≤ w2.heap.size := by have h := hb.size; (try simp at h); omega
  replace p0 := bl_cell hx p0
  replace p1 := bl_cell hx p1
  replace p2 := bl_cell hx p2
  replace p3 := bl_cell hx p3
  replace p4 := bl_cell hx p4
  replace p5 := bl_cell hx p5
  replace s0 := bl_cell hx s0
  replace s1 := bl_cell hx s1
  replace s2 := bl_cell hx s2
  replace s3 := bl_cell hx s3
  replace x0 := bl_cell hx x0
  replace x1 := bl_cell hx x1
  replace x2 := bl_cell hx x2
  replace hl1 := log_bl hl1 hx
  have t0 := bl_cell (v := .int .i64 rat) hb (show World.cell? _ ⟨w1.heap.size, 0, none⟩ = _ by go_simp)
  have t1 := bl_cell (v := .int .i64 rlv) hb (show World.cell? _ ⟨w1.heap.size, 1, none⟩ = _ by go_simp)
  have t2 := bl_cell (v := .int .i64 rhd) hb (show World.cell? _ ⟨w1.heap.size, 2, none⟩ = _ by go_simp)
  have t3 := bl_cell (v := .slice a1 n1 c1) hb (show World.cell? _ ⟨w1.heap.size, 3, none⟩ = _ by go_simp)
  have u0 := bl_cell (v := .int .i64 at_) hb (show World.cell? _ ⟨w1.heap.size + 1, 0, none⟩ = _ by go_simp)
  have u1 := bl_cell (v := .int .i64 level) hb (show World.cell? _ ⟨w1.heap.size + 1, 1, none⟩ = _ by go_simp)
  have u2 := bl_cell (v := .int .i64 held) hb (show World.cell? _ ⟨w1.heap.size + 1, 2, none⟩ = _ by go_simp)
  have u3 := bl_cell (v := .slice a n c) hb (show World.cell? _ ⟨w1.heap.size + 1, 3, none⟩ = _ by go_simp)
  have uR := res_bl (b := w1.heap.size + 1) (res_new _ _ _ _ _ _ (by simp)) hb
  replace hB : Below w.heap.size w w2 := bl_then hB hx
  replace lb_p := World.block_lt_of_cell? w2 _ p0
  dsimp only at lb_p
  replace lb_s := World.block_lt_of_cell? w2 _ s0
  dsimp only at lb_s
  replace lb_x := World.block_lt_of_cell? w2 _ x0
  dsimp only at lb_x
  have lb_t := World.block_lt_of_cell? w2 _ t0
  dsimp only at lb_t
  have lb_u := World.block_lt_of_cell? w2 _ u0
  dsimp only at lb_u
  clear hb hx
  unfold St.v
  dsimp only
  have hne2 : ∀ ad, a2 = some ad → n2 ≠ 0 → ad.block ≠ w1.heap.size + 1 := src_ne HL.out hs2 (by omega) (by simp)
  have hnn : n2 = n1 := hl2.1.symm.trans hl1.1
  subst hnn
  obtain ⟨fr0, fr1, fr2, fr3, -⟩ := res_all uR
  go_wp2_with go_step3
  obtain ⟨z0, z1, z2, z3⟩ := set4r (v0 := .int .i64 rat) (v1 := .int .i64 rlv) (v2 := .int .i64 rhd) (v3 := .slice a2 n2 c2) uR
  replace p0 := far4 (b := w1.heap.size + 1) (v0 := .int .i64 rat) (v1 := .int .i64 rlv) (v2 := .int .i64 rhd) (v3 := .slice a2 n2 c2) p0 (by dsimp only; omega)
  replace p1 := far4 (b := w1.heap.size + 1) (v0 := .int .i64 rat) (v1 := .int .i64 rlv) (v2 := .int .i64 rhd) (v3 := .slice a2 n2 c2) p1 (by dsimp only; omega)
  replace p2 := far4 (b := w1.heap.size + 1) (v0 := .int .i64 rat) (v1 := .int .i64 rlv) (v2 := .int .i64 rhd) (v3 := .slice a2 n2 c2) p2 (by dsimp only; omega)
  replace p3 := far4 (b := w1.heap.size + 1) (v0 := .int .i64 rat) (v1 := .int .i64 rlv) (v2 := .int .i64 rhd) (v3 := .slice a2 n2 c2) p3 (by dsimp only; omega)
  replace p4 := far4 (b := w1.heap.size + 1) (v0 := .int .i64 rat) (v1 := .int .i64 rlv) (v2 := .int .i64 rhd) (v3 := .slice a2 n2 c2) p4 (by dsimp only; omega)
  replace p5 := far4 (b := w1.heap.size + 1) (v0 := .int .i64 rat) (v1 := .int .i64 rlv) (v2 := .int .i64 rhd) (v3 := .slice a2 n2 c2) p5 (by dsimp only; omega)
  replace s0 := far4 (b := w1.heap.size + 1) (v0 := .int .i64 rat) (v1 := .int .i64 rlv) (v2 := .int .i64 rhd) (v3 := .slice a2 n2 c2) s0 (by dsimp only; omega)
  replace s1 := far4 (b := w1.heap.size + 1) (v0 := .int .i64 rat) (v1 := .int .i64 rlv) (v2 := .int .i64 rhd) (v3 := .slice a2 n2 c2) s1 (by dsimp only; omega)
  replace s2 := far4 (b := w1.heap.size + 1) (v0 := .int .i64 rat) (v1 := .int .i64 rlv) (v2 := .int .i64 rhd) (v3 := .slice a2 n2 c2) s2 (by dsimp only; omega)
  replace s3 := far4 (b := w1.heap.size + 1) (v0 := .int .i64 rat) (v1 := .int .i64 rlv) (v2 := .int .i64 rhd) (v3 := .slice a2 n2 c2) s3 (by dsimp only; omega)
  replace x0 := far4 (b := w1.heap.size + 1) (v0 := .int .i64 rat) (v1 := .int .i64 rlv) (v2 := .int .i64 rhd) (v3 := .slice a2 n2 c2) x0 (by dsimp only; omega)
  replace x1 := far4 (b := w1.heap.size + 1) (v0 := .int .i64 rat) (v1 := .int .i64 rlv) (v2 := .int .i64 rhd) (v3 := .slice a2 n2 c2) x1 (by dsimp only; omega)
  replace x2 := far4 (b := w1.heap.size + 1) (v0 := .int .i64 rat) (v1 := .int .i64 rlv) (v2 := .int .i64 rhd) (v3 := .slice a2 n2 c2) x2 (by dsimp only; omega)
  replace hl1 := log_set4 (b := w1.heap.size + 1) (v0 := .int .i64 rat) (v1 := .int .i64 rlv) (v2 := .int .i64 rhd) (v3 := .slice a2 n2 c2) hl1 (fun ad e hn => by have := lt1 ad e hn; omega)
  replace t0 := far4 (b := w1.heap.size + 1) (v0 := .int .i64 rat) (v1 := .int .i64 rlv) (v2 := .int .i64 rhd) (v3 := .slice a2 n2 c2) t0 (by dsimp only; omega)
  replace t1 := far4 (b := w1.heap.size + 1) (v0 := .int .i64 rat) (v1 := .int .i64 rlv) (v2 := .int .i64 rhd) (v3 := .slice a2 n2 c2) t1 (by dsimp only; omega)
  replace t2 := far4 (b := w1.heap.size + 1) (v0 := .int .i64 rat) (v1 := .int .i64 rlv) (v2 := .int .i64 rhd) (v3 := .slice a2 n2 c2) t2 (by dsimp only; omega)
  replace t3 := far4 (b := w1.heap.size + 1) (v0 := .int .i64 rat) (v1 := .int .i64 rlv) (v2 := .int .i64 rhd) (v3 := .slice a2 n2 c2) t3 (by dsimp only; omega)
  replace u0 := z0
  replace u1 := z1
  replace u2 := z2
  replace u3 := z3
  replace uR := res4 (b := w1.heap.size + 1) (v0 := .int .i64 rat) (v1 := .int .i64 rlv) (v2 := .int .i64 rhd) (v3 := .slice a2 n2 c2) uR
  replace hl2 := log_set4 (b := w1.heap.size + 1) (v0 := .int .i64 rat) (v1 := .int .i64 rlv) (v2 := .int .i64 rhd) (v3 := .slice a2 n2 c2) hl2 hne2
  replace hB := bl4 (b := w1.heap.size + 1) (v0 := .int .i64 rat) (v1 := .int .i64 rlv) (v2 := .int .i64 rhd) (v3 := .slice a2 n2 c2) hB (by omega)
  clear z0 z1 z2 z3 fr0 fr1 fr2 fr3
  refine (HCB.out _).mono ?_
  rintro e w3 ⟨rfl, hb⟩
  have hsz3 : w2.heap.size + 0 ≤ w3.heap.size := by have h := hb.size; (try simp at h); omega
  replace p0 := bl_cell hb p0
  replace p1 := bl_cell hb p1
  replace p2 := bl_cell hb p2
  replace p3 := bl_cell hb p3
  replace p4 := bl_cell hb p4
  replace p5 := bl_cell hb p5
  replace s0 := bl_cell hb s0
  replace s1 := bl_cell hb s1
  replace s2 := bl_cell hb s2
  replace s3 := bl_cell hb s3
  replace x0 := bl_cell hb x0
  replace x1 := bl_cell hb x1
  replace x2 := bl_cell hb x2
  replace hl1 := log_bl hl1 hb
  replace t0 := bl_cell hb t0
  replace t1 := bl_cell hb t1
  replace t2 := bl_cell hb t2
  replace t3 := bl_cell hb t3
  replace u0 := bl_cell hb u0
  replace u1 := bl_cell hb u1
  replace u2 := bl_cell hb u2
  replace u3 := bl_cell hb u3
  replace uR := res_bl uR hb
  replace hl2 := log_bl hl2 hb
  replace hB : Below w.heap.size w w3 := bl_then hB hb
  replace lb_p := World.block_lt_of_cell? w3 _ p0
  dsimp only at lb_p
  replace lb_s := World.block_lt_of_cell? w3 _ s0
  dsimp only at lb_s
  replace lb_x := World.block_lt_of_cell? w3 _ x0
  dsimp only at lb_x
  replace lb_t := World.block_lt_of_cell? w3 _ t0
  dsimp only at lb_t
  replace lb_u := World.block_lt_of_cell? w3 _ u0
  dsimp only at lb_u
  clear hb
  go_wp2_with go_step3
  refine (HSM.out ⟨rat, rlv, rhd, rL⟩ a1 a2 n2 c1 c2 _ hl1 hl2).mono ?_
  rintro e w4 ⟨rfl, hb⟩
  have hsz4 : w3.heap.size + 0 ≤ w4.heap.size := by have h := hb.size; (try simp at h); omega
  replace p0 := bl_cell hb p0
  replace p1 := bl_cell hb p1
  replace p2 := bl_cell hb p2
  replace p3 := bl_cell hb p3
  replace p4 := bl_cell hb p4
  replace p5 := bl_cell hb p5
  replace s0 := bl_cell hb s0
  replace s1 := bl_cell hb s1
  replace s2 := bl_cell hb s2
  replace s3 := bl_cell hb s3
  replace x0 := bl_cell hb x0
  replace x1 := bl_cell hb x1
  replace x2 := bl_cell hb x2
  replace hl1 := log_bl hl1 hb
  replace t0 := bl_cell hb t0
  replace t1 := bl_cell hb t1
  replace t2 := bl_cell hb t2
  replace t3 := bl_cell hb t3
  replace u0 := bl_cell hb u0
  replace u1 := bl_cell hb u1
  replace u2 := bl_cell hb u2
  replace u3 := bl_cell hb u3
  replace uR := res_bl uR hb
  replace hl2 := log_bl hl2 hb
  replace hB : Below w.heap.size w w4 := bl_then hB hb
  replace lb_p := World.block_lt_of_cell? w4 _ p0
  dsimp only at lb_p
  replace lb_s := World.block_lt_of_cell? w4 _ s0
  dsimp only at lb_s
  replace lb_x := World.block_lt_of_cell? w4 _ x0
  dsimp only at lb_x
  replace lb_t := World.block_lt_of_cell? w4 _ t0
  dsimp only at lb_t
  replace lb_u := World.block_lt_of_cell? w4 _ u0
  dsimp only at lb_u
  clear hb
  go_wp2_with go_step3
  refine (HCK.out _).mono ?_
  rintro e w5 ⟨rfl, hb⟩
  have hsz5 : w4.heap.size + 0 ≤ w5.heap.size := by have h := hb.size; (try simp at h); omega
  replace p0 := bl_cell hb p0
  replace p1 := bl_cell hb p1
  replace p2 := bl_cell hb p2
  replace p3 := bl_cell hb p3
  replace p4 := bl_cell hb p4
  replace p5 := bl_cell hb p5
  replace s0 := bl_cell hb s0
  replace s1 := bl_cell hb s1
  replace s2 := bl_cell hb s2
  replace s3 := bl_cell hb s3
  replace x0 := bl_cell hb x0
  replace x1 := bl_cell hb x1
  replace x2 := bl_cell hb x2
  replace hl1 := log_bl hl1 hb
  replace t0 := bl_cell hb t0
  replace t1 := bl_cell hb t1
  replace t2 := bl_cell hb t2
  replace t3 := bl_cell hb t3
  replace u0 := bl_cell hb u0
  replace u1 := bl_cell hb u1
  replace u2 := bl_cell hb u2
  replace u3 := bl_cell hb u3
  replace uR := res_bl uR hb
  replace hl2 := log_bl hl2 hb
  replace hB : Below w.heap.size w w5 := bl_then hB hb
  replace lb_p := World.block_lt_of_cell? w5 _ p0
  dsimp only at lb_p
  replace lb_s := World.block_lt_of_cell? w5 _ s0
  dsimp only at lb_s
  replace lb_x := World.block_lt_of_cell? w5 _ x0
  dsimp only at lb_x
  replace lb_t := World.block_lt_of_cell? w5 _ t0
  dsimp only at lb_t
  replace lb_u := World.block_lt_of_cell? w5 _ u0
  dsimp only at lb_u
  clear hb
  go_wp2_with go_step3
  refine (HKN.out _).mono ?_
  rintro e w6 ⟨rfl, hb⟩
  have hsz6 : w5.heap.size + 0 ≤ w6.heap.size := by have h := hb.size; (try simp at h); omega
  replace p0 := bl_cell hb p0
  replace p1 := bl_cell hb p1
  replace p2 := bl_cell hb p2
  replace p3 := bl_cell hb p3
  replace p4 := bl_cell hb p4
  replace p5 := bl_cell hb p5
  replace s0 := bl_cell hb s0
  replace s1 := bl_cell hb s1
  replace s2 := bl_cell hb s2
  replace s3 := bl_cell hb s3
  replace x0 := bl_cell hb x0
  replace x1 := bl_cell hb x1
  replace x2 := bl_cell hb x2
  replace hl1 := log_bl hl1 hb
  replace t0 := bl_cell hb t0
  replace t1 := bl_cell hb t1
  replace t2 := bl_cell hb t2
  replace t3 := bl_cell hb t3
  replace u0 := bl_cell hb u0
  replace u1 := bl_cell hb u1
  replace u2 := bl_cell hb u2
  replace u3 := bl_cell hb u3
  replace uR := res_bl uR hb
  replace hl2 := log_bl hl2 hb
  replace hB : Below w.heap.size w w6 := bl_then hB hb
  replace lb_p := World.block_lt_of_cell? w6 _ p0
  dsimp only at lb_p
  replace lb_s := World.block_lt_of_cell? w6 _ s0
  dsimp only at lb_s
  replace lb_x := World.block_lt_of_cell? w6 _ x0
  dsimp only at lb_x
  replace lb_t := World.block_lt_of_cell? w6 _ t0
  dsimp only at lb_t
  replace lb_u := World.block_lt_of_cell? w6 _ u0
  dsimp only at lb_u
  clear hb
  go_wp2_with go_step3
  go_ret
  exact ⟨rfl, hB⟩

set_option maxHeartbeats 4000000 in
set_option maxRecDepth 100000 in
theorem each_window (l d b cc : Int) (o : Bool) (at_ level held : Int) (L : List (Int × Int)) (a : Option Addr) (n c : Nat) (ak anow acost : Int) (w : World) (hl : LogAt w a n c L) (hn : ¬ (100 : Int) < n) :
    Calls Try.prog 4 #[Pol.v ⟨3, l, d, b, cc, o⟩, St.v ⟨at_, level, held, L⟩ a n c, Ac.v ⟨ak, anow, acost⟩] w fun e w' => e = .returned (.bool true) ∧ Below w.heap.size w w' := by
  have hdo := fun w hw => ldo_any ⟨3, l, d, b, cc, o⟩ ⟨at_, level, held, L⟩ a n c ⟨ak, anow, acost⟩ w hw
  rw [show doP ⟨3, l, d, b, cc, o⟩ ⟨at_, level, held, L⟩ ⟨ak, anow, acost⟩ = doL ⟨3, l, d, b, cc, o⟩ ⟨at_, level, held, L⟩ ⟨ak, anow, acost⟩ by unfold doP; simp] at hdo
  have hdb := fun w hw => wdo_all ⟨3, l, d, b, cc, o⟩ ⟨at_, level, held, L⟩ a n c ⟨ak, anow, acost⟩ w hw
  have hck := lcheck_any ⟨3, l, d, b, cc, o⟩
  rw [show chkP ⟨3, l, d, b, cc, o⟩ = chkL ⟨3, l, d, b, cc, o⟩ by unfold chkP; simp] at hck
  have hcb := wcheck_any ⟨3, l, d, b, cc, o⟩
  have hkn := known_yes
  have hsm := same_yes
  generalize doL ⟨3, l, d, b, cc, o⟩ ⟨at_, level, held, L⟩ ⟨ak, anow, acost⟩ = R at *
  generalize chkL ⟨3, l, d, b, cc, o⟩ = C at *
  obtain ⟨⟨rat, rlv, rhd, rL⟩, rok⟩ := R
  unfold Ac.v St.v Pol.v at *
  dsimp only at *
  have HDO := Go.Lib.hid hdo
  have HDB := Go.Lib.hid hdb
  have HCK := Go.Lib.hid hck
  have HCB := Go.Lib.hid hcb
  have HKN := Go.Lib.hid hkn
  have HSM := Go.Lib.hid hsm
  have HL := Go.Lib.hid hl
  clear hdo hdb hck hcb hkn hsm hl
  go_enter Try.func4, Try.ntmps4
  go_wp2_with go_step3
  refine (HDO.out _ (log_bl HL.out (bl_alloc (bl_alloc (bl_alloc (bl_refl _) _) _) _))).mono ?_
  rintro e w1 ⟨a1, n1, c1, rfl, hl1, -, hb⟩
  have hx : Below w.heap.size w w1 := bl_then (bl_alloc (bl_alloc (bl_alloc (bl_refl _) _) _) _) hb
  have hsz1 : w.heap.size + 3 ≤ w1.heap.size := by have h := hb.size; (try simp at h); omega
  have p0 := bl_cell (v := .int .i64 3) hb (show World.cell? _ ⟨w.heap.size, 0, none⟩ = _ by go_simp)
  have p1 := bl_cell (v := .int .i64 l) hb (show World.cell? _ ⟨w.heap.size, 1, none⟩ = _ by go_simp)
  have p2 := bl_cell (v := .int .i64 d) hb (show World.cell? _ ⟨w.heap.size, 2, none⟩ = _ by go_simp)
  have p3 := bl_cell (v := .int .i64 b) hb (show World.cell? _ ⟨w.heap.size, 3, none⟩ = _ by go_simp)
  have p4 := bl_cell (v := .int .i64 cc) hb (show World.cell? _ ⟨w.heap.size, 4, none⟩ = _ by go_simp)
  have p5 := bl_cell (v := .bool o) hb (show World.cell? _ ⟨w.heap.size, 5, none⟩ = _ by go_simp)
  have s0 := bl_cell (v := .int .i64 at_) hb (show World.cell? _ ⟨w.heap.size + 1, 0, none⟩ = _ by go_simp)
  have s1 := bl_cell (v := .int .i64 level) hb (show World.cell? _ ⟨w.heap.size + 1, 1, none⟩ = _ by go_simp)
  have s2 := bl_cell (v := .int .i64 held) hb (show World.cell? _ ⟨w.heap.size + 1, 2, none⟩ = _ by go_simp)
  have s3 := bl_cell (v := .slice a n c) hb (show World.cell? _ ⟨w.heap.size + 1, 3, none⟩ = _ by go_simp)
  have x0 := bl_cell (v := .int .i64 ak) hb (show World.cell? _ ⟨w.heap.size + 1 + 1, 0, none⟩ = _ by go_simp)
  have x1 := bl_cell (v := .int .i64 anow) hb (show World.cell? _ ⟨w.heap.size + 1 + 1, 1, none⟩ = _ by go_simp)
  have x2 := bl_cell (v := .int .i64 acost) hb (show World.cell? _ ⟨w.heap.size + 1 + 1, 2, none⟩ = _ by go_simp)
  have hB : Below w.heap.size w w1 := hx
  have lb_p := World.block_lt_of_cell? w1 _ p0
  dsimp only at lb_p
  have lb_s := World.block_lt_of_cell? w1 _ s0
  dsimp only at lb_s
  have lb_x := World.block_lt_of_cell? w1 _ x0
  dsimp only at lb_x
  clear hb hx
  have lt1 := log_lt hl1
  unfold St.v
  dsimp only
  go_wp2_with go_step3
  refine (HDB.out _ (log_bl HL.out (bl_alloc (bl_alloc (hB) _) _))).mono ?_
  rintro e w2 ⟨a2, n2, c2, rfl, hl2, hs2, hb⟩
  have hx : Below w1.heap.size w1 w2 := bl_then (bl_alloc (bl_alloc (bl_refl _) _) _) hb
  have hsz2 : w1.heap.size + 2 ≤ w2.heap.size := by have h := hb.size; (try simp at h); omega
  replace p0 := bl_cell hx p0
  replace p1 := bl_cell hx p1
  replace p2 := bl_cell hx p2
  replace p3 := bl_cell hx p3
  replace p4 := bl_cell hx p4
  replace p5 := bl_cell hx p5
  replace s0 := bl_cell hx s0
  replace s1 := bl_cell hx s1
  replace s2 := bl_cell hx s2
  replace s3 := bl_cell hx s3
  replace x0 := bl_cell hx x0
  replace x1 := bl_cell hx x1
  replace x2 := bl_cell hx x2
  replace hl1 := log_bl hl1 hx
  have t0 := bl_cell (v := .int .i64 rat) hb (show World.cell? _ ⟨w1.heap.size, 0, none⟩ = _ by go_simp)
  have t1 := bl_cell (v := .int .i64 rlv) hb (show World.cell? _ ⟨w1.heap.size, 1, none⟩ = _ by go_simp)
  have t2 := bl_cell (v := .int .i64 rhd) hb (show World.cell? _ ⟨w1.heap.size, 2, none⟩ = _ by go_simp)
  have t3 := bl_cell (v := .slice a1 n1 c1) hb (show World.cell? _ ⟨w1.heap.size, 3, none⟩ = _ by go_simp)
  have u0 := bl_cell (v := .int .i64 at_) hb (show World.cell? _ ⟨w1.heap.size + 1, 0, none⟩ = _ by go_simp)
  have u1 := bl_cell (v := .int .i64 level) hb (show World.cell? _ ⟨w1.heap.size + 1, 1, none⟩ = _ by go_simp)
  have u2 := bl_cell (v := .int .i64 held) hb (show World.cell? _ ⟨w1.heap.size + 1, 2, none⟩ = _ by go_simp)
  have u3 := bl_cell (v := .slice a n c) hb (show World.cell? _ ⟨w1.heap.size + 1, 3, none⟩ = _ by go_simp)
  have uR := res_bl (b := w1.heap.size + 1) (res_new _ _ _ _ _ _ (by simp)) hb
  replace hB : Below w.heap.size w w2 := bl_then hB hx
  replace lb_p := World.block_lt_of_cell? w2 _ p0
  dsimp only at lb_p
  replace lb_s := World.block_lt_of_cell? w2 _ s0
  dsimp only at lb_s
  replace lb_x := World.block_lt_of_cell? w2 _ x0
  dsimp only at lb_x
  have lb_t := World.block_lt_of_cell? w2 _ t0
  dsimp only at lb_t
  have lb_u := World.block_lt_of_cell? w2 _ u0
  dsimp only at lb_u
  clear hb hx
  unfold St.v
  dsimp only
  have hne2 : ∀ ad, a2 = some ad → n2 ≠ 0 → ad.block ≠ w1.heap.size + 1 := src_ne HL.out hs2 (by omega) (by simp)
  have hnn : n2 = n1 := hl2.1.symm.trans hl1.1
  subst hnn
  obtain ⟨fr0, fr1, fr2, fr3, -⟩ := res_all uR
  go_wp2_with go_step3
  obtain ⟨z0, z1, z2, z3⟩ := set4r (v0 := .int .i64 rat) (v1 := .int .i64 rlv) (v2 := .int .i64 rhd) (v3 := .slice a2 n2 c2) uR
  replace p0 := far4 (b := w1.heap.size + 1) (v0 := .int .i64 rat) (v1 := .int .i64 rlv) (v2 := .int .i64 rhd) (v3 := .slice a2 n2 c2) p0 (by dsimp only; omega)
  replace p1 := far4 (b := w1.heap.size + 1) (v0 := .int .i64 rat) (v1 := .int .i64 rlv) (v2 := .int .i64 rhd) (v3 := .slice a2 n2 c2) p1 (by dsimp only; omega)
  replace p2 := far4 (b := w1.heap.size + 1) (v0 := .int .i64 rat) (v1 := .int .i64 rlv) (v2 := .int .i64 rhd) (v3 := .slice a2 n2 c2) p2 (by dsimp only; omega)
  replace p3 := far4 (b := w1.heap.size + 1) (v0 := .int .i64 rat) (v1 := .int .i64 rlv) (v2 := .int .i64 rhd) (v3 := .slice a2 n2 c2) p3 (by dsimp only; omega)
  replace p4 := far4 (b := w1.heap.size + 1) (v0 := .int .i64 rat) (v1 := .int .i64 rlv) (v2 := .int .i64 rhd) (v3 := .slice a2 n2 c2) p4 (by dsimp only; omega)
  replace p5 := far4 (b := w1.heap.size + 1) (v0 := .int .i64 rat) (v1 := .int .i64 rlv) (v2 := .int .i64 rhd) (v3 := .slice a2 n2 c2) p5 (by dsimp only; omega)
  replace s0 := far4 (b := w1.heap.size + 1) (v0 := .int .i64 rat) (v1 := .int .i64 rlv) (v2 := .int .i64 rhd) (v3 := .slice a2 n2 c2) s0 (by dsimp only; omega)
  replace s1 := far4 (b := w1.heap.size + 1) (v0 := .int .i64 rat) (v1 := .int .i64 rlv) (v2 := .int .i64 rhd) (v3 := .slice a2 n2 c2) s1 (by dsimp only; omega)
  replace s2 := far4 (b := w1.heap.size + 1) (v0 := .int .i64 rat) (v1 := .int .i64 rlv) (v2 := .int .i64 rhd) (v3 := .slice a2 n2 c2) s2 (by dsimp only; omega)
  replace s3 := far4 (b := w1.heap.size + 1) (v0 := .int .i64 rat) (v1 := .int .i64 rlv) (v2 := .int .i64 rhd) (v3 := .slice a2 n2 c2) s3 (by dsimp only; omega)
  replace x0 := far4 (b := w1.heap.size + 1) (v0 := .int .i64 rat) (v1 := .int .i64 rlv) (v2 := .int .i64 rhd) (v3 := .slice a2 n2 c2) x0 (by dsimp only; omega)
  replace x1 := far4 (b := w1.heap.size + 1) (v0 := .int .i64 rat) (v1 := .int .i64 rlv) (v2 := .int .i64 rhd) (v3 := .slice a2 n2 c2) x1 (by dsimp only; omega)
  replace x2 := far4 (b := w1.heap.size + 1) (v0 := .int .i64 rat) (v1 := .int .i64 rlv) (v2 := .int .i64 rhd) (v3 := .slice a2 n2 c2) x2 (by dsimp only; omega)
  replace hl1 := log_set4 (b := w1.heap.size + 1) (v0 := .int .i64 rat) (v1 := .int .i64 rlv) (v2 := .int .i64 rhd) (v3 := .slice a2 n2 c2) hl1 (fun ad e hn => by have := lt1 ad e hn; omega)
  replace t0 := far4 (b := w1.heap.size + 1) (v0 := .int .i64 rat) (v1 := .int .i64 rlv) (v2 := .int .i64 rhd) (v3 := .slice a2 n2 c2) t0 (by dsimp only; omega)
  replace t1 := far4 (b := w1.heap.size + 1) (v0 := .int .i64 rat) (v1 := .int .i64 rlv) (v2 := .int .i64 rhd) (v3 := .slice a2 n2 c2) t1 (by dsimp only; omega)
  replace t2 := far4 (b := w1.heap.size + 1) (v0 := .int .i64 rat) (v1 := .int .i64 rlv) (v2 := .int .i64 rhd) (v3 := .slice a2 n2 c2) t2 (by dsimp only; omega)
  replace t3 := far4 (b := w1.heap.size + 1) (v0 := .int .i64 rat) (v1 := .int .i64 rlv) (v2 := .int .i64 rhd) (v3 := .slice a2 n2 c2) t3 (by dsimp only; omega)
  replace u0 := z0
  replace u1 := z1
  replace u2 := z2
  replace u3 := z3
  replace uR := res4 (b := w1.heap.size + 1) (v0 := .int .i64 rat) (v1 := .int .i64 rlv) (v2 := .int .i64 rhd) (v3 := .slice a2 n2 c2) uR
  replace hl2 := log_set4 (b := w1.heap.size + 1) (v0 := .int .i64 rat) (v1 := .int .i64 rlv) (v2 := .int .i64 rhd) (v3 := .slice a2 n2 c2) hl2 hne2
  replace hB := bl4 (b := w1.heap.size + 1) (v0 := .int .i64 rat) (v1 := .int .i64 rlv) (v2 := .int .i64 rhd) (v3 := .slice a2 n2 c2) hB (by omega)
  clear z0 z1 z2 z3 fr0 fr1 fr2 fr3
  refine (HCB.out _).mono ?_
  rintro e w3 ⟨rfl, hb⟩
  have hsz3 : w2.heap.size + 0 ≤ w3.heap.size := by have h := hb.size; (try simp at h); omega
  replace p0 := bl_cell hb p0
  replace p1 := bl_cell hb p1
  replace p2 := bl_cell hb p2
  replace p3 := bl_cell hb p3
  replace p4 := bl_cell hb p4
  replace p5 := bl_cell hb p5
  replace s0 := bl_cell hb s0
  replace s1 := bl_cell hb s1
  replace s2 := bl_cell hb s2
  replace s3 := bl_cell hb s3
  replace x0 := bl_cell hb x0
  replace x1 := bl_cell hb x1
  replace x2 := bl_cell hb x2
  replace hl1 := log_bl hl1 hb
  replace t0 := bl_cell hb t0
  replace t1 := bl_cell hb t1
  replace t2 := bl_cell hb t2
  replace t3 := bl_cell hb t3
  replace u0 := bl_cell hb u0
  replace u1 := bl_cell hb u1
  replace u2 := bl_cell hb u2
  replace u3 := bl_cell hb u3
  replace uR := res_bl uR hb
  replace hl2 := log_bl hl2 hb
  replace hB : Below w.heap.size w w3 := bl_then hB hb
  replace lb_p := World.block_lt_of_cell? w3 _ p0
  dsimp only at lb_p
  replace lb_s := World.block_lt_of_cell? w3 _ s0
  dsimp only at lb_s
  replace lb_x := World.block_lt_of_cell? w3 _ x0
  dsimp only at lb_x
  replace lb_t := World.block_lt_of_cell? w3 _ t0
  dsimp only at lb_t
  replace lb_u := World.block_lt_of_cell? w3 _ u0
  dsimp only at lb_u
  clear hb
  go_wp2_with go_step3
  refine (HSM.out ⟨rat, rlv, rhd, rL⟩ a1 a2 n2 c1 c2 _ hl1 hl2).mono ?_
  rintro e w4 ⟨rfl, hb⟩
  have hsz4 : w3.heap.size + 0 ≤ w4.heap.size := by have h := hb.size; (try simp at h); omega
  replace p0 := bl_cell hb p0
  replace p1 := bl_cell hb p1
  replace p2 := bl_cell hb p2
  replace p3 := bl_cell hb p3
  replace p4 := bl_cell hb p4
  replace p5 := bl_cell hb p5
  replace s0 := bl_cell hb s0
  replace s1 := bl_cell hb s1
  replace s2 := bl_cell hb s2
  replace s3 := bl_cell hb s3
  replace x0 := bl_cell hb x0
  replace x1 := bl_cell hb x1
  replace x2 := bl_cell hb x2
  replace hl1 := log_bl hl1 hb
  replace t0 := bl_cell hb t0
  replace t1 := bl_cell hb t1
  replace t2 := bl_cell hb t2
  replace t3 := bl_cell hb t3
  replace u0 := bl_cell hb u0
  replace u1 := bl_cell hb u1
  replace u2 := bl_cell hb u2
  replace u3 := bl_cell hb u3
  replace uR := res_bl uR hb
  replace hl2 := log_bl hl2 hb
  replace hB : Below w.heap.size w w4 := bl_then hB hb
  replace lb_p := World.block_lt_of_cell? w4 _ p0
  dsimp only at lb_p
  replace lb_s := World.block_lt_of_cell? w4 _ s0
  dsimp only at lb_s
  replace lb_x := World.block_lt_of_cell? w4 _ x0
  dsimp only at lb_x
  replace lb_t := World.block_lt_of_cell? w4 _ t0
  dsimp only at lb_t
  replace lb_u := World.block_lt_of_cell? w4 _ u0
  dsimp only at lb_u
  clear hb
  go_wp2_with go_step3
  refine (HCK.out _).mono ?_
  rintro e w5 ⟨rfl, hb⟩
  have hsz5 : w4.heap.size + 0 ≤ w5.heap.size := by have h := hb.size; (try simp at h); omega
  replace p0 := bl_cell hb p0
  replace p1 := bl_cell hb p1
  replace p2 := bl_cell hb p2
  replace p3 := bl_cell hb p3
  replace p4 := bl_cell hb p4
  replace p5 := bl_cell hb p5
  replace s0 := bl_cell hb s0
  replace s1 := bl_cell hb s1
  replace s2 := bl_cell hb s2
  replace s3 := bl_cell hb s3
  replace x0 := bl_cell hb x0
  replace x1 := bl_cell hb x1
  replace x2 := bl_cell hb x2
  replace hl1 := log_bl hl1 hb
  replace t0 := bl_cell hb t0
  replace t1 := bl_cell hb t1
  replace t2 := bl_cell hb t2
  replace t3 := bl_cell hb t3
  replace u0 := bl_cell hb u0
  replace u1 := bl_cell hb u1
  replace u2 := bl_cell hb u2
  replace u3 := bl_cell hb u3
  replace uR := res_bl uR hb
  replace hl2 := log_bl hl2 hb
  replace hB : Below w.heap.size w w5 := bl_then hB hb
  replace lb_p := World.block_lt_of_cell? w5 _ p0
  dsimp only at lb_p
  replace lb_s := World.block_lt_of_cell? w5 _ s0
  dsimp only at lb_s
  replace lb_x := World.block_lt_of_cell? w5 _ x0
  dsimp only at lb_x
  replace lb_t := World.block_lt_of_cell? w5 _ t0
  dsimp only at lb_t
  replace lb_u := World.block_lt_of_cell? w5 _ u0
  dsimp only at lb_u
  clear hb
  go_wp2_with go_step3
  refine (HKN.out _).mono ?_
  rintro e w6 ⟨rfl, hb⟩
  have hsz6 : w5.heap.size + 0 ≤ w6.heap.size := by have h := hb.size; (try simp at h); omega
  replace p0 := bl_cell hb p0
  replace p1 := bl_cell hb p1
  replace p2 := bl_cell hb p2
  replace p3 := bl_cell hb p3
  replace p4 := bl_cell hb p4
  replace p5 := bl_cell hb p5
  replace s0 := bl_cell hb s0
  replace s1 := bl_cell hb s1
  replace s2 := bl_cell hb s2
  replace s3 := bl_cell hb s3
  replace x0 := bl_cell hb x0
  replace x1 := bl_cell hb x1
  replace x2 := bl_cell hb x2
  replace hl1 := log_bl hl1 hb
  replace t0 := bl_cell hb t0
  replace t1 := bl_cell hb t1
  replace t2 := bl_cell hb t2
  replace t3 := bl_cell hb t3
  replace u0 := bl_cell hb u0
  replace u1 := bl_cell hb u1
  replace u2 := bl_cell hb u2
  replace u3 := bl_cell hb u3
  replace uR := res_bl uR hb
  replace hl2 := log_bl hl2 hb
  replace hB : Below w.heap.size w w6 := bl_then hB hb
  replace lb_p := World.block_lt_of_cell? w6 _ p0
  dsimp only at lb_p
  replace lb_s := World.block_lt_of_cell? w6 _ s0
  dsimp only at lb_s
  replace lb_x := World.block_lt_of_cell? w6 _ x0
  dsimp only at lb_x
  replace lb_t := World.block_lt_of_cell? w6 _ t0
  dsimp only at lb_t
  replace lb_u := World.block_lt_of_cell? w6 _ u0
  dsimp only at lb_u
  clear hb
  go_wp2_with go_step3
  go_ret
  exact ⟨rfl, hB⟩

set_option maxHeartbeats 4000000 in
set_option maxRecDepth 100000 in
theorem each_counter (l d b cc : Int) (o : Bool) (at_ level held : Int) (L : List (Int × Int)) (a : Option Addr) (n c : Nat) (ak anow acost : Int) (w : World) (hl : LogAt w a n c L) (hn : ¬ (100 : Int) < n) :
    Calls Try.prog 4 #[Pol.v ⟨4, l, d, b, cc, o⟩, St.v ⟨at_, level, held, L⟩ a n c, Ac.v ⟨ak, anow, acost⟩] w fun e w' => e = .returned (.bool true) ∧ Below w.heap.size w w' := by
  have hdo := fun w hw => ldo_any ⟨4, l, d, b, cc, o⟩ ⟨at_, level, held, L⟩ a n c ⟨ak, anow, acost⟩ w hw
  rw [show doP ⟨4, l, d, b, cc, o⟩ ⟨at_, level, held, L⟩ ⟨ak, anow, acost⟩ = doC ⟨4, l, d, b, cc, o⟩ ⟨at_, level, held, L⟩ ⟨ak, anow, acost⟩ by unfold doP; simp] at hdo
  have hdb := fun w hw => cdo_all ⟨4, l, d, b, cc, o⟩ ⟨at_, level, held, L⟩ a n c ⟨ak, anow, acost⟩ w hw
  have hck := lcheck_any ⟨4, l, d, b, cc, o⟩
  rw [show chkP ⟨4, l, d, b, cc, o⟩ = chkC ⟨4, l, d, b, cc, o⟩ by unfold chkP; simp] at hck
  have hcb := ccheck_any ⟨4, l, d, b, cc, o⟩
  have hkn := known_yes
  have hsm := same_yes
  generalize doC ⟨4, l, d, b, cc, o⟩ ⟨at_, level, held, L⟩ ⟨ak, anow, acost⟩ = R at *
  generalize chkC ⟨4, l, d, b, cc, o⟩ = C at *
  obtain ⟨⟨rat, rlv, rhd, rL⟩, rok⟩ := R
  unfold Ac.v St.v Pol.v at *
  dsimp only at *
  have HDO := Go.Lib.hid hdo
  have HDB := Go.Lib.hid hdb
  have HCK := Go.Lib.hid hck
  have HCB := Go.Lib.hid hcb
  have HKN := Go.Lib.hid hkn
  have HSM := Go.Lib.hid hsm
  have HL := Go.Lib.hid hl
  clear hdo hdb hck hcb hkn hsm hl
  go_enter Try.func4, Try.ntmps4
  go_wp2_with go_step3
  refine (HDO.out _ (log_bl HL.out (bl_alloc (bl_alloc (bl_alloc (bl_refl _) _) _) _))).mono ?_
  rintro e w1 ⟨a1, n1, c1, rfl, hl1, -, hb⟩
  have hx : Below w.heap.size w w1 := bl_then (bl_alloc (bl_alloc (bl_alloc (bl_refl _) _) _) _) hb
  have hsz1 : w.heap.size + 3 ≤ w1.heap.size := by have h := hb.size; (try simp at h); omega
  have p0 := bl_cell (v := .int .i64 4) hb (show World.cell? _ ⟨w.heap.size, 0, none⟩ = _ by go_simp)
  have p1 := bl_cell (v := .int .i64 l) hb (show World.cell? _ ⟨w.heap.size, 1, none⟩ = _ by go_simp)
  have p2 := bl_cell (v := .int .i64 d) hb (show World.cell? _ ⟨w.heap.size, 2, none⟩ = _ by go_simp)
  have p3 := bl_cell (v := .int .i64 b) hb (show World.cell? _ ⟨w.heap.size, 3, none⟩ = _ by go_simp)
  have p4 := bl_cell (v := .int .i64 cc) hb (show World.cell? _ ⟨w.heap.size, 4, none⟩ = _ by go_simp)
  have p5 := bl_cell (v := .bool o) hb (show World.cell? _ ⟨w.heap.size, 5, none⟩ = _ by go_simp)
  have s0 := bl_cell (v := .int .i64 at_) hb (show World.cell? _ ⟨w.heap.size + 1, 0, none⟩ = _ by go_simp)
  have s1 := bl_cell (v := .int .i64 level) hb (show World.cell? _ ⟨w.heap.size + 1, 1, none⟩ = _ by go_simp)
  have s2 := bl_cell (v := .int .i64 held) hb (show World.cell? _ ⟨w.heap.size + 1, 2, none⟩ = _ by go_simp)
  have s3 := bl_cell (v := .slice a n c) hb (show World.cell? _ ⟨w.heap.size + 1, 3, none⟩ = _ by go_simp)
  have x0 := bl_cell (v := .int .i64 ak) hb (show World.cell? _ ⟨w.heap.size + 1 + 1, 0, none⟩ = _ by go_simp)
  have x1 := bl_cell (v := .int .i64 anow) hb (show World.cell? _ ⟨w.heap.size + 1 + 1, 1, none⟩ = _ by go_simp)
  have x2 := bl_cell (v := .int .i64 acost) hb (show World.cell? _ ⟨w.heap.size + 1 + 1, 2, none⟩ = _ by go_simp)
  have hB : Below w.heap.size w w1 := hx
  have lb_p := World.block_lt_of_cell? w1 _ p0
  dsimp only at lb_p
  have lb_s := World.block_lt_of_cell? w1 _ s0
  dsimp only at lb_s
  have lb_x := World.block_lt_of_cell? w1 _ x0
  dsimp only at lb_x
  clear hb hx
  have lt1 := log_lt hl1
  unfold St.v
  dsimp only
  go_wp2_with go_step3
  refine (HDB.out _ (log_bl HL.out (bl_alloc (bl_alloc (hB) _) _))).mono ?_
  rintro e w2 ⟨a2, n2, c2, rfl, hl2, hs2, hb⟩
  have hx : Below w1.heap.size w1 w2 := bl_then (bl_alloc (bl_alloc (bl_refl _) _) _) hb
  have hsz2 : w1.heap.size + 2 ≤ w2.heap.size := by have h := hb.size; (try simp at h); omega
  replace p0 := bl_cell hx p0
  replace p1 := bl_cell hx p1
  replace p2 := bl_cell hx p2
  replace p3 := bl_cell hx p3
  replace p4 := bl_cell hx p4
  replace p5 := bl_cell hx p5
  replace s0 := bl_cell hx s0
  replace s1 := bl_cell hx s1
  replace s2 := bl_cell hx s2
  replace s3 := bl_cell hx s3
  replace x0 := bl_cell hx x0
  replace x1 := bl_cell hx x1
  replace x2 := bl_cell hx x2
  replace hl1 := log_bl hl1 hx
  have t0 := bl_cell (v := .int .i64 rat) hb (show World.cell? _ ⟨w1.heap.size, 0, none⟩ = _ by go_simp)
  have t1 := bl_cell (v := .int .i64 rlv) hb (show World.cell? _ ⟨w1.heap.size, 1, none⟩ = _ by go_simp)
  have t2 := bl_cell (v := .int .i64 rhd) hb (show World.cell? _ ⟨w1.heap.size, 2, none⟩ = _ by go_simp)
  have t3 := bl_cell (v := .slice a1 n1 c1) hb (show World.cell? _ ⟨w1.heap.size, 3, none⟩ = _ by go_simp)
  have u0 := bl_cell (v := .int .i64 at_) hb (show World.cell? _ ⟨w1.heap.size + 1, 0, none⟩ = _ by go_simp)
  have u1 := bl_cell (v := .int .i64 level) hb (show World.cell? _ ⟨w1.heap.size + 1, 1, none⟩ = _ by go_simp)
  have u2 := bl_cell (v := .int .i64 held) hb (show World.cell? _ ⟨w1.heap.size + 1, 2, none⟩ = _ by go_simp)
  have u3 := bl_cell (v := .slice a n c) hb (show World.cell? _ ⟨w1.heap.size + 1, 3, none⟩ = _ by go_simp)
  have uR := res_bl (b := w1.heap.size + 1) (res_new _ _ _ _ _ _ (by simp)) hb
  replace hB : Below w.heap.size w w2 := bl_then hB hx
  replace lb_p := World.block_lt_of_cell? w2 _ p0
  dsimp only at lb_p
  replace lb_s := World.block_lt_of_cell? w2 _ s0
  dsimp only at lb_s
  replace lb_x := World.block_lt_of_cell? w2 _ x0
  dsimp only at lb_x
  have lb_t := World.block_lt_of_cell? w2 _ t0
  dsimp only at lb_t
  have lb_u := World.block_lt_of_cell? w2 _ u0
  dsimp only at lb_u
  clear hb hx
  unfold St.v
  dsimp only
  have hne2 : ∀ ad, a2 = some ad → n2 ≠ 0 → ad.block ≠ w1.heap.size + 1 := src_ne HL.out hs2 (by omega) (by simp)
  have hnn : n2 = n1 := hl2.1.symm.trans hl1.1
  subst hnn
  obtain ⟨fr0, fr1, fr2, fr3, -⟩ := res_all uR
  go_wp2_with go_step3
  obtain ⟨z0, z1, z2, z3⟩ := set4r (v0 := .int .i64 rat) (v1 := .int .i64 rlv) (v2 := .int .i64 rhd) (v3 := .slice a2 n2 c2) uR
  replace p0 := far4 (b := w1.heap.size + 1) (v0 := .int .i64 rat) (v1 := .int .i64 rlv) (v2 := .int .i64 rhd) (v3 := .slice a2 n2 c2) p0 (by dsimp only; omega)
  replace p1 := far4 (b := w1.heap.size + 1) (v0 := .int .i64 rat) (v1 := .int .i64 rlv) (v2 := .int .i64 rhd) (v3 := .slice a2 n2 c2) p1 (by dsimp only; omega)
  replace p2 := far4 (b := w1.heap.size + 1) (v0 := .int .i64 rat) (v1 := .int .i64 rlv) (v2 := .int .i64 rhd) (v3 := .slice a2 n2 c2) p2 (by dsimp only; omega)
  replace p3 := far4 (b := w1.heap.size + 1) (v0 := .int .i64 rat) (v1 := .int .i64 rlv) (v2 := .int .i64 rhd) (v3 := .slice a2 n2 c2) p3 (by dsimp only; omega)
  replace p4 := far4 (b := w1.heap.size + 1) (v0 := .int .i64 rat) (v1 := .int .i64 rlv) (v2 := .int .i64 rhd) (v3 := .slice a2 n2 c2) p4 (by dsimp only; omega)
  replace p5 := far4 (b := w1.heap.size + 1) (v0 := .int .i64 rat) (v1 := .int .i64 rlv) (v2 := .int .i64 rhd) (v3 := .slice a2 n2 c2) p5 (by dsimp only; omega)
  replace s0 := far4 (b := w1.heap.size + 1) (v0 := .int .i64 rat) (v1 := .int .i64 rlv) (v2 := .int .i64 rhd) (v3 := .slice a2 n2 c2) s0 (by dsimp only; omega)
  replace s1 := far4 (b := w1.heap.size + 1) (v0 := .int .i64 rat) (v1 := .int .i64 rlv) (v2 := .int .i64 rhd) (v3 := .slice a2 n2 c2) s1 (by dsimp only; omega)
  replace s2 := far4 (b := w1.heap.size + 1) (v0 := .int .i64 rat) (v1 := .int .i64 rlv) (v2 := .int .i64 rhd) (v3 := .slice a2 n2 c2) s2 (by dsimp only; omega)
  replace s3 := far4 (b := w1.heap.size + 1) (v0 := .int .i64 rat) (v1 := .int .i64 rlv) (v2 := .int .i64 rhd) (v3 := .slice a2 n2 c2) s3 (by dsimp only; omega)
  replace x0 := far4 (b := w1.heap.size + 1) (v0 := .int .i64 rat) (v1 := .int .i64 rlv) (v2 := .int .i64 rhd) (v3 := .slice a2 n2 c2) x0 (by dsimp only; omega)
  replace x1 := far4 (b := w1.heap.size + 1) (v0 := .int .i64 rat) (v1 := .int .i64 rlv) (v2 := .int .i64 rhd) (v3 := .slice a2 n2 c2) x1 (by dsimp only; omega)
  replace x2 := far4 (b := w1.heap.size + 1) (v0 := .int .i64 rat) (v1 := .int .i64 rlv) (v2 := .int .i64 rhd) (v3 := .slice a2 n2 c2) x2 (by dsimp only; omega)
  replace hl1 := log_set4 (b := w1.heap.size + 1) (v0 := .int .i64 rat) (v1 := .int .i64 rlv) (v2 := .int .i64 rhd) (v3 := .slice a2 n2 c2) hl1 (fun ad e hn => by have := lt1 ad e hn; omega)
  replace t0 := far4 (b := w1.heap.size + 1) (v0 := .int .i64 rat) (v1 := .int .i64 rlv) (v2 := .int .i64 rhd) (v3 := .slice a2 n2 c2) t0 (by dsimp only; omega)
  replace t1 := far4 (b := w1.heap.size + 1) (v0 := .int .i64 rat) (v1 := .int .i64 rlv) (v2 := .int .i64 rhd) (v3 := .slice a2 n2 c2) t1 (by dsimp only; omega)
  replace t2 := far4 (b := w1.heap.size + 1) (v0 := .int .i64 rat) (v1 := .int .i64 rlv) (v2 := .int .i64 rhd) (v3 := .slice a2 n2 c2) t2 (by dsimp only; omega)
  replace t3 := far4 (b := w1.heap.size + 1) (v0 := .int .i64 rat) (v1 := .int .i64 rlv) (v2 := .int .i64 rhd) (v3 := .slice a2 n2 c2) t3 (by dsimp only; omega)
  replace u0 := z0
  replace u1 := z1
  replace u2 := z2
  replace u3 := z3
  replace uR := res4 (b := w1.heap.size + 1) (v0 := .int .i64 rat) (v1 := .int .i64 rlv) (v2 := .int .i64 rhd) (v3 := .slice a2 n2 c2) uR
  replace hl2 := log_set4 (b := w1.heap.size + 1) (v0 := .int .i64 rat) (v1 := .int .i64 rlv) (v2 := .int .i64 rhd) (v3 := .slice a2 n2 c2) hl2 hne2
  replace hB := bl4 (b := w1.heap.size + 1) (v0 := .int .i64 rat) (v1 := .int .i64 rlv) (v2 := .int .i64 rhd) (v3 := .slice a2 n2 c2) hB (by omega)
  clear z0 z1 z2 z3 fr0 fr1 fr2 fr3
  refine (HCB.out _).mono ?_
  rintro e w3 ⟨rfl, hb⟩
  have hsz3 : w2.heap.size + 0 ≤ w3.heap.size := by have h := hb.size; (try simp at h); omega
  replace p0 := bl_cell hb p0
  replace p1 := bl_cell hb p1
  replace p2 := bl_cell hb p2
  replace p3 := bl_cell hb p3
  replace p4 := bl_cell hb p4
  replace p5 := bl_cell hb p5
  replace s0 := bl_cell hb s0
  replace s1 := bl_cell hb s1
  replace s2 := bl_cell hb s2
  replace s3 := bl_cell hb s3
  replace x0 := bl_cell hb x0
  replace x1 := bl_cell hb x1
  replace x2 := bl_cell hb x2
  replace hl1 := log_bl hl1 hb
  replace t0 := bl_cell hb t0
  replace t1 := bl_cell hb t1
  replace t2 := bl_cell hb t2
  replace t3 := bl_cell hb t3
  replace u0 := bl_cell hb u0
  replace u1 := bl_cell hb u1
  replace u2 := bl_cell hb u2
  replace u3 := bl_cell hb u3
  replace uR := res_bl uR hb
  replace hl2 := log_bl hl2 hb
  replace hB : Below w.heap.size w w3 := bl_then hB hb
  replace lb_p := World.block_lt_of_cell? w3 _ p0
  dsimp only at lb_p
  replace lb_s := World.block_lt_of_cell? w3 _ s0
  dsimp only at lb_s
  replace lb_x := World.block_lt_of_cell? w3 _ x0
  dsimp only at lb_x
  replace lb_t := World.block_lt_of_cell? w3 _ t0
  dsimp only at lb_t
  replace lb_u := World.block_lt_of_cell? w3 _ u0
  dsimp only at lb_u
  clear hb
  go_wp2_with go_step3
  refine (HSM.out ⟨rat, rlv, rhd, rL⟩ a1 a2 n2 c1 c2 _ hl1 hl2).mono ?_
  rintro e w4 ⟨rfl, hb⟩
  have hsz4 : w3.heap.size + 0 ≤ w4.heap.size := by have h := hb.size; (try simp at h); omega
  replace p0 := bl_cell hb p0
  replace p1 := bl_cell hb p1
  replace p2 := bl_cell hb p2
  replace p3 := bl_cell hb p3
  replace p4 := bl_cell hb p4
  replace p5 := bl_cell hb p5
  replace s0 := bl_cell hb s0
  replace s1 := bl_cell hb s1
  replace s2 := bl_cell hb s2
  replace s3 := bl_cell hb s3
  replace x0 := bl_cell hb x0
  replace x1 := bl_cell hb x1
  replace x2 := bl_cell hb x2
  replace hl1 := log_bl hl1 hb
  replace t0 := bl_cell hb t0
  replace t1 := bl_cell hb t1
  replace t2 := bl_cell hb t2
  replace t3 := bl_cell hb t3
  replace u0 := bl_cell hb u0
  replace u1 := bl_cell hb u1
  replace u2 := bl_cell hb u2
  replace u3 := bl_cell hb u3
  replace uR := res_bl uR hb
  replace hl2 := log_bl hl2 hb
  replace hB : Below w.heap.size w w4 := bl_then hB hb
  replace lb_p := World.block_lt_of_cell? w4 _ p0
  dsimp only at lb_p
  replace lb_s := World.block_lt_of_cell? w4 _ s0
  dsimp only at lb_s
  replace lb_x := World.block_lt_of_cell? w4 _ x0
  dsimp only at lb_x
  replace lb_t := World.block_lt_of_cell? w4 _ t0
  dsimp only at lb_t
  replace lb_u := World.block_lt_of_cell? w4 _ u0
  dsimp only at lb_u
  clear hb
  go_wp2_with go_step3
  refine (HCK.out _).mono ?_
  rintro e w5 ⟨rfl, hb⟩
  have hsz5 : w4.heap.size + 0 ≤ w5.heap.size := by have h := hb.size; (try simp at h); omega
  replace p0 := bl_cell hb p0
  replace p1 := bl_cell hb p1
  replace p2 := bl_cell hb p2
  replace p3 := bl_cell hb p3
  replace p4 := bl_cell hb p4
  replace p5 := bl_cell hb p5
  replace s0 := bl_cell hb s0
  replace s1 := bl_cell hb s1
  replace s2 := bl_cell hb s2
  replace s3 := bl_cell hb s3
  replace x0 := bl_cell hb x0
  replace x1 := bl_cell hb x1
  replace x2 := bl_cell hb x2
  replace hl1 := log_bl hl1 hb
  replace t0 := bl_cell hb t0
  replace t1 := bl_cell hb t1
  replace t2 := bl_cell hb t2
  replace t3 := bl_cell hb t3
  replace u0 := bl_cell hb u0
  replace u1 := bl_cell hb u1
  replace u2 := bl_cell hb u2
  replace u3 := bl_cell hb u3
  replace uR := res_bl uR hb
  replace hl2 := log_bl hl2 hb
  replace hB : Below w.heap.size w w5 := bl_then hB hb
  replace lb_p := World.block_lt_of_cell? w5 _ p0
  dsimp only at lb_p
  replace lb_s := World.block_lt_of_cell? w5 _ s0
  dsimp only at lb_s
  replace lb_x := World.block_lt_of_cell? w5 _ x0
  dsimp only at lb_x
  replace lb_t := World.block_lt_of_cell? w5 _ t0
  dsimp only at lb_t
  replace lb_u := World.block_lt_of_cell? w5 _ u0
  dsimp only at lb_u
  clear hb
  go_wp2_with go_step3
  refine (HKN.out _).mono ?_
  rintro e w6 ⟨rfl, hb⟩
  have hsz6 : w5.heap.size + 0 ≤ w6.heap.size := by have h := hb.size; (try simp at h); omega
  replace p0 := bl_cell hb p0
  replace p1 := bl_cell hb p1
  replace p2 := bl_cell hb p2
  replace p3 := bl_cell hb p3
  replace p4 := bl_cell hb p4
  replace p5 := bl_cell hb p5
  replace s0 := bl_cell hb s0
  replace s1 := bl_cell hb s1
  replace s2 := bl_cell hb s2
  replace s3 := bl_cell hb s3
  replace x0 := bl_cell hb x0
  replace x1 := bl_cell hb x1
  replace x2 := bl_cell hb x2
  replace hl1 := log_bl hl1 hb
  replace t0 := bl_cell hb t0
  replace t1 := bl_cell hb t1
  replace t2 := bl_cell hb t2
  replace t3 := bl_cell hb t3
  replace u0 := bl_cell hb u0
  replace u1 := bl_cell hb u1
  replace u2 := bl_cell hb u2
  replace u3 := bl_cell hb u3
  replace uR := res_bl uR hb
  replace hl2 := log_bl hl2 hb
  replace hB : Below w.heap.size w w6 := bl_then hB hb
  replace lb_p := World.block_lt_of_cell? w6 _ p0
  dsimp only at lb_p
  replace lb_s := World.block_lt_of_cell? w6 _ s0
  dsimp only at lb_s
  replace lb_x := World.block_lt_of_cell? w6 _ x0
  dsimp only at lb_x
  replace lb_t := World.block_lt_of_cell? w6 _ t0
  dsimp only at lb_t
  replace lb_u := World.block_lt_of_cell? w6 _ u0
  dsimp only at lb_u
  clear hb
  go_wp2_with go_step3
  go_ret
  exact ⟨rfl, hB⟩

set_option maxHeartbeats 4000000 in
set_option maxRecDepth 100000 in
theorem each_none (k l d b cc : Int) (o : Bool) (at_ level held : Int) (L : List (Int × Int)) (a : Option Addr) (n c : Nat) (ak anow acost : Int) (w : World) (hl : LogAt w a n c L) (hn : ¬ (100 : Int) < n) (k1 : ¬ k = 1) (k2 : ¬ k = 2) (k3 : ¬ k = 3) (k4 : ¬ k = 4) :
    Calls Try.prog 4 #[Pol.v ⟨k, l, d, b, cc, o⟩, St.v ⟨at_, level, held, L⟩ a n c, Ac.v ⟨ak, anow, acost⟩] w fun e w' => e = .returned (.bool true) ∧ Below w.heap.size w w' := by
  have hdo := fun w hw => ldo_any ⟨k, l, d, b, cc, o⟩ ⟨at_, level, held, L⟩ a n c ⟨ak, anow, acost⟩ w hw
  rw [show doP ⟨k, l, d, b, cc, o⟩ ⟨at_, level, held, L⟩ ⟨ak, anow, acost⟩ = (St.none, false) by unfold doP doB rightB okB; simp [k1, k2, k3, k4]] at hdo
  have hck := lcheck_any ⟨k, l, d, b, cc, o⟩
  rw [show chkP ⟨k, l, d, b, cc, o⟩ = 2 by unfold chkP chkB okB; simp [k1, k2, k3, k4]] at hck
  have hkn := known_yes
  unfold Ac.v St.v Pol.v at *
  dsimp only at *
  have HDO := Go.Lib.hid hdo
  have HCK := Go.Lib.hid hck
  have HKN := Go.Lib.hid hkn
  have HL := Go.Lib.hid hl
  clear hdo hck hkn hl
  go_enter Try.func4, Try.ntmps4
  go_wp2_with go_step3
  refine (HDO.out _ (log_bl HL.out (bl_alloc (bl_alloc (bl_alloc (bl_refl _) _) _) _))).mono ?_
  rintro e w1 ⟨a1, n1, c1, rfl, -, -, hb⟩
  have hx : Below w.heap.size w w1 := bl_then (bl_alloc (bl_alloc (bl_alloc (bl_refl _) _) _) _) hb
  have hsz1 : w.heap.size + 3 ≤ w1.heap.size := by have h := hb.size; (try simp at h); omega
  have p0 := bl_cell (v := .int .i64 k) hb (show World.cell? _ ⟨w.heap.size, 0, none⟩ = _ by go_simp)
  have p1 := bl_cell (v := .int .i64 l) hb (show World.cell? _ ⟨w.heap.size, 1, none⟩ = _ by go_simp)
  have p2 := bl_cell (v := .int .i64 d) hb (show World.cell? _ ⟨w.heap.size, 2, none⟩ = _ by go_simp)
  have p3 := bl_cell (v := .int .i64 b) hb (show World.cell? _ ⟨w.heap.size, 3, none⟩ = _ by go_simp)
  have p4 := bl_cell (v := .int .i64 cc) hb (show World.cell? _ ⟨w.heap.size, 4, none⟩ = _ by go_simp)
  have p5 := bl_cell (v := .bool o) hb (show World.cell? _ ⟨w.heap.size, 5, none⟩ = _ by go_simp)
  have s0 := bl_cell (v := .int .i64 at_) hb (show World.cell? _ ⟨w.heap.size + 1, 0, none⟩ = _ by go_simp)
  have s1 := bl_cell (v := .int .i64 level) hb (show World.cell? _ ⟨w.heap.size + 1, 1, none⟩ = _ by go_simp)
  have s2 := bl_cell (v := .int .i64 held) hb (show World.cell? _ ⟨w.heap.size + 1, 2, none⟩ = _ by go_simp)
  have s3 := bl_cell (v := .slice a n c) hb (show World.cell? _ ⟨w.heap.size + 1, 3, none⟩ = _ by go_simp)
  have x0 := bl_cell (v := .int .i64 ak) hb (show World.cell? _ ⟨w.heap.size + 1 + 1, 0, none⟩ = _ by go_simp)
  have x1 := bl_cell (v := .int .i64 anow) hb (show World.cell? _ ⟨w.heap.size + 1 + 1, 1, none⟩ = _ by go_simp)
  have x2 := bl_cell (v := .int .i64 acost) hb (show World.cell? _ ⟨w.heap.size + 1 + 1, 2, none⟩ = _ by go_simp)
  have hB : Below w.heap.size w w1 := hx
  have lb_p := World.block_lt_of_cell? w1 _ p0
  dsimp only at lb_p
  have lb_s := World.block_lt_of_cell? w1 _ s0
  dsimp only at lb_s
  have lb_x := World.block_lt_of_cell? w1 _ x0
  dsimp only at lb_x
  clear hb hx
  unfold St.none St.v
  dsimp only
  go_wp2_with go_step3
  refine (HCK.out _).mono ?_
  rintro e w2 ⟨rfl, hb⟩
  have hx : Below w1.heap.size w1 w2 := bl_then (bl_alloc (bl_alloc (bl_refl _) _) _) hb
  have hsz2 : w1.heap.size + 2 ≤ w2.heap.size := by have h := hb.size; (try simp at h); omega
  replace p0 := bl_cell hx p0
  replace p1 := bl_cell hx p1
  replace p2 := bl_cell hx p2
  replace p3 := bl_cell hx p3
  replace p4 := bl_cell hx p4
  replace p5 := bl_cell hx p5
  replace s0 := bl_cell hx s0
  replace s1 := bl_cell hx s1
  replace s2 := bl_cell hx s2
  replace s3 := bl_cell hx s3
  replace x0 := bl_cell hx x0
  replace x1 := bl_cell hx x1
  replace x2 := bl_cell hx x2
  have t0 := bl_cell (v := .int .i64 0) hb (show World.cell? _ ⟨w1.heap.size, 0, none⟩ = _ by go_simp)
  have t1 := bl_cell (v := .int .i64 0) hb (show World.cell? _ ⟨w1.heap.size, 1, none⟩ = _ by go_simp)
  have t2 := bl_cell (v := .int .i64 0) hb (show World.cell? _ ⟨w1.heap.size, 2, none⟩ = _ by go_simp)
  have t3 := bl_cell (v := .slice a1 n1 c1) hb (show World.cell? _ ⟨w1.heap.size, 3, none⟩ = _ by go_simp)
  have u0 := bl_cell (v := .int .i64 at_) hb (show World.cell? _ ⟨w1.heap.size + 1, 0, none⟩ = _ by go_simp)
  have u1 := bl_cell (v := .int .i64 level) hb (show World.cell? _ ⟨w1.heap.size + 1, 1, none⟩ = _ by go_simp)
  have u2 := bl_cell (v := .int .i64 held) hb (show World.cell? _ ⟨w1.heap.size + 1, 2, none⟩ = _ by go_simp)
  have u3 := bl_cell (v := .slice a n c) hb (show World.cell? _ ⟨w1.heap.size + 1, 3, none⟩ = _ by go_simp)
  replace hB : Below w.heap.size w w2 := bl_then hB hx
  replace lb_p := World.block_lt_of_cell? w2 _ p0
  dsimp only at lb_p
  replace lb_s := World.block_lt_of_cell? w2 _ s0
  dsimp only at lb_s
  replace lb_x := World.block_lt_of_cell? w2 _ x0
  dsimp only at lb_x
  have lb_t := World.block_lt_of_cell? w2 _ t0
  dsimp only at lb_t
  have lb_u := World.block_lt_of_cell? w2 _ u0
  dsimp only at lb_u
  clear hb hx
  go_wp2_with go_step3
  refine (HKN.out _).mono ?_
  rintro e w3 ⟨rfl, hb⟩
  have hsz3 : w2.heap.size + 0 ≤ w3.heap.size := by have h := hb.size; (try simp at h); omega
  replace p0 := bl_cell hb p0
  replace p1 := bl_cell hb p1
  replace p2 := bl_cell hb p2
  replace p3 := bl_cell hb p3
  replace p4 := bl_cell hb p4
  replace p5 := bl_cell hb p5
  replace s0 := bl_cell hb s0
  replace s1 := bl_cell hb s1
  replace s2 := bl_cell hb s2
  replace s3 := bl_cell hb s3
  replace x0 := bl_cell hb x0
  replace x1 := bl_cell hb x1
  replace x2 := bl_cell hb x2
  replace t0 := bl_cell hb t0
  replace t1 := bl_cell hb t1
  replace t2 := bl_cell hb t2
  replace t3 := bl_cell hb t3
  replace u0 := bl_cell hb u0
  replace u1 := bl_cell hb u1
  replace u2 := bl_cell hb u2
  replace u3 := bl_cell hb u3
  replace hB : Below w.heap.size w w3 := bl_then hB hb
  replace lb_p := World.block_lt_of_cell? w3 _ p0
  dsimp only at lb_p
  replace lb_s := World.block_lt_of_cell? w3 _ s0
  dsimp only at lb_s
  replace lb_x := World.block_lt_of_cell? w3 _ x0
  dsimp only at lb_x
  replace lb_t := World.block_lt_of_cell? w3 _ t0
  dsimp only at lb_t
  replace lb_u := World.block_lt_of_cell? w3 _ u0
  dsimp only at lb_u
  clear hb
  go_wp2_with go_step3
  go_ret
  exact ⟨rfl, hB⟩

set_option maxHeartbeats 4000000 in
set_option maxRecDepth 100000 in
theorem each_long (p : Pol) (s : St) (x : Ac) (a : Option Addr) (n c : Nat) (w : World) (hn : (100 : Int) < n) :
    Calls Try.prog 4 #[p.v, s.v a n c, x.v] w fun e w' => e = .returned (.bool true) ∧ Below w.heap.size w w' := by
  have hkn := known_yes
  obtain ⟨k, l, d, b, cc, o⟩ := p
  obtain ⟨at_, level, held, L⟩ := s
  obtain ⟨ak, anow, acost⟩ := x
  unfold Ac.v St.v Pol.v at *
  dsimp only at *
  have HKN := Go.Lib.hid hkn
  clear hkn
  go_enter Try.func4, Try.ntmps4
  go_wp2_with go_step3
  refine (HKN.out _).mono ?_
  rintro e w1 ⟨rfl, hb⟩
  have hx : Below w.heap.size w w1 := bl_then (bl_alloc (bl_alloc (bl_alloc (bl_refl _) _) _) _) hb
  have hsz1 : w.heap.size + 3 ≤ w1.heap.size := by have h := hb.size; (try simp at h); omega
  have p0 := bl_cell (v := .int .i64 k) hb (show World.cell? _ ⟨w.heap.size, 0, none⟩ = _ by go_simp)
  have p1 := bl_cell (v := .int .i64 l) hb (show World.cell? _ ⟨w.heap.size, 1, none⟩ = _ by go_simp)
  have p2 := bl_cell (v := .int .i64 d) hb (show World.cell? _ ⟨w.heap.size, 2, none⟩ = _ by go_simp)
  have p3 := bl_cell (v := .int .i64 b) hb (show World.cell? _ ⟨w.heap.size, 3, none⟩ = _ by go_simp)
  have p4 := bl_cell (v := .int .i64 cc) hb (show World.cell? _ ⟨w.heap.size, 4, none⟩ = _ by go_simp)
  have p5 := bl_cell (v := .bool o) hb (show World.cell? _ ⟨w.heap.size, 5, none⟩ = _ by go_simp)
  have s0 := bl_cell (v := .int .i64 at_) hb (show World.cell? _ ⟨w.heap.size + 1, 0, none⟩ = _ by go_simp)
  have s1 := bl_cell (v := .int .i64 level) hb (show World.cell? _ ⟨w.heap.size + 1, 1, none⟩ = _ by go_simp)
  have s2 := bl_cell (v := .int .i64 held) hb (show World.cell? _ ⟨w.heap.size + 1, 2, none⟩ = _ by go_simp)
  have s3 := bl_cell (v := .slice a n c) hb (show World.cell? _ ⟨w.heap.size + 1, 3, none⟩ = _ by go_simp)
  have x0 := bl_cell (v := .int .i64 ak) hb (show World.cell? _ ⟨w.heap.size + 1 + 1, 0, none⟩ = _ by go_simp)
  have x1 := bl_cell (v := .int .i64 anow) hb (show World.cell? _ ⟨w.heap.size + 1 + 1, 1, none⟩ = _ by go_simp)
  have x2 := bl_cell (v := .int .i64 acost) hb (show World.cell? _ ⟨w.heap.size + 1 + 1, 2, none⟩ = _ by go_simp)
  have hB : Below w.heap.size w w1 := hx
  have lb_p := World.block_lt_of_cell? w1 _ p0
  dsimp only at lb_p
  have lb_s := World.block_lt_of_cell? w1 _ s0
  dsimp only at lb_s
  have lb_x := World.block_lt_of_cell? w1 _ x0
  dsimp only at lb_x
  clear hb hx
  go_wp2_with go_step3
  go_ret
  exact ⟨rfl, hB⟩

theorem each_walk (p : Pol) (s : St) (a : Option Addr) (n c : Nat) (x : Ac) (w : World) (hl : LogAt w a n c s.log) :
    Calls Try.prog 4 #[p.v, s.v a n c, x.v] w fun e w' => e = .returned (.bool true) ∧ Below w.heap.size w w' := by
  by_cases hn : (100 : Int) < n
  · exact each_long p s x a n c w hn
  obtain ⟨k, l, d, b, cc, o⟩ := p
  obtain ⟨at_, level, held, L⟩ := s
  obtain ⟨ak, anow, acost⟩ := x
  by_cases k1 : k = 1
  · subst k1; exact each_bucket l d b cc o at_ level held L a n c ak anow acost w hl hn
  by_cases k2 : k = 2
  · subst k2; exact each_gcra l d b cc o at_ level held L a n c ak anow acost w hl hn
  by_cases k3 : k = 3
  · subst k3; exact each_window l d b cc o at_ level held L a n c ak anow acost w hl hn
  by_cases k4 : k = 4
  · subst k4; exact each_counter l d b cc o at_ level held L a n c ak anow acost w hl hn
  exact each_none k l d b cc o at_ level held L a n c ak anow acost w hl hn k1 k2 k3 k4
end Go.Proofs.Ythinbjknkjpdjaa

namespace Go.Proofs.Ythinbjknkjpdjaa.limiterEach
open Go.ChangeShapes Go.WideShapes Go.ChangeAt Go.RowKit
open Go.ChangeMaps (open_string shut_string)
set_option linter.unusedVariables false
set_option linter.unusedSimpArgs false

theorem own : ownKnob Try.prog.godebug = none := by kernel_rfl
theorem laidOut : laidOutB Try.prog = true := by kernel_rfl

set_option maxHeartbeats 1000000 in
set_option maxRecDepth 100000 in
theorem lifted (os : Os) (started : os.Started) (H : Type) (enc : TypeId × Value → H) :
    ReturnsInHanded {} Try.checked os 4 .any (Rows.limiterEachSpec.pre6 enc Try.prog Try.f4 Rows.limiterEachRow.domain false) (Rows.limiterEachSpec.post enc Try.prog Try.f4 false true false false) := by
  refine returnsInHanded_of_change (C := Try.checked) own started (by kernel_rfl) Try.func4
    (ChangeSpec.witness6 (enc := enc) (C := Try.checked) false ⟨#[], #[.agg #[.int .i64 0, .int .i64 0, .int .i64 0, .int .i64 0, .int .i64 0, .bool false], .agg #[.int .i64 0, .int .i64 0, .int .i64 0, .slice none 0 0], .agg #[.int .i64 0, .int .i64 0, .int .i64 0]], []⟩ 8 (by kernel_rfl) (by kernel_rfl) (by kernel_rfl) (by kernel_rfl)) ?_
  intro W base args ds gs before hval0 hW hcnd _
  have hval : ∀ (j : Nat) t v, Try.f4.params[j]? = some t → args[j]? = some v → Value.okWide Try.prog W .any base t v := hval0
  have hW' := hW
  obtain ⟨p, q, hA0, hV, rfl, hfz, hnd⟩ := hW
  have hA : DataW.TrodAll enc Try.prog W 0 (fun _ => true) true Try.f4.params.toList args.toList ds p := hA0
  rw [Try.params4] at hA hval
  obtain ⟨v0, vs0, d0, ds0', p0, q0, hargs, rfl, rfl, h0, r0⟩ := trodAll_cons hA
  obtain ⟨v1, vs1, d1, ds1', p1, q1, rfl, rfl, rfl, h1, r1⟩ := trodAll_cons r0
  obtain ⟨v2, vs2, d2, ds2', p2, q2, rfl, rfl, rfl, h2, r2⟩ := trodAll_cons r1
  obtain ⟨rfl, rfl, rfl⟩ := trodAll_nil r2
  obtain rfl : args = #[v0, v1, v2] := by cases args; simp_all
  obtain ⟨rfl, rfl⟩ := trodVars_none hV
  have k0 := h0
  have lt0 : ∀ x ∈ p0, x.block < W.heap.size := by obtain ⟨m, hm⟩ := k0; exact DataW.trod_lt m _ _ _ hm
  obtain ⟨ds0, rfl⟩ := open_pol (hval 0 28 v0 rfl rfl) h0
  have k1 := h1
  have lt1 : ∀ x ∈ p1, x.block < W.heap.size := by obtain ⟨m, hm⟩ := k1; exact DataW.trod_lt m _ _ _ hm
  obtain ⟨ds1, a1, len1, cap1, rfl, w1⟩ := open_st (hval 1 32 v1 rfl rfl) h1
  have k2 := h2
  have lt2 : ∀ x ∈ p2, x.block < W.heap.size := by obtain ⟨m, hm⟩ := k2; exact DataW.trod_lt m _ _ _ hm
  obtain ⟨ds2, rfl⟩ := open_act (hval 2 40 v2 rfl rfl) h2
  clear hA0 hval0
  refine (each_walk ds0 ds1 a1 len1 cap1 ds2 W w1).mono fun e W' ⟨he, bel⟩ => ?_
  subst he
  exact ⟨_, rfl, _, _, _, [], _, [], hW', trodAll_mk1 (shut_bool Try.underlying4 _), (trodAll_cons_mk (Below.trod laidOut (by kernel_rfl) (of_decide_eq_true (by kernel_rfl)) k0 bel lt0) (trodAll_cons_mk (Below.trod laidOut (by kernel_rfl) (of_decide_eq_true (by kernel_rfl)) k1 bel lt1) (trodAll_cons_mk (Below.trod laidOut (by kernel_rfl) (of_decide_eq_true (by kernel_rfl)) k2 bel lt2) trodAll_mk0))), rfl, bel.frame _, fun h => by cases h⟩

theorem over : Rows.limiterEachRow.holds Try.pinned (OpenSpec.ofChange Rows.limiterEachSpec) :=
  OpenClaim.holds_of_wide 4 Try.f4 rfl rfl rfl rfl rfl rfl rfl ⟨rfl, rfl, rfl, rfl, rfl⟩ rfl rfl rfl rfl rfl (by kernel_rfl) Try.func4 (by kernel_rfl)
    (of_decide_eq_true (by kernel_rfl)) (by unfold Func.isWrapper; first | (rw [if_pos (by decide +kernel)]; kernel_rfl) | (rw [if_neg (by decide +kernel)]; exact ⟨rfl, rfl⟩))
    (fun os started H enc _ => lifted os started H enc)

/-- The statement. -/
theorem proved : Rows.LimiterEachSaid := over
end Go.Proofs.Ythinbjknkjpdjaa.limiterEach
