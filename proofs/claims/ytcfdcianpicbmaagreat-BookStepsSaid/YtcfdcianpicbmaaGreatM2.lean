/-
  What book.Named answers.
  What limiter.Check answers.
  What a book's Drop and Lay do.
  What tapsterlaw12.known answers: true.
  What tapsterlaw12.did does; acts on a book among a law's arguments; their length.
  A list of keys in memory; what tapsterref03.Same answers of two equal ones.
  The reference's book in memory; what tapsterref12.Get answers.
  What tapsterref12.Names answers.
  No condition.
-/
import Derived.Test.YtcfdcianpicbmaaGreatM1
import Derived.LoopN
import Derived.Deep.Slices
import Derived.Deep.Fields
import Derived.ChangeSame
import Derived.Maps.OwnRows
namespace Go.Proofs.YtcfdcianpicbmaaGreat
open Go.RowKit Go.Maps Go.Shelf
set_option linter.unusedVariables false
set_option linter.unusedSimpArgs false

def dots : ByteArray := ⟨#[45, 95, 46]⟩
/-- What stands last in a rune's bytes, if it is none of the first 128. -/
theorem enc_forms (r : Int) (h : 128 ≤ r) : ∃ (c : UInt8), 128 ≤ c.toNat ∧ ((∃ a, Utf8.encode r = ⟨#[a, c]⟩) ∨ (∃ a b, Utf8.encode r = ⟨#[a, b, c]⟩) ∨ (∃ a b d, Utf8.encode r = ⟨#[a, b, d, c]⟩)) := by
  have hc : 128 ≤ (if Utf8.valid r then r.toNat else Utf8.runeError) := by
    split
    · omega
    · decide
  unfold Utf8.encode
  dsimp only
  generalize (if Utf8.valid r then r.toNat else Utf8.runeError) = x at *
  have hb : 128 ≤ (UInt8.ofNat (0x80 + x % 64)).toNat := by
    rw [UInt8.toNat_ofNat']
    omega
  rw [if_neg (by omega)]
  refine ⟨UInt8.ofNat (0x80 + x % 64), hb, ?_⟩
  split
  · exact .inl ⟨_, rfl⟩
  · split
    · exact .inr (.inl ⟨_, _, rfl⟩)
    · exact .inr (.inr ⟨_, _, _, rfl⟩)
theorem no_dot {c : UInt8} (h : 128 ≤ c.toNat) : (c ≠ 45 ∧ c ≠ 95 ∧ c ≠ 46) := by
  refine ⟨?_, ?_, ?_⟩ <;> (rintro rfl; revert h; decide)
theorem ix_dot {c : UInt8} (h : 128 ≤ c.toNat) : Lib.indexByte [95, 46] c = -1 := by
  obtain ⟨-, h2, h3⟩ := no_dot h
  unfold Lib.indexByte Lib.indexByte Lib.indexByte
  simp [Ne.symm h2, Ne.symm h3]

set_option maxHeartbeats 2000000 in
set_option maxRecDepth 100000 in
theorem irune_low (r : Int) (w : World) (h0 : 0 ≤ r) (h1 : r < 128) : Calls Tryz.prog 64 #[.string ⟨#[45, 95, 46]⟩, .int .i32 r] w fun e w' => e = .returned (.int .i64 (Lib.indexByte [45, 95, 46] r.toNat.toUInt8)) ∧ Below w.heap.size w w' := by
  have hb := fun (c : Int) w => Any.strings_IndexByte (P := Tryz.prog) (ρ := Tryz.ibL_ren) { Tryz.ibL with } ⟨#[45, 95, 46]⟩ c w
  have hw : IntKind.u8.wrap r = r := by unfold IntKind.wrap; simp [IntKind.signed, IntKind.bits]; omega
  have HB := Go.Lib.hid hb
  clear hb
  go_enter Tryz.func64, Tryz.ntmps64
  go_wp2_with go_step3
  refine (HB.out _ _).mono ?_
  rintro e w1 ⟨rfl, rfl⟩
  go_wp2_with go_step3
  go_ret
  exact ⟨rfl, bl_refl _⟩

set_option maxHeartbeats 2000000 in
set_option maxRecDepth 100000 in
theorem irune_bad (r : Int) (w : World) (h0 : ¬ r < 128) (h1 : ¬ r = 65533) (hv : Lib.validRune r = false) : Calls Tryz.prog 64 #[.string ⟨#[45, 95, 46]⟩, .int .i32 r] w fun e w' => e = .returned (.int .i64 (-1)) ∧ Below w.heap.size w w' := by
  have hb := fun w => Any.utf8_ValidRune (P := Tryz.prog) (ρ := Tryz.vrL_ren) { Tryz.vrL with } r w
  rw [hv] at hb
  have HB := Go.Lib.hid hb
  have h2 : 0 ≤ r := by omega
  clear hb hv
  go_enter Tryz.func64, Tryz.ntmps64
  go_wp2_with go_step3
  refine (HB.out _).mono ?_
  rintro e w1 ⟨rfl, rfl⟩
  go_wp2_with go_step3
  go_ret
  exact ⟨rfl, bl_refl _⟩

set_option maxHeartbeats 2000000 in
set_option maxRecDepth 100000 in
theorem irune_err (w : World) : Calls Tryz.prog 64 #[.string ⟨#[45, 95, 46]⟩, .int .i32 65533] w fun e w' => e = .returned (.int .i64 (-1)) ∧ Below w.heap.size w w' := by
  go_enter Tryz.func64, Tryz.ntmps64
  go_wp2_with go_step3
  go_loopw [] (fun wr => ∃ pos : Nat, pos ≤ 3 ∧ wr.heap[w.heap.size]? = some (.stringIter ⟨#[45, 95, 46]⟩ pos) ∧ Below w.heap.size w wr)
    (fun wr => 3 - (match wr.heap[w.heap.size]? with | some (.stringIter _ q) => q | _ => 0))
  case atStart => exact ⟨0, Nat.zero_le _, World.iter_heap w _ 0, (Below.refl _ w).alloc (Nat.le_refl _) _⟩
  case round =>
    obtain ⟨pos, hp3, hit, hbw⟩ := hrel
    have hp : pos = 0 ∨ pos = 1 ∨ pos = 2 ∨ pos = 3 := by omega
    rcases hp with rfl | rfl | rfl | rfl
    · have hd : Utf8.decode ⟨#[45, 95, 46]⟩ 0 = (45, 1) := by decide
      have hnx := fun ty => Lib.run_next_any_at (P := Tryz.prog) wr w.heap.size ⟨#[45, 95, 46]⟩ 0 ty hit (by decide)
      rw [hd] at hnx
      have hit2 := Lib.iterAt_heap wr w.heap.size ⟨#[45, 95, 46]⟩ 0 (0 + 1) hit
      have hbw2 := Lib.below_iterAt hbw (k := w.heap.size) (Nat.le_refl _) ⟨#[45, 95, 46]⟩ (0 + 1)
      dsimp only at hnx
      go_wp2_with go_step3
      go_roundw
      case rel => exact ⟨1, by omega, hit2, hbw2⟩
      case measure => (rw [hit, hit2]; decide)
    · have hd : Utf8.decode ⟨#[45, 95, 46]⟩ 1 = (95, 1) := by decide
      have hnx := fun ty => Lib.run_next_any_at (P := Tryz.prog) wr w.heap.size ⟨#[45, 95, 46]⟩ 1 ty hit (by decide)
      rw [hd] at hnx
      have hit2 := Lib.iterAt_heap wr w.heap.size ⟨#[45, 95, 46]⟩ 1 (1 + 1) hit
      have hbw2 := Lib.below_iterAt hbw (k := w.heap.size) (Nat.le_refl _) ⟨#[45, 95, 46]⟩ (1 + 1)
      dsimp only at hnx
      go_wp2_with go_step3
      go_roundw
      case rel => exact ⟨2, by omega, hit2, hbw2⟩
      case measure => (rw [hit, hit2]; decide)
    · have hd : Utf8.decode ⟨#[45, 95, 46]⟩ 2 = (46, 1) := by decide
      have hnx := fun ty => Lib.run_next_any_at (P := Tryz.prog) wr w.heap.size ⟨#[45, 95, 46]⟩ 2 ty hit (by decide)
      rw [hd] at hnx
      have hit2 := Lib.iterAt_heap wr w.heap.size ⟨#[45, 95, 46]⟩ 2 (2 + 1) hit
      have hbw2 := Lib.below_iterAt hbw (k := w.heap.size) (Nat.le_refl _) ⟨#[45, 95, 46]⟩ (2 + 1)
      dsimp only at hnx
      go_wp2_with go_step3
      go_roundw
      case rel => exact ⟨3, by omega, hit2, hbw2⟩
      case measure => (rw [hit, hit2]; decide)
    · have hnx := fun ty => Lib.run_next_end_at (P := Tryz.prog) wr w.heap.size ⟨#[45, 95, 46]⟩ 3 ty hit (by decide)
      go_wp2_with go_step3
      go_ret
      exact ⟨rfl, hbw⟩

set_option maxHeartbeats 2000000 in
set_option maxRecDepth 100000 in
theorem irune_high (r : Int) (w : World) (h0 : ¬ r < 128) (h1 : ¬ r = 65533) (hv : Lib.validRune r = true) : Calls Tryz.prog 64 #[.string ⟨#[45, 95, 46]⟩, .int .i32 r] w fun e w' => e = .returned (.int .i64 (-1)) ∧ Below w.heap.size w w' := by
  have hb := fun w => Any.utf8_ValidRune (P := Tryz.prog) (ρ := Tryz.vrL_ren) { Tryz.vrL with } r w
  rw [hv] at hb
  have HB := Go.Lib.hid hb
  have h2 : 0 ≤ r := by omega
  obtain ⟨c, hc, he⟩ := enc_forms r (by omega)
  have hcc : ((c.toNat : Int).toNat.toUInt8) = c := by simp
  have h45 : c.toNat ≠ 45 := fun e => by omega
  have h95 : c.toNat ≠ 95 := fun e => by omega
  have h46 : c.toNat ≠ 46 := fun e => by omega
  clear hb hv
  rcases he with ⟨a, he⟩ | ⟨a, b, he⟩ | ⟨a, b, d, he⟩
  · have hi := fun w => Any.strings_IndexByte (P := Tryz.prog) (ρ := Tryz.ibL_ren) { Tryz.ibL with } ⟨#[46]⟩ (c.toNat : Int) w
    rw [hcc, show Lib.indexByte (⟨#[46]⟩ : ByteArray).data.toList c = -1 from by unfold Lib.indexByte Lib.indexByte; simp [Ne.symm (no_dot hc).2.2]] at hi
    have HI := Go.Lib.hid hi
    have hn2 : ¬ (95 : Int) = (c.toNat : Int) := fun e => h95 (by omega)
    have hww : IntKind.i64.wrap 2 = 2 := by decide
    have hxx : (⟨#[45, 95, 46]⟩ : ByteArray).extract 2 3 = ⟨#[46]⟩ := by rfl
    have hn3 : decide ((95 : Int) = (c.toNat : Int)) = false := decide_eq_false hn2
    have hx1 : ∀ h, (⟨#[45, 95, 46]⟩ : ByteArray)[1]'h = 95 := fun _ => rfl
    have hx2 : ∀ h, (⟨#[a, c]⟩ : ByteArray)[1]'h = c := fun _ => rfl
    have hn4 : ((95 : Int) != (c.toNat : Int)) = true := bne_iff_ne.2 hn2
    clear hi hcc h45 h95 h46 hc
    go_enter Tryz.func64, Tryz.ntmps64
    go_wp2_with go_step3
    refine (HB.out _).mono ?_
    rintro e w1 ⟨rfl, rfl⟩
    go_wp2_with go_step3
    refine wp_loop_rounds 1 ?_
    refine Eq.mpr (rounds_succ (n := 0)) ?_
    repeat' (first | go_step3 | go_skip | go_guarded | go_step | go_upon)
    have hB := bl_refl w1
    refine wp_region_held_drew (S := fun w' => Below w1.heap.size w1 w') (by kernel_rfl) ?_ (fun hHeld => ?_)
    · exact bl_drew hB
    try simp only [Act.put, List.setIfInBounds_toArray, List.set_cons_zero, List.set_cons_succ]
    (refine tk (i := 0) rfl rfl hHeld ?_)
    (refine tk (i := 1) rfl rfl hHeld ?_)
    (refine tk (i := 2) rfl rfl hHeld ?_)
    (refine tk (i := 3) rfl rfl hHeld ?_)
    (refine tk (i := 4) rfl rfl hHeld ?_)
    (refine tk (i := 5) rfl rfl hHeld ?_)
    (refine tk (i := 6) rfl rfl hHeld ?_)
    refine wpAnyH_done (by kernel_rfl) ?_ _
    repeat' (first | go_step3 | go_skip | go_guarded | go_step | go_upon)
    clear hB
    have hB := hHeld
    clear hHeld
    refine wp_region_held_drew (S := fun w' => Below w1.heap.size w1 w') (by kernel_rfl) ?_ (fun hHeld => ?_)
    · exact bl_drew hB
    try simp only [Act.put, List.setIfInBounds_toArray, List.set_cons_zero, List.set_cons_succ]
    (refine tk (i := 0) rfl rfl hHeld ?_)
    (refine tk (i := 1) rfl rfl hHeld ?_)
    (refine tk (i := 2) rfl rfl hHeld ?_)
    (refine tk (i := 3) rfl rfl hHeld ?_)
    (refine tk (i := 4) rfl rfl hHeld ?_)
    (refine tk (i := 5) rfl rfl hHeld ?_)
    (refine tk (i := 6) rfl rfl hHeld ?_)
    (refine callH (i := 7) rfl hHeld (fun W h_B K hK => ?_); clear hHeld; (try dsimp only at h_B); go_simp; refine (HI.out _).mono ?_; rintro e w9 ⟨rfl, hb'⟩; have hb := bl_refl W; subst hb'; go_wp2_with fail; refine hK.out _ _ ?_ (fun hHeld => ?_); (focus ((try dsimp only); exact bl_then h_B hb)); clear hK K; clear h_B; try simp only [Act.put, List.setIfInBounds_toArray, List.set_cons_zero, List.set_cons_succ])
    (refine tk (i := 8) rfl rfl hHeld ?_)
    refine wpAnyH_done (by kernel_rfl) ?_ _
    repeat' (first | go_step3 | go_skip | go_guarded | go_step | go_upon)
    (try simp only [Exit.noGoto_ret, Exit.inBlock, Exit.then])
    go_ret
    exact ⟨rfl, hHeld⟩
  · have hi := fun w => Any.strings_IndexByte (P := Tryz.prog) (ρ := Tryz.ibL_ren) { Tryz.ibL with } ⟨#[]⟩ (c.toNat : Int) w
    rw [hcc, show Lib.indexByte (⟨#[]⟩ : ByteArray).data.toList c = -1 from rfl] at hi
    have HI := Go.Lib.hid hi
    have hn2 : ¬ (46 : Int) = (c.toNat : Int) := fun e => h46 (by omega)
    have hww : IntKind.i64.wrap 3 = 3 := by decide
    have hxx : (⟨#[45, 95, 46]⟩ : ByteArray).extract 3 3 = ⟨#[]⟩ := by rfl
    have hn3 : decide ((46 : Int) = (c.toNat : Int)) = false := decide_eq_false hn2
    have hx1 : ∀ h, (⟨#[45, 95, 46]⟩ : ByteArray)[2]'h = 46 := fun _ => rfl
    have hx2 : ∀ h, (⟨#[a, b, c]⟩ : ByteArray)[2]'h = c := fun _ => rfl
    have hn4 : ((46 : Int) != (c.toNat : Int)) = true := bne_iff_ne.2 hn2
    clear hi hcc h45 h95 h46 hc
    go_enter Tryz.func64, Tryz.ntmps64
    go_wp2_with go_step3
    refine (HB.out _).mono ?_
    rintro e w1 ⟨rfl, rfl⟩
    go_wp2_with go_step3
    refine wp_loop_rounds 1 ?_
    refine Eq.mpr (rounds_succ (n := 0)) ?_
    repeat' (first | go_step3 | go_skip | go_guarded | go_step | go_upon)
    have hB := bl_refl w1
    refine wp_region_held_drew (S := fun w' => Below w1.heap.size w1 w') (by kernel_rfl) ?_ (fun hHeld => ?_)
    · exact bl_drew hB
    try simp only [Act.put, List.setIfInBounds_toArray, List.set_cons_zero, List.set_cons_succ]
    (refine tk (i := 0) rfl rfl hHeld ?_)
    (refine tk (i := 1) rfl rfl hHeld ?_)
    (refine tk (i := 2) rfl rfl hHeld ?_)
    (refine tk (i := 3) rfl rfl hHeld ?_)
    (refine tk (i := 4) rfl rfl hHeld ?_)
    (refine tk (i := 5) rfl rfl hHeld ?_)
    (refine tk (i := 6) rfl rfl hHeld ?_)
    refine wpAnyH_done (by kernel_rfl) ?_ _
    repeat' (first | go_step3 | go_skip | go_guarded | go_step | go_upon)
    clear hB
    have hB := hHeld
    clear hHeld
    refine wp_region_held_drew (S := fun w' => Below w1.heap.size w1 w') (by kernel_rfl) ?_ (fun hHeld => ?_)
    · exact bl_drew hB
    try simp only [Act.put, List.setIfInBounds_toArray, List.set_cons_zero, List.set_cons_succ]
    (refine tk (i := 0) rfl rfl hHeld ?_)
    (refine tk (i := 1) rfl rfl hHeld ?_)
    (refine tk (i := 2) rfl rfl hHeld ?_)
    (refine tk (i := 3) rfl rfl hHeld ?_)
    (refine tk (i := 4) rfl rfl hHeld ?_)
    (refine tk (i := 5) rfl rfl hHeld ?_)
    (refine tk (i := 6) rfl rfl hHeld ?_)
    (refine callH (i := 7) rfl hHeld (fun W h_B K hK => ?_); clear hHeld; (try dsimp only at h_B); go_simp; refine (HI.out _).mono ?_; rintro e w9 ⟨rfl, hb'⟩; have hb := bl_refl W; subst hb'; go_wp2_with fail; refine hK.out _ _ ?_ (fun hHeld => ?_); (focus ((try dsimp only); exact bl_then h_B hb)); clear hK K; clear h_B; try simp only [Act.put, List.setIfInBounds_toArray, List.set_cons_zero, List.set_cons_succ])
    (refine tk (i := 8) rfl rfl hHeld ?_)
    refine wpAnyH_done (by kernel_rfl) ?_ _
    repeat' (first | go_step3 | go_skip | go_guarded | go_step | go_upon)
    (try simp only [Exit.noGoto_ret, Exit.inBlock, Exit.then])
    go_ret
    exact ⟨rfl, hHeld⟩
  · clear h45 h95 h46 hcc hc
    go_enter Tryz.func64, Tryz.ntmps64
    go_wp2_with go_step3
    refine (HB.out _).mono ?_
    rintro e w1 ⟨rfl, rfl⟩
    go_wp2_with go_step3
    refine wp_loop_rounds 1 ?_
    refine Eq.mpr (rounds_succ (n := 0)) ?_
    repeat' (first | go_step3 | go_skip | go_guarded | go_step | go_upon)
    (try rw [Exit.noGoto_ret])
    go_ret
    exact ⟨rfl, bl_refl _⟩

/-- Is it one of '-', '_', '.'? -/
def dotR (r : Int) : Bool := decide (r = 45 ∨ r = 95 ∨ r = 46)
theorem dot_low {r : Int} (h0 : 0 ≤ r) (h1 : r < 128) : decide (0 ≤ Lib.indexByte [45, 95, 46] r.toNat.toUInt8) = dotR r := by
  have hb : r.toNat.toUInt8.toNat = r.toNat := by simp; omega
  have key : ∀ k : Nat, k < 128 → ((k.toUInt8 : UInt8) = r.toNat.toUInt8 ↔ (k : Int) = r) := fun k hk => by
    constructor
    · intro e
      have e2 := congrArg UInt8.toNat e
      rw [hb] at e2
      simp at e2
      omega
    · intro e; rw [← e]; simp
  have k1 := key 45 (by omega)
  have k2 := key 95 (by omega)
  have k3 := key 46 (by omega)
  unfold dotR Lib.indexByte Lib.indexByte Lib.indexByte Lib.indexByte
  by_cases e1 : r = 45
  · subst e1; decide
  · have n1 : ¬ (45 : UInt8) = r.toNat.toUInt8 := fun e => e1 (k1.1 e).symm
    by_cases e2 : r = 95
    · subst e2; decide
    · have n2 : ¬ (95 : UInt8) = r.toNat.toUInt8 := fun e => e2 (k2.1 e).symm
      by_cases e3 : r = 46
      · subst e3; decide
      · have n3 : ¬ (46 : UInt8) = r.toNat.toUInt8 := fun e => e3 (k3.1 e).symm
        simp [n1, n2, n3, e1, e2, e3]
set_option maxHeartbeats 2000000 in
set_option maxRecDepth 100000 in
theorem crune (r : Int) (w : World) (h0 : 0 ≤ r) : Calls Tryz.prog 42 #[.string ⟨#[45, 95, 46]⟩, .int .i32 r] w fun e w' => e = .returned (.bool (dotR r)) ∧ Below w.heap.size w w' := by
  have hi : ∃ I, decide (0 ≤ I) = dotR r ∧ ∀ w, Calls Tryz.prog 64 #[.string ⟨#[45, 95, 46]⟩, .int .i32 r] w fun e w' => e = .returned (.int .i64 I) ∧ Below w.heap.size w w' := by
    by_cases h1 : r < 128
    · exact ⟨_, dot_low h0 h1, fun w => irune_low r w h0 h1⟩
    · have hd : decide ((0 : Int) ≤ -1) = dotR r := by unfold dotR; rw [decide_eq_false (by omega), decide_eq_false (by omega)]
      by_cases h2 : r = 65533
      · subst h2; exact ⟨-1, hd, irune_err⟩
      · cases hv : Lib.validRune r
        · exact ⟨-1, hd, fun w => irune_bad r w h1 h2 hv⟩
        · exact ⟨-1, hd, fun w => irune_high r w h1 h2 hv⟩
  obtain ⟨I, hI, hc⟩ := hi
  have HC := Go.Lib.hid hc
  clear hc
  go_enter Tryz.func42, Tryz.ntmps42
  go_wp2_with fail
  refine (HC.out _).mono ?_
  rintro e w1 ⟨rfl, hb⟩
  go_wp2_with fail
  go_ret
  exact ⟨by first | rfl | exact congrArg (fun x => Ending.returned (.bool x)) hI, hb⟩
/-- A rune that may not stand in a name. -/
def oddR (x : Nat) : Bool := (decide ((x : Int) < 97) || decide (122 < (x : Int))) && (decide ((x : Int) < 65) || decide (90 < (x : Int))) && (decide ((x : Int) < 48) || decide (57 < (x : Int))) && !dotR x
set_option maxHeartbeats 2000000 in
set_option maxRecDepth 100000 in
theorem odd_any (x : Nat) (w : World) : Calls Tryz.prog 41 #[.int .i32 (x : Int)] w fun e w' => e = .returned (.bool (oddR x)) ∧ Below w.heap.size w w' := by
  have hc := fun w => crune (x : Int) w (by omega)
  unfold oddR
  generalize dotR (x : Int) = D at *
  generalize (x : Int) = r at *
  have HC := Go.Lib.hid hc
  clear hc
  obtain ⟨g1, h1⟩ : ∃ g, decide (r < 97) = g := ⟨_, rfl⟩
  obtain ⟨g2, h2⟩ : ∃ g, decide (122 < r) = g := ⟨_, rfl⟩
  obtain ⟨g3, h3⟩ : ∃ g, decide (r < 65) = g := ⟨_, rfl⟩
  obtain ⟨g4, h4⟩ : ∃ g, decide (90 < r) = g := ⟨_, rfl⟩
  obtain ⟨g5, h5⟩ : ∃ g, decide (r < 48) = g := ⟨_, rfl⟩
  obtain ⟨g6, h6⟩ : ∃ g, decide (57 < r) = g := ⟨_, rfl⟩
  rw [h1, h2, h3, h4, h5, h6]
  cases g1 <;> cases g2 <;> cases g3 <;> cases g4 <;> cases g5 <;> cases g6 <;> (try (exfalso; simp only [decide_eq_true_eq, decide_eq_false_iff_not] at h1 h2 h3 h4 h5 h6; omega))
  all_goals
    go_enter Tryz.func41, Tryz.ntmps41
    go_wp2_with fail
    first
      | (go_ret; exact ⟨by simp, bl_refl _⟩)
      | (refine (HC.out _).mono ?_
         rintro e w1 ⟨rfl, hb⟩
         go_wp2_with fail
         go_ret
         exact ⟨by simp, hb⟩)
/-- May a name be? -/
def namedS (s : ByteArray) : Bool := !s.toList.isEmpty && decide ((s.size : Int) ≤ 40) && !decide (0 ≤ Lib.idxFunc oddR true s)
def namedB (k : Key) : Bool := namedS ⟨k.toArray⟩
theorem namedB_s (s : ByteArray) : namedB s.data.toList = namedS s := by unfold namedB; simp
set_option maxHeartbeats 2000000 in
set_option maxRecDepth 100000 in
theorem named_any (s : ByteArray) (hs : s.size ≤ maxLen) (w : World) : Calls Tryz.prog 20 #[.string s] w fun e w' => e = .returned (.bool (namedB s.data.toList)) ∧ Below w.heap.size w w' := by
  have hc := fun w => Any.strings_ContainsFunc_grows (P := Tryz.prog) (ρ := Tryz.contL_ren) { Tryz.contL with } 41 #[] (enters_of Tryz.func41 (by kernel_rfl) rfl) oddR s w (fun W x hx hb => odd_any x W)
  rw [namedB_s]
  unfold namedS
  generalize decide (0 ≤ Lib.idxFunc oddR true s) = C at *
  have HC := Go.Lib.hid hc
  have hsz : (s.size : Int) ≤ 9223372036854775807 := by unfold maxLen at hs; omega
  clear hc hs
  obtain ⟨e, he⟩ : ∃ e, s.toList.isEmpty = e := ⟨_, rfl⟩
  obtain ⟨g, hg⟩ : ∃ g, decide ((s.size : Int) ≤ 40) = g := ⟨_, rfl⟩
  rw [he, hg]
  cases e <;> cases g
  all_goals
    go_enter Tryz.func20, Tryz.ntmps20
    go_wp2_with fail
    first
      | (go_ret; exact ⟨by simp, bl_refl _⟩)
      | (refine (HC.out _).mono ?_
         rintro e w1 ⟨rfl, hb⟩
         go_wp2_with fail
         go_ret
         exact ⟨by simp, hb⟩)
end Go.Proofs.YtcfdcianpicbmaaGreat

namespace Go.Proofs.YtcfdcianpicbmaaGreat
open Go.RowKit
set_option linter.unusedVariables false
set_option linter.unusedSimpArgs false

set_option maxHeartbeats 1000000 in
set_option maxRecDepth 100000 in
theorem lcheck_any (p : Pol) (w : World) : Calls Tryz.prog 54 #[p.v] w fun e w' => e = .returned (.int .i64 (chkP p)) ∧ Below w.heap.size w w' := by
  have hof := of_any p
  have hkc := kern_check p
  have hme := meth_check
  generalize kern p.kind = KV at *
  generalize chkP p = R at *
  obtain ⟨k, l, d, b, cc, o⟩ := p
  unfold Pol.v at *
  dsimp only at *
  have HOF := Go.Lib.hid hof
  have HKC := Go.Lib.hid hkc
  clear hof hkc
  go_enter Tryz.func54, Tryz.ntmps54
  go_wp2_with fail
  refine wp_abs (S0 := fun w' => w'.cell? ⟨w.heap.size, 0, none⟩ = some (.int .i64 k) ∧ w'.cell? ⟨w.heap.size, 1, none⟩ = some (.int .i64 l) ∧ w'.cell? ⟨w.heap.size, 2, none⟩ = some (.int .i64 d) ∧ w'.cell? ⟨w.heap.size, 3, none⟩ = some (.int .i64 b) ∧ w'.cell? ⟨w.heap.size, 4, none⟩ = some (.int .i64 cc) ∧ w'.cell? ⟨w.heap.size, 5, none⟩ = some (.bool o) ∧ Below w.heap.size w w') ⟨by go_simp, by go_simp, by go_simp, by go_simp, by go_simp, by go_simp, bl_alloc (bl_refl _) _⟩ ?_
  rintro W ⟨c0, c1, c2, c3, c4, c5, hB⟩
  refine wp_region_held_drew (S := fun w' => w'.cell? ⟨w.heap.size, 0, none⟩ = some (.int .i64 k) ∧ w'.cell? ⟨w.heap.size, 1, none⟩ = some (.int .i64 l) ∧ w'.cell? ⟨w.heap.size, 2, none⟩ = some (.int .i64 d) ∧ w'.cell? ⟨w.heap.size, 3, none⟩ = some (.int .i64 b) ∧ w'.cell? ⟨w.heap.size, 4, none⟩ = some (.int .i64 cc) ∧ w'.cell? ⟨w.heap.size, 5, none⟩ = some (.bool o) ∧ Below w.heap.size w w') (by kernel_rfl) ?_ (fun hHeld => ?_)
  · exact ⟨c0, c1, c2, c3, c4, c5, bl_drew hB⟩
  try simp only [Act.put, List.setIfInBounds_toArray, List.set_cons_zero, List.set_cons_succ]
  all_goals ((refine tk (i := 0) rfl rfl hHeld ?_))
  all_goals ((refine tk (i := 2) rfl rfl hHeld ?_))
  all_goals ((refine callH (i := 1) rfl hHeld (fun W hW K hK => ?_); clear hHeld; (try dsimp only at hW); go_simp; refine (HOF.out _).mono ?_; rintro e w1 ⟨rfl, hb⟩; go_wp2_with fail; refine hK.out _ _ ?_ (fun hHeld => ?_); (focus ((try dsimp only); (obtain ⟨h0, h1, h2, h3, h4, h5, hB'⟩ := hW; exact ⟨bl_cell hb h0, bl_cell hb h1, bl_cell hb h2, bl_cell hb h3, bl_cell hb h4, bl_cell hb h5, bl_then hB' hb⟩))); clear hK K; try simp only [Act.put, List.setIfInBounds_toArray, List.set_cons_zero, List.set_cons_succ]))
  all_goals ((refine callH (i := 3) rfl hHeld (fun W hW K hK => ?_); clear hHeld; (try dsimp only at hW); go_simp; refine (HKC.out _).mono ?_; rintro e w1 ⟨rfl, hb⟩; go_wp2_with fail; refine hK.out _ _ ?_ (fun hHeld => ?_); (focus ((try dsimp only); (obtain ⟨h0, h1, h2, h3, h4, h5, hB'⟩ := hW; exact ⟨bl_cell hb h0, bl_cell hb h1, bl_cell hb h2, bl_cell hb h3, bl_cell hb h4, bl_cell hb h5, bl_then hB' hb⟩))); clear hK K; try simp only [Act.put, List.setIfInBounds_toArray, List.set_cons_zero, List.set_cons_succ]))
  all_goals ((refine tk (i := 4) rfl rfl hHeld ?_))
  all_goals (refine wpAnyH_done (by kernel_rfl) ?_ _)
  obtain ⟨-, -, -, -, -, -, hE⟩ := hHeld
  repeat' (first | go_skip | go_guarded | go_step | go_upon)
  go_ret
  exact ⟨rfl, hE⟩
end Go.Proofs.YtcfdcianpicbmaaGreat

namespace Go.Proofs.YtcfdcianpicbmaaGreat
open Go.RowKit Go.Maps
set_option linter.unusedVariables false
set_option linter.unusedSimpArgs false

set_option maxHeartbeats 2000000 in
set_option maxRecDepth 100000 in
theorem drop_book {v mb : Nat} {b : Bk} (s : ByteArray) (hs : s.size ≤ maxLen) (w : World) (h : BookAt w v mb b) : Calls Tryz.prog 36 #[.pointer (some ⟨v, 0, none⟩), .string s] w fun e w' =>
    e = .returned (.bool (bIs b s.data.toList)) ∧ BkTo w v mb (dropB b s.data.toList) w' := by
  have hg := get_book s hs w h
  have hsame : bIs b s.data.toList = false → dropB b s.data.toList = b := fun hi => by
    unfold dropB
    rw [sDel_of_none (by unfold bIs at hi; simpa using hi)]
  have law : Keyed Tryz.prog 9 := string_keyed Tryz.underlying9
  have hkey := WideMaps.keyOf_string_mk Tryz.underlying9 hs
  have hl := fun D w b n (hw : World.ownsMap w Tryz.prog 9 heldRd b n D) => hw
  generalize hI : bIs b s.data.toList = I at *
  generalize bGet b s.data.toList = G at *
  obtain ⟨⟨k, l, d, bb, cc, o⟩, n⟩ := G
  unfold Pol.v at hg
  dsimp only at hg
  have HG := Go.Lib.hid hg
  have HB := Go.Lib.hid h
  have HS := Go.Lib.hid hsame
  clear hg h hs hsame hI hl
  cases I
  · rw [HS.out rfl]
    go_enter Tryz.func36, Tryz.ntmps36
    go_wp2_with fail
    refine (HG.out).mono ?_
    rintro e w1 ⟨rfl, hb⟩
    go_wp2_with fail
    go_ret
    exact ⟨rfl, bk_same HB.out (bl_alloc hb _)⟩
  · clear HS
    go_enter Tryz.func36, Tryz.ntmps36
    go_wp2_with fail
    refine (HG.out).mono ?_
    rintro e w1 ⟨rfl, hb⟩
    have hk := book_bl HB.out (bl_alloc hb (.cells #[.int .i64 k, .int .i64 l, .int .i64 d, .int .i64 bb, .int .i64 cc, .bool o] 33))
    have hlt := (book_bl HB.out hb).lt.1
    obtain ⟨c0, -⟩ := (book_bl HB.out hb).cells
    have hown := hk.own
    have hbl := bl_alloc hb (.cells #[.int .i64 k, .int .i64 l, .int .i64 d, .int .i64 bb, .int .i64 cc, .bool o] 33)
    have HK := Go.Lib.hid hk
    have HBL := Go.Lib.hid hbl
    clear hk hb hbl HG
    go_wp2_with (at_delete; refine wpList_delete_own _ rfl _ _ 75 9 rfl 82 law Tryz.underlying75 _ mb b.1.length _ rfl hown _ _ rfl hkey ?_; intro w2 hown2 hturn2)
    go_ret
    rw [sD_del] at hown2
    have hgr := hturn2.grown
    refine ⟨rfl, ⟨(hgr.block v HK.out.lt.1 (by simpa using HK.out.ne)).trans HK.out.head, own_tight hown2⟩, (Only.of_below HBL.out).trans (Only.of_grown hgr (.inr rfl))⟩
theorem pol_eql (p q : Pol) (w : World) : (binOp .eql 33 (.agg #[.int .i64 p.kind, .int .i64 p.limit, .int .i64 p.period, .int .i64 p.burst, .int .i64 p.cap, .bool p.opn]) (.agg #[.int .i64 q.kind, .int .i64 q.limit, .int .i64 q.period, .int .i64 q.burst, .int .i64 q.cap, .bool q.opn])).run Tryz.prog w = .ok (.bool (decide (p = q))) w := by
  have e : decide (p = q) = (decide (p.kind = q.kind) && (decide (p.limit = q.limit) && (decide (p.period = q.period) && (decide (p.burst = q.burst) && (decide (p.cap = q.cap) && decide (p.opn = q.opn)))))) := by
    obtain ⟨a1, a2, a3, a4, a5, a6⟩ := p
    obtain ⟨b1, b2, b3, b4, b5, b6⟩ := q
    rw [Bool.eq_iff_iff]
    simp
  rw [e]
  simp [go_sem, Op.equal]
  repeat' split
  all_goals simp_all
set_option maxHeartbeats 2000000 in
set_option maxRecDepth 100000 in
theorem blay_named {v mb : Nat} {b : Bk} (s : ByteArray) (hs : s.size ≤ maxLen) (p : Pol) (w : World) (h : BookAt w v mb b) (hN : namedB s.data.toList = false) : Calls Tryz.prog 31 #[.pointer (some ⟨v, 0, none⟩), .string s, p.v] w fun e w' =>
    e = .returned (.tuple #[.int .i64 0, .int .i64 2]) ∧ BkTo w v mb b w' := by
  have hl := look_entry (book_bl h (bl_alloc (bl_refl w) (.cells #[.int .i64 p.kind, .int .i64 p.limit, .int .i64 p.period, .int .i64 p.burst, .int .i64 p.cap, .bool p.opn] 33))) s hs
  have hn := fun w => named_any s hs w
  have hc := fun w => lcheck_any p w
  have hlt := h.lt.1
  obtain ⟨c0, c1⟩ := h.cells
  rw [hN] at hn
  generalize bIs b s.data.toList = I at *
  generalize bGet b s.data.toList = G at *
  unfold eV at hl
  unfold Pol.v at *
  (try dsimp only at *)
  have HN := Go.Lib.hid hn
  have HC := Go.Lib.hid hc
  have HB := Go.Lib.hid h
  clear hn hc h
  go_enter Tryz.func31, Tryz.ntmps31
  go_wp2_with go_step3
  refine (HN.out _).mono ?_
  rintro e w1 ⟨rfl, hb⟩
  have hx : Below w.heap.size w w1 := bl_then (bl_alloc (bl_alloc (bl_refl _) _) _) hb
  have hsz1 : w.heap.size + 2 ≤ w1.heap.size := by have h := hb.size; (try simp at h); omega
  have p0 := bl_cell (v := .int .i64 p.kind) hb (show World.cell? _ ⟨w.heap.size, 0, none⟩ = _ by go_simp)
  have p1 := bl_cell (v := .int .i64 p.limit) hb (show World.cell? _ ⟨w.heap.size, 1, none⟩ = _ by go_simp)
  have p2 := bl_cell (v := .int .i64 p.period) hb (show World.cell? _ ⟨w.heap.size, 2, none⟩ = _ by go_simp)
  have p3 := bl_cell (v := .int .i64 p.burst) hb (show World.cell? _ ⟨w.heap.size, 3, none⟩ = _ by go_simp)
  have p4 := bl_cell (v := .int .i64 p.cap) hb (show World.cell? _ ⟨w.heap.size, 4, none⟩ = _ by go_simp)
  have p5 := bl_cell (v := .bool p.opn) hb (show World.cell? _ ⟨w.heap.size, 5, none⟩ = _ by go_simp)
  have x0 := bl_cell (v := .int .i64 G.1.kind) hb (show World.cell? _ ⟨w.heap.size + 1, 0, none⟩ = _ by go_simp)
  have x1 := bl_cell (v := .int .i64 G.1.limit) hb (show World.cell? _ ⟨w.heap.size + 1, 1, none⟩ = _ by go_simp)
  have x2 := bl_cell (v := .int .i64 G.1.period) hb (show World.cell? _ ⟨w.heap.size + 1, 2, none⟩ = _ by go_simp)
  have x3 := bl_cell (v := .int .i64 G.1.burst) hb (show World.cell? _ ⟨w.heap.size + 1, 3, none⟩ = _ by go_simp)
  have x4 := bl_cell (v := .int .i64 G.1.cap) hb (show World.cell? _ ⟨w.heap.size + 1, 4, none⟩ = _ by go_simp)
  have x5 := bl_cell (v := .bool G.1.opn) hb (show World.cell? _ ⟨w.heap.size + 1, 5, none⟩ = _ by go_simp)
  have x6 := bl_cell (v := .int .i64 G.2) hb (show World.cell? _ ⟨w.heap.size + 1, 6, none⟩ = _ by go_simp)
  have hB : Below w.heap.size w w1 := hx
  have lb_p := World.block_lt_of_cell? w1 _ p0
  dsimp only at lb_p
  have lb_x := World.block_lt_of_cell? w1 _ x0
  dsimp only at lb_x
  clear hb hx
  go_wp2_with go_step3
  go_ret2
  exact ⟨rfl, bk_same HB.out hB⟩
set_option maxHeartbeats 2000000 in
set_option maxRecDepth 100000 in
theorem blay_check {v mb : Nat} {b : Bk} (s : ByteArray) (hs : s.size ≤ maxLen) (p : Pol) (w : World) (h : BookAt w v mb b) (hN : namedB s.data.toList = true) (hC : chkP p ≠ 0) : Calls Tryz.prog 31 #[.pointer (some ⟨v, 0, none⟩), .string s, p.v] w fun e w' =>
    e = .returned (.tuple #[.int .i64 0, .int .i64 2]) ∧ BkTo w v mb b w' := by
  have hl := look_entry (book_bl h (bl_alloc (bl_refl w) (.cells #[.int .i64 p.kind, .int .i64 p.limit, .int .i64 p.period, .int .i64 p.burst, .int .i64 p.cap, .bool p.opn] 33))) s hs
  have hn := fun w => named_any s hs w
  have hc := fun w => lcheck_any p w
  have hlt := h.lt.1
  obtain ⟨c0, c1⟩ := h.cells
  rw [hN] at hn
  generalize chkP p = C at *
  have hC2 : (C == 0) = false := by simpa using hC
  generalize bIs b s.data.toList = I at *
  generalize bGet b s.data.toList = G at *
  unfold eV at hl
  unfold Pol.v at *
  (try dsimp only at *)
  have HN := Go.Lib.hid hn
  have HC := Go.Lib.hid hc
  have HB := Go.Lib.hid h
  clear hn hc h
  go_enter Tryz.func31, Tryz.ntmps31
  go_wp2_with go_step3
  refine (HN.out _).mono ?_
  rintro e w1 ⟨rfl, hb⟩
  have hx : Below w.heap.size w w1 := bl_then (bl_alloc (bl_alloc (bl_refl _) _) _) hb
  have hsz1 : w.heap.size + 2 ≤ w1.heap.size := by have h := hb.size; (try simp at h); omega
  have p0 := bl_cell (v := .int .i64 p.kind) hb (show World.cell? _ ⟨w.heap.size, 0, none⟩ = _ by go_simp)
  have p1 := bl_cell (v := .int .i64 p.limit) hb (show World.cell? _ ⟨w.heap.size, 1, none⟩ = _ by go_simp)
  have p2 := bl_cell (v := .int .i64 p.period) hb (show World.cell? _ ⟨w.heap.size, 2, none⟩ = _ by go_simp)
  have p3 := bl_cell (v := .int .i64 p.burst) hb (show World.cell? _ ⟨w.heap.size, 3, none⟩ = _ by go_simp)
  have p4 := bl_cell (v := .int .i64 p.cap) hb (show World.cell? _ ⟨w.heap.size, 4, none⟩ = _ by go_simp)
  have p5 := bl_cell (v := .bool p.opn) hb (show World.cell? _ ⟨w.heap.size, 5, none⟩ = _ by go_simp)
  have x0 := bl_cell (v := .int .i64 G.1.kind) hb (show World.cell? _ ⟨w.heap.size + 1, 0, none⟩ = _ by go_simp)
  have x1 := bl_cell (v := .int .i64 G.1.limit) hb (show World.cell? _ ⟨w.heap.size + 1, 1, none⟩ = _ by go_simp)
  have x2 := bl_cell (v := .int .i64 G.1.period) hb (show World.cell? _ ⟨w.heap.size + 1, 2, none⟩ = _ by go_simp)
  have x3 := bl_cell (v := .int .i64 G.1.burst) hb (show World.cell? _ ⟨w.heap.size + 1, 3, none⟩ = _ by go_simp)
  have x4 := bl_cell (v := .int .i64 G.1.cap) hb (show World.cell? _ ⟨w.heap.size + 1, 4, none⟩ = _ by go_simp)
  have x5 := bl_cell (v := .bool G.1.opn) hb (show World.cell? _ ⟨w.heap.size + 1, 5, none⟩ = _ by go_simp)
  have x6 := bl_cell (v := .int .i64 G.2) hb (show World.cell? _ ⟨w.heap.size + 1, 6, none⟩ = _ by go_simp)
  have hB : Below w.heap.size w w1 := hx
  have lb_p := World.block_lt_of_cell? w1 _ p0
  dsimp only at lb_p
  have lb_x := World.block_lt_of_cell? w1 _ x0
  dsimp only at lb_x
  clear hb hx
  go_wp2_with go_step3
  refine (HC.out _).mono ?_
  rintro e w2 ⟨rfl, hb⟩
  have hsz2 : w1.heap.size + 0 ≤ w2.heap.size := by have h := hb.size; (try simp at h); omega
  replace p0 := bl_cell hb p0
  replace p1 := bl_cell hb p1
  replace p2 := bl_cell hb p2
  replace p3 := bl_cell hb p3
  replace p4 := bl_cell hb p4
  replace p5 := bl_cell hb p5
  replace x0 := bl_cell hb x0
  replace x1 := bl_cell hb x1
  replace x2 := bl_cell hb x2
  replace x3 := bl_cell hb x3
  replace x4 := bl_cell hb x4
  replace x5 := bl_cell hb x5
  replace x6 := bl_cell hb x6
  replace hB : Below w.heap.size w w2 := bl_then hB hb
  replace lb_p := World.block_lt_of_cell? w2 _ p0
  dsimp only at lb_p
  replace lb_x := World.block_lt_of_cell? w2 _ x0
  dsimp only at lb_x
  clear hb
  go_wp2_with go_step3
  go_ret2
  exact ⟨rfl, bk_same HB.out hB⟩
set_option maxHeartbeats 2000000 in
set_option maxRecDepth 100000 in
theorem blay_full {v mb : Nat} {b : Bk} (s : ByteArray) (hs : s.size ≤ maxLen) (p : Pol) (w : World) (h : BookAt w v mb b) (hN : namedB s.data.toList = true) (hC : chkP p = 0) (hI : bIs b s.data.toList = false) (hF : 100 ≤ b.1.length) : Calls Tryz.prog 31 #[.pointer (some ⟨v, 0, none⟩), .string s, p.v] w fun e w' =>
    e = .returned (.tuple #[.int .i64 0, .int .i64 5]) ∧ BkTo w v mb b w' := by
  have hl := look_entry (book_bl h (bl_alloc (bl_refl w) (.cells #[.int .i64 p.kind, .int .i64 p.limit, .int .i64 p.period, .int .i64 p.burst, .int .i64 p.cap, .bool p.opn] 33))) s hs
  have hn := fun w => named_any s hs w
  have hc := fun w => lcheck_any p w
  have hlt := h.lt.1
  obtain ⟨c0, c1⟩ := h.cells
  rw [hN] at hn
  rw [hC] at hc
  rw [hI] at hl
  have hlen := fun (W : World) (hW : BookAt W v mb b) => run_len_map hW.own Tryz.underlying75 3
  have hF2 : decide ((100 : Int) ≤ (b.1.length : Int)) = true := decide_eq_true (by omega)
  generalize bGet b s.data.toList = G at *
  unfold eV at hl
  unfold Pol.v at *
  (try dsimp only at *)
  have HN := Go.Lib.hid hn
  have HC := Go.Lib.hid hc
  have HB := Go.Lib.hid h
  clear hn hc h
  go_enter Tryz.func31, Tryz.ntmps31
  go_wp2_with go_step3
  refine (HN.out _).mono ?_
  rintro e w1 ⟨rfl, hb⟩
  have hx : Below w.heap.size w w1 := bl_then (bl_alloc (bl_alloc (bl_refl _) _) _) hb
  have hsz1 : w.heap.size + 2 ≤ w1.heap.size := by have h := hb.size; (try simp at h); omega
  have p0 := bl_cell (v := .int .i64 p.kind) hb (show World.cell? _ ⟨w.heap.size, 0, none⟩ = _ by go_simp)
  have p1 := bl_cell (v := .int .i64 p.limit) hb (show World.cell? _ ⟨w.heap.size, 1, none⟩ = _ by go_simp)
  have p2 := bl_cell (v := .int .i64 p.period) hb (show World.cell? _ ⟨w.heap.size, 2, none⟩ = _ by go_simp)
  have p3 := bl_cell (v := .int .i64 p.burst) hb (show World.cell? _ ⟨w.heap.size, 3, none⟩ = _ by go_simp)
  have p4 := bl_cell (v := .int .i64 p.cap) hb (show World.cell? _ ⟨w.heap.size, 4, none⟩ = _ by go_simp)
  have p5 := bl_cell (v := .bool p.opn) hb (show World.cell? _ ⟨w.heap.size, 5, none⟩ = _ by go_simp)
  have x0 := bl_cell (v := .int .i64 G.1.kind) hb (show World.cell? _ ⟨w.heap.size + 1, 0, none⟩ = _ by go_simp)
  have x1 := bl_cell (v := .int .i64 G.1.limit) hb (show World.cell? _ ⟨w.heap.size + 1, 1, none⟩ = _ by go_simp)
  have x2 := bl_cell (v := .int .i64 G.1.period) hb (show World.cell? _ ⟨w.heap.size + 1, 2, none⟩ = _ by go_simp)
  have x3 := bl_cell (v := .int .i64 G.1.burst) hb (show World.cell? _ ⟨w.heap.size + 1, 3, none⟩ = _ by go_simp)
  have x4 := bl_cell (v := .int .i64 G.1.cap) hb (show World.cell? _ ⟨w.heap.size + 1, 4, none⟩ = _ by go_simp)
  have x5 := bl_cell (v := .bool G.1.opn) hb (show World.cell? _ ⟨w.heap.size + 1, 5, none⟩ = _ by go_simp)
  have x6 := bl_cell (v := .int .i64 G.2) hb (show World.cell? _ ⟨w.heap.size + 1, 6, none⟩ = _ by go_simp)
  have hB : Below w.heap.size w w1 := hx
  have lb_p := World.block_lt_of_cell? w1 _ p0
  dsimp only at lb_p
  have lb_x := World.block_lt_of_cell? w1 _ x0
  dsimp only at lb_x
  clear hb hx
  go_wp2_with go_step3
  refine (HC.out _).mono ?_
  rintro e w2 ⟨rfl, hb⟩
  have hsz2 : w1.heap.size + 0 ≤ w2.heap.size := by have h := hb.size; (try simp at h); omega
  replace p0 := bl_cell hb p0
  replace p1 := bl_cell hb p1
  replace p2 := bl_cell hb p2
  replace p3 := bl_cell hb p3
  replace p4 := bl_cell hb p4
  replace p5 := bl_cell hb p5
  replace x0 := bl_cell hb x0
  replace x1 := bl_cell hb x1
  replace x2 := bl_cell hb x2
  replace x3 := bl_cell hb x3
  replace x4 := bl_cell hb x4
  replace x5 := bl_cell hb x5
  replace x6 := bl_cell hb x6
  replace hB : Below w.heap.size w w2 := bl_then hB hb
  replace lb_p := World.block_lt_of_cell? w2 _ p0
  dsimp only at lb_p
  replace lb_x := World.block_lt_of_cell? w2 _ x0
  dsimp only at lb_x
  clear hb
  have hbk := book_bl HB.out hB
  obtain ⟨d0, d1⟩ := hbk.cells
  replace hlen := hlen _ hbk
  clear hbk
  go_wp2_with go_step3
  go_ret2
  exact ⟨rfl, bk_same HB.out hB⟩
set_option maxHeartbeats 2000000 in
set_option maxRecDepth 100000 in
theorem blay_same {v mb : Nat} {b : Bk} (s : ByteArray) (hs : s.size ≤ maxLen) (p : Pol) (w : World) (h : BookAt w v mb b) (hN : namedB s.data.toList = true) (hC : chkP p = 0) (hS : bSame b s.data.toList p = true) : Calls Tryz.prog 31 #[.pointer (some ⟨v, 0, none⟩), .string s, p.v] w fun e w' =>
    e = .returned (.tuple #[.int .i64 (bGet b s.data.toList).2, .int .i64 0]) ∧ Below w.heap.size w w' := by
  have hl := look_entry (book_bl h (bl_alloc (bl_refl w) (.cells #[.int .i64 p.kind, .int .i64 p.limit, .int .i64 p.period, .int .i64 p.burst, .int .i64 p.cap, .bool p.opn] 33))) s hs
  have hn := fun w => named_any s hs w
  have hc := fun w => lcheck_any p w
  have hlt := h.lt.1
  obtain ⟨c0, c1⟩ := h.cells
  rw [hN] at hn
  rw [hC] at hc
  unfold bSame at hS
  simp only [Bool.and_eq_true, decide_eq_true_eq] at hS
  obtain ⟨hI, hG⟩ := hS
  rw [hI] at hl
  generalize bGet b s.data.toList = G at *
  have heq := pol_eql G.1 p
  rw [decide_eq_true hG] at heq
  clear hG
  unfold eV at hl
  unfold Pol.v at *
  (try dsimp only at *)
  have HN := Go.Lib.hid hn
  have HC := Go.Lib.hid hc
  have HB := Go.Lib.hid h
  clear hn hc h
  go_enter Tryz.func31, Tryz.ntmps31
  go_wp2_with go_step3
  refine (HN.out _).mono ?_
  rintro e w1 ⟨rfl, hb⟩
  have hx : Below w.heap.size w w1 := bl_then (bl_alloc (bl_alloc (bl_refl _) _) _) hb
  have hsz1 : w.heap.size + 2 ≤ w1.heap.size := by have h := hb.size; (try simp at h); omega
  have p0 := bl_cell (v := .int .i64 p.kind) hb (show World.cell? _ ⟨w.heap.size, 0, none⟩ = _ by go_simp)
  have p1 := bl_cell (v := .int .i64 p.limit) hb (show World.cell? _ ⟨w.heap.size, 1, none⟩ = _ by go_simp)
  have p2 := bl_cell (v := .int .i64 p.period) hb (show World.cell? _ ⟨w.heap.size, 2, none⟩ = _ by go_simp)
  have p3 := bl_cell (v := .int .i64 p.burst) hb (show World.cell? _ ⟨w.heap.size, 3, none⟩ = _ by go_simp)
  have p4 := bl_cell (v := .int .i64 p.cap) hb (show World.cell? _ ⟨w.heap.size, 4, none⟩ = _ by go_simp)
  have p5 := bl_cell (v := .bool p.opn) hb (show World.cell? _ ⟨w.heap.size, 5, none⟩ = _ by go_simp)
  have x0 := bl_cell (v := .int .i64 G.1.kind) hb (show World.cell? _ ⟨w.heap.size + 1, 0, none⟩ = _ by go_simp)
  have x1 := bl_cell (v := .int .i64 G.1.limit) hb (show World.cell? _ ⟨w.heap.size + 1, 1, none⟩ = _ by go_simp)
  have x2 := bl_cell (v := .int .i64 G.1.period) hb (show World.cell? _ ⟨w.heap.size + 1, 2, none⟩ = _ by go_simp)
  have x3 := bl_cell (v := .int .i64 G.1.burst) hb (show World.cell? _ ⟨w.heap.size + 1, 3, none⟩ = _ by go_simp)
  have x4 := bl_cell (v := .int .i64 G.1.cap) hb (show World.cell? _ ⟨w.heap.size + 1, 4, none⟩ = _ by go_simp)
  have x5 := bl_cell (v := .bool G.1.opn) hb (show World.cell? _ ⟨w.heap.size + 1, 5, none⟩ = _ by go_simp)
  have x6 := bl_cell (v := .int .i64 G.2) hb (show World.cell? _ ⟨w.heap.size + 1, 6, none⟩ = _ by go_simp)
  have hB : Below w.heap.size w w1 := hx
  have lb_p := World.block_lt_of_cell? w1 _ p0
  dsimp only at lb_p
  have lb_x := World.block_lt_of_cell? w1 _ x0
  dsimp only at lb_x
  clear hb hx
  go_wp2_with go_step3
  refine (HC.out _).mono ?_
  rintro e w2 ⟨rfl, hb⟩
  have hsz2 : w1.heap.size + 0 ≤ w2.heap.size := by have h := hb.size; (try simp at h); omega
  replace p0 := bl_cell hb p0
  replace p1 := bl_cell hb p1
  replace p2 := bl_cell hb p2
  replace p3 := bl_cell hb p3
  replace p4 := bl_cell hb p4
  replace p5 := bl_cell hb p5
  replace x0 := bl_cell hb x0
  replace x1 := bl_cell hb x1
  replace x2 := bl_cell hb x2
  replace x3 := bl_cell hb x3
  replace x4 := bl_cell hb x4
  replace x5 := bl_cell hb x5
  replace x6 := bl_cell hb x6
  replace hB : Below w.heap.size w w2 := bl_then hB hb
  replace lb_p := World.block_lt_of_cell? w2 _ p0
  dsimp only at lb_p
  replace lb_x := World.block_lt_of_cell? w2 _ x0
  dsimp only at lb_x
  clear hb
  go_wp2_with go_step3
  go_ret2
  exact ⟨rfl, hB⟩
theorem head_set {w : World} {v : Nat} {a c u : Value} {T : TypeId} (h : w.heap[v]? = some (.cells #[a, c] T (0, 0))) : (w.setCell ⟨v, 1, none⟩ u).heap[v]? = some (.cells #[a, u] T (0, 0)) := by
  simp [World.setCell, Array.getElem?_modify, h]
theorem heap_set_other {w : World} {v i : Nat} {j : Nat} {u : Value} (h : v ≠ i) : (w.setCell ⟨v, j, none⟩ u).heap[i]? = w.heap[i]? := by
  simp [World.setCell, Array.getElem?_modify, h]
set_option maxHeartbeats 2000000 in
set_option maxRecDepth 100000 in
theorem blay_new_false {v mb : Nat} {b : Bk} (s : ByteArray) (hs : s.size ≤ maxLen) (p : Pol) (w : World) (h : BookAt w v mb b) (hN : namedB s.data.toList = true) (hC : chkP p = 0) (hv : 0 ≤ b.2 ∧ b.2 ≤ 1000000) (hlen1 : b.1.length ≤ 100) (hI : bIs b s.data.toList = false) (hF : b.1.length < 100) : Calls Tryz.prog 31 #[.pointer (some ⟨v, 0, none⟩), .string s, p.v] w fun e w' =>
    e = .returned (.tuple #[.int .i64 (b.2 + 1), .int .i64 0]) ∧ BkTo w v mb (sPut s.data.toList (p, b.2 + 1) b.1, b.2 + 1) w' := by
  have hl := look_entry (book_bl h (bl_alloc (bl_refl w) (.cells #[.int .i64 p.kind, .int .i64 p.limit, .int .i64 p.period, .int .i64 p.burst, .int .i64 p.cap, .bool p.opn] 33))) s hs
  have hn := fun w => named_any s hs w
  have hc := fun w => lcheck_any p w
  have hlt := h.lt.1
  obtain ⟨c0, c1⟩ := h.cells
  rw [hN] at hn
  rw [hC] at hc
  rw [hI] at hl
  have law : Keyed Tryz.prog 9 := string_keyed Tryz.underlying9
  have hkey := WideMaps.keyOf_string_mk Tryz.underlying9 hs
  have hvw : IntKind.i64.wrap (b.2 + 1) = b.2 + 1 := IntWalk.i64_in _ (by omega)
  generalize bGet b s.data.toList = G at *
  have hlen := fun (W : World) (hW : BookAt W v mb b) => run_len_map hW.own Tryz.underlying75 3
  have hF2 : decide ((100 : Int) ≤ (b.1.length : Int)) = false := decide_eq_false (by omega)
  have HL1 := Go.Lib.hid hlen1
  clear hlen1
  unfold eV at hl
  unfold Pol.v at *
  (try dsimp only at *)
  have HN := Go.Lib.hid hn
  have HC := Go.Lib.hid hc
  have HB := Go.Lib.hid h
  clear hn hc h
  go_enter Tryz.func31, Tryz.ntmps31
  go_wp2_with go_step3
  refine (HN.out _).mono ?_
  rintro e w1 ⟨rfl, hb⟩
  have hx : Below w.heap.size w w1 := bl_then (bl_alloc (bl_alloc (bl_refl _) _) _) hb
  have hsz1 : w.heap.size + 2 ≤ w1.heap.size := by have h := hb.size; (try simp at h); omega
  have p0 := bl_cell (v := .int .i64 p.kind) hb (show World.cell? _ ⟨w.heap.size, 0, none⟩ = _ by go_simp)
  have p1 := bl_cell (v := .int .i64 p.limit) hb (show World.cell? _ ⟨w.heap.size, 1, none⟩ = _ by go_simp)
  have p2 := bl_cell (v := .int .i64 p.period) hb (show World.cell? _ ⟨w.heap.size, 2, none⟩ = _ by go_simp)
  have p3 := bl_cell (v := .int .i64 p.burst) hb (show World.cell? _ ⟨w.heap.size, 3, none⟩ = _ by go_simp)
  have p4 := bl_cell (v := .int .i64 p.cap) hb (show World.cell? _ ⟨w.heap.size, 4, none⟩ = _ by go_simp)
  have p5 := bl_cell (v := .bool p.opn) hb (show World.cell? _ ⟨w.heap.size, 5, none⟩ = _ by go_simp)
  have x0 := bl_cell (v := .int .i64 G.1.kind) hb (show World.cell? _ ⟨w.heap.size + 1, 0, none⟩ = _ by go_simp)
  have x1 := bl_cell (v := .int .i64 G.1.limit) hb (show World.cell? _ ⟨w.heap.size + 1, 1, none⟩ = _ by go_simp)
  have x2 := bl_cell (v := .int .i64 G.1.period) hb (show World.cell? _ ⟨w.heap.size + 1, 2, none⟩ = _ by go_simp)
  have x3 := bl_cell (v := .int .i64 G.1.burst) hb (show World.cell? _ ⟨w.heap.size + 1, 3, none⟩ = _ by go_simp)
  have x4 := bl_cell (v := .int .i64 G.1.cap) hb (show World.cell? _ ⟨w.heap.size + 1, 4, none⟩ = _ by go_simp)
  have x5 := bl_cell (v := .bool G.1.opn) hb (show World.cell? _ ⟨w.heap.size + 1, 5, none⟩ = _ by go_simp)
  have x6 := bl_cell (v := .int .i64 G.2) hb (show World.cell? _ ⟨w.heap.size + 1, 6, none⟩ = _ by go_simp)
  have hB : Below w.heap.size w w1 := hx
  have lb_p := World.block_lt_of_cell? w1 _ p0
  dsimp only at lb_p
  have lb_x := World.block_lt_of_cell? w1 _ x0
  dsimp only at lb_x
  clear hb hx
  go_wp2_with go_step3
  refine (HC.out _).mono ?_
  rintro e w2 ⟨rfl, hb⟩
  have hsz2 : w1.heap.size + 0 ≤ w2.heap.size := by have h := hb.size; (try simp at h); omega
  replace p0 := bl_cell hb p0
  replace p1 := bl_cell hb p1
  replace p2 := bl_cell hb p2
  replace p3 := bl_cell hb p3
  replace p4 := bl_cell hb p4
  replace p5 := bl_cell hb p5
  replace x0 := bl_cell hb x0
  replace x1 := bl_cell hb x1
  replace x2 := bl_cell hb x2
  replace x3 := bl_cell hb x3
  replace x4 := bl_cell hb x4
  replace x5 := bl_cell hb x5
  replace x6 := bl_cell hb x6
  replace hB : Below w.heap.size w w2 := bl_then hB hb
  replace lb_p := World.block_lt_of_cell? w2 _ p0
  dsimp only at lb_p
  replace lb_x := World.block_lt_of_cell? w2 _ x0
  dsimp only at lb_x
  clear hb
  have hbk := book_bl HB.out hB
  have hvl : v < w.heap.size := hlt
  have hml := HB.out.lt.2
  have hvm := HB.out.ne
  obtain ⟨d0, d1⟩ := hbk.cells
  have fz : w2.frozen? ⟨v, 1, none⟩ = false := by simp [World.frozen?, hbk.head]
  replace hlen := hlen _ hbk
  have HBK := Go.Lib.hid hbk
  clear hbk
  go_wp2_with go_step3
  refine wp_abs (S0 := fun X => (fun w' => w'.cell? ⟨v, 0, none⟩ = some (.map (some mb)) ∧ w'.cell? ⟨v, 1, none⟩ = some (.int .i64 (b.2 + 1)) ∧ w'.cell? ⟨w.heap.size, 0, none⟩ = some (.int .i64 p.kind) ∧ w'.cell? ⟨w.heap.size, 1, none⟩ = some (.int .i64 p.limit) ∧ w'.cell? ⟨w.heap.size, 2, none⟩ = some (.int .i64 p.period) ∧ w'.cell? ⟨w.heap.size, 3, none⟩ = some (.int .i64 p.burst) ∧ w'.cell? ⟨w.heap.size, 4, none⟩ = some (.int .i64 p.cap) ∧ w'.cell? ⟨w.heap.size, 5, none⟩ = some (.bool p.opn) ∧ Only (BF v mb) w w') X ∧ X.heap[v]? = some (.cells #[.map (some mb), .int .i64 (b.2 + 1)] 77 (0, 0)) ∧ X.ownsMap Tryz.prog 9 heldRd mb b.1.length (sD eV b.1)) ⟨⟨?_, ?_, far_set p0 _ _ (by dsimp only; omega), far_set p1 _ _ (by dsimp only; omega), far_set p2 _ _ (by dsimp only; omega), far_set p3 _ _ (by dsimp only; omega), far_set p4 _ _ (by dsimp only; omega), far_set p5 _ _ (by dsimp only; omega), (Only.of_below hB).set (.inl rfl) _⟩, head_set HBK.out.head, own_frame HBK.out.own (heap_set_other hvm)⟩ ?_
  · rw [World.cell?_setCell_other _ _ _ _ (by simp)]; exact d0
  · rw [World.cell?_setCell_same' _ _ _ (by rw [d1]; rfl)]
  clear d0 d1 fz hB p0 p1 p2 p3 p4 p5 x0 x1 x2 x3 x4 x5 x6 HBK
  rintro W ⟨⟨v0, v1, p0, p1, p2, p3, p4, p5, hO⟩, hhd, hown⟩
  refine wp_region_held_drew (S := fun w' => w'.cell? ⟨v, 0, none⟩ = some (.map (some mb)) ∧ w'.cell? ⟨v, 1, none⟩ = some (.int .i64 (b.2 + 1)) ∧ w'.cell? ⟨w.heap.size, 0, none⟩ = some (.int .i64 p.kind) ∧ w'.cell? ⟨w.heap.size, 1, none⟩ = some (.int .i64 p.limit) ∧ w'.cell? ⟨w.heap.size, 2, none⟩ = some (.int .i64 p.period) ∧ w'.cell? ⟨w.heap.size, 3, none⟩ = some (.int .i64 p.burst) ∧ w'.cell? ⟨w.heap.size, 4, none⟩ = some (.int .i64 p.cap) ∧ w'.cell? ⟨w.heap.size, 5, none⟩ = some (.bool p.opn) ∧ Only (BF v mb) w w') (by kernel_rfl) ?_ (fun hHeld => ?_)
  · exact ⟨v0, v1, p0, p1, p2, p3, p4, p5, hO.drew⟩
  try simp only [Act.put, List.setIfInBounds_toArray, List.set_cons_zero, List.set_cons_succ]
  refine wpAnyH_abs (F := fun X => X.heap[v]? = some (.cells #[.map (some mb), .int .i64 (b.2 + 1)] 77 (0, 0)) ∧ X.ownsMap Tryz.prog 9 heldRd mb b.1.length (sD eV b.1)) hHeld ⟨hhd, hown⟩ ?_
  clear hHeld v0 v1 p0 p1 p2 p3 p4 p5 hO hhd hown
  rintro X0 hHeld ⟨hhd, hown⟩
  (refine tk (i := 0) rfl rfl hHeld ?_)
  (refine tk (i := 1) rfl rfl hHeld ?_)
  (refine tk (i := 2) rfl rfl hHeld ?_)
  (refine tk (i := 3) rfl rfl hHeld ?_)
  (refine tk (i := 4) rfl rfl hHeld ?_)
  (refine tk (i := 5) rfl rfl hHeld ?_)
  (refine tk (i := 6) rfl rfl hHeld ?_)
  (refine tk (i := 7) rfl rfl hHeld ?_)
  (refine tk (i := 8) rfl rfl hHeld ?_)
  (refine tk (i := 9) rfl rfl hHeld ?_)
  (refine tk (i := 10) rfl rfl hHeld ?_)
  refine callC (i := 11) rfl (fun K hK => ?_)
  obtain ⟨h0, h1, q0, q1, q2, q3, q4, q5, hO⟩ := (id hHeld)
  obtain ⟨w9, hrun, r1, r2⟩ := hown.update law Tryz.underlying75 (by have := HL1.out; unfold maxLen; omega) hkey (show heldRd (eV (p, b.2 + 1)) = some (.held (eV (p, b.2 + 1)), []) from rfl)
  unfold eV at hrun
  dsimp only at hrun
  have hvX : v < X0.heap.size := (Array.getElem?_eq_some_iff.1 hhd).1
  have hbX := hO.size
  have hfr : ∀ i, i < X0.heap.size → i ≠ mb → w9.heap[i]? = X0.heap[i]? := fun i hi hne => r2.block i hi (by simpa using hne)
  have HFR := Go.Lib.hid hfr
  have HR1 := Go.Lib.hid r1
  have HR2 := Go.Lib.hid r2
  clear hfr r1 r2
  go_simp
  refine hK.out _ _ ?_ (fun hHeld2 => ?_)
  · exact ⟨(World.cell?_of_block (HFR.out v hvX hvm)).trans h0, (World.cell?_of_block (HFR.out v hvX hvm)).trans h1, (World.cell?_of_block (HFR.out _ (World.block_lt_of_cell? _ _ q0) (by dsimp only; omega))).trans q0, (World.cell?_of_block (HFR.out _ (World.block_lt_of_cell? _ _ q1) (by dsimp only; omega))).trans q1, (World.cell?_of_block (HFR.out _ (World.block_lt_of_cell? _ _ q2) (by dsimp only; omega))).trans q2, (World.cell?_of_block (HFR.out _ (World.block_lt_of_cell? _ _ q3) (by dsimp only; omega))).trans q3, (World.cell?_of_block (HFR.out _ (World.block_lt_of_cell? _ _ q4) (by dsimp only; omega))).trans q4, (World.cell?_of_block (HFR.out _ (World.block_lt_of_cell? _ _ q5) (by dsimp only; omega))).trans q5, hO.trans (Only.of_grown HR2.out (.inr rfl))⟩
  clear hHeld hK K
  have hHeld := hHeld2
  clear hHeld2
  have hhd2 := (HFR.out v hvX hvm).trans hhd
  clear h0 h1 q0 q1 q2 q3 q4 q5 hO hhd hown hrun
  try simp only [Act.put, List.setIfInBounds_toArray, List.set_cons_zero, List.set_cons_succ]
  refine wpAnyH_done (by kernel_rfl) ?_ _
  obtain ⟨v0, v1, -, -, -, -, -, -, hE⟩ := hHeld
  repeat' (first | go_step3 | go_skip | go_guarded | go_step | go_upon)
  go_ret2
  have hr1 := HR1.out
  rw [sD_put] at hr1
  exact ⟨rfl, ⟨hhd2, own_tight hr1⟩, hE⟩
set_option maxHeartbeats 2000000 in
set_option maxRecDepth 100000 in
theorem blay_new_true {v mb : Nat} {b : Bk} (s : ByteArray) (hs : s.size ≤ maxLen) (p : Pol) (w : World) (h : BookAt w v mb b) (hN : namedB s.data.toList = true) (hC : chkP p = 0) (hv : 0 ≤ b.2 ∧ b.2 ≤ 1000000) (hlen1 : b.1.length ≤ 100) (hI : bIs b s.data.toList = true) (hG : ¬ (bGet b s.data.toList).1 = p) : Calls Tryz.prog 31 #[.pointer (some ⟨v, 0, none⟩), .string s, p.v] w fun e w' =>
    e = .returned (.tuple #[.int .i64 (b.2 + 1), .int .i64 0]) ∧ BkTo w v mb (sPut s.data.toList (p, b.2 + 1) b.1, b.2 + 1) w' := by
  have hl := look_entry (book_bl h (bl_alloc (bl_refl w) (.cells #[.int .i64 p.kind, .int .i64 p.limit, .int .i64 p.period, .int .i64 p.burst, .int .i64 p.cap, .bool p.opn] 33))) s hs
  have hn := fun w => named_any s hs w
  have hc := fun w => lcheck_any p w
  have hlt := h.lt.1
  obtain ⟨c0, c1⟩ := h.cells
  rw [hN] at hn
  rw [hC] at hc
  rw [hI] at hl
  have law : Keyed Tryz.prog 9 := string_keyed Tryz.underlying9
  have hkey := WideMaps.keyOf_string_mk Tryz.underlying9 hs
  have hvw : IntKind.i64.wrap (b.2 + 1) = b.2 + 1 := IntWalk.i64_in _ (by omega)
  generalize bGet b s.data.toList = G at *
  have heq := pol_eql G.1 p
  rw [decide_eq_false hG] at heq
  clear hG
  have HL1 := Go.Lib.hid hlen1
  clear hlen1
  unfold eV at hl
  unfold Pol.v at *
  (try dsimp only at *)
  have HN := Go.Lib.hid hn
  have HC := Go.Lib.hid hc
  have HB := Go.Lib.hid h
  clear hn hc h
  go_enter Tryz.func31, Tryz.ntmps31
  go_wp2_with go_step3
  refine (HN.out _).mono ?_
  rintro e w1 ⟨rfl, hb⟩
  have hx : Below w.heap.size w w1 := bl_then (bl_alloc (bl_alloc (bl_refl _) _) _) hb
  have hsz1 : w.heap.size + 2 ≤ w1.heap.size := by have h := hb.size; (try simp at h); omega
  have p0 := bl_cell (v := .int .i64 p.kind) hb (show World.cell? _ ⟨w.heap.size, 0, none⟩ = _ by go_simp)
  have p1 := bl_cell (v := .int .i64 p.limit) hb (show World.cell? _ ⟨w.heap.size, 1, none⟩ = _ by go_simp)
  have p2 := bl_cell (v := .int .i64 p.period) hb (show World.cell? _ ⟨w.heap.size, 2, none⟩ = _ by go_simp)
  have p3 := bl_cell (v := .int .i64 p.burst) hb (show World.cell? _ ⟨w.heap.size, 3, none⟩ = _ by go_simp)
  have p4 := bl_cell (v := .int .i64 p.cap) hb (show World.cell? _ ⟨w.heap.size, 4, none⟩ = _ by go_simp)
  have p5 := bl_cell (v := .bool p.opn) hb (show World.cell? _ ⟨w.heap.size, 5, none⟩ = _ by go_simp)
  have x0 := bl_cell (v := .int .i64 G.1.kind) hb (show World.cell? _ ⟨w.heap.size + 1, 0, none⟩ = _ by go_simp)
  have x1 := bl_cell (v := .int .i64 G.1.limit) hb (show World.cell? _ ⟨w.heap.size + 1, 1, none⟩ = _ by go_simp)
  have x2 := bl_cell (v := .int .i64 G.1.period) hb (show World.cell? _ ⟨w.heap.size + 1, 2, none⟩ = _ by go_simp)
  have x3 := bl_cell (v := .int .i64 G.1.burst) hb (show World.cell? _ ⟨w.heap.size + 1, 3, none⟩ = _ by go_simp)
  have x4 := bl_cell (v := .int .i64 G.1.cap) hb (show World.cell? _ ⟨w.heap.size + 1, 4, none⟩ = _ by go_simp)
  have x5 := bl_cell (v := .bool G.1.opn) hb (show World.cell? _ ⟨w.heap.size + 1, 5, none⟩ = _ by go_simp)
  have x6 := bl_cell (v := .int .i64 G.2) hb (show World.cell? _ ⟨w.heap.size + 1, 6, none⟩ = _ by go_simp)
  have hB : Below w.heap.size w w1 := hx
  have lb_p := World.block_lt_of_cell? w1 _ p0
  dsimp only at lb_p
  have lb_x := World.block_lt_of_cell? w1 _ x0
  dsimp only at lb_x
  clear hb hx
  go_wp2_with go_step3
  refine (HC.out _).mono ?_
  rintro e w2 ⟨rfl, hb⟩
  have hsz2 : w1.heap.size + 0 ≤ w2.heap.size := by have h := hb.size; (try simp at h); omega
  replace p0 := bl_cell hb p0
  replace p1 := bl_cell hb p1
  replace p2 := bl_cell hb p2
  replace p3 := bl_cell hb p3
  replace p4 := bl_cell hb p4
  replace p5 := bl_cell hb p5
  replace x0 := bl_cell hb x0
  replace x1 := bl_cell hb x1
  replace x2 := bl_cell hb x2
  replace x3 := bl_cell hb x3
  replace x4 := bl_cell hb x4
  replace x5 := bl_cell hb x5
  replace x6 := bl_cell hb x6
  replace hB : Below w.heap.size w w2 := bl_then hB hb
  replace lb_p := World.block_lt_of_cell? w2 _ p0
  dsimp only at lb_p
  replace lb_x := World.block_lt_of_cell? w2 _ x0
  dsimp only at lb_x
  clear hb
  have hbk := book_bl HB.out hB
  have hvl : v < w.heap.size := hlt
  have hml := HB.out.lt.2
  have hvm := HB.out.ne
  obtain ⟨d0, d1⟩ := hbk.cells
  have fz : w2.frozen? ⟨v, 1, none⟩ = false := by simp [World.frozen?, hbk.head]
  have HBK := Go.Lib.hid hbk
  clear hbk
  go_wp2_with go_step3
  refine wp_abs (S0 := fun X => (fun w' => w'.cell? ⟨v, 0, none⟩ = some (.map (some mb)) ∧ w'.cell? ⟨v, 1, none⟩ = some (.int .i64 (b.2 + 1)) ∧ w'.cell? ⟨w.heap.size, 0, none⟩ = some (.int .i64 p.kind) ∧ w'.cell? ⟨w.heap.size, 1, none⟩ = some (.int .i64 p.limit) ∧ w'.cell? ⟨w.heap.size, 2, none⟩ = some (.int .i64 p.period) ∧ w'.cell? ⟨w.heap.size, 3, none⟩ = some (.int .i64 p.burst) ∧ w'.cell? ⟨w.heap.size, 4, none⟩ = some (.int .i64 p.cap) ∧ w'.cell? ⟨w.heap.size, 5, none⟩ = some (.bool p.opn) ∧ Only (BF v mb) w w') X ∧ X.heap[v]? = some (.cells #[.map (some mb), .int .i64 (b.2 + 1)] 77 (0, 0)) ∧ X.ownsMap Tryz.prog 9 heldRd mb b.1.length (sD eV b.1)) ⟨⟨?_, ?_, far_set p0 _ _ (by dsimp only; omega), far_set p1 _ _ (by dsimp only; omega), far_set p2 _ _ (by dsimp only; omega), far_set p3 _ _ (by dsimp only; omega), far_set p4 _ _ (by dsimp only; omega), far_set p5 _ _ (by dsimp only; omega), (Only.of_below hB).set (.inl rfl) _⟩, head_set HBK.out.head, own_frame HBK.out.own (heap_set_other hvm)⟩ ?_
  · rw [World.cell?_setCell_other _ _ _ _ (by simp)]; exact d0
  · rw [World.cell?_setCell_same' _ _ _ (by rw [d1]; rfl)]
  clear d0 d1 fz hB p0 p1 p2 p3 p4 p5 x0 x1 x2 x3 x4 x5 x6 HBK
  rintro W ⟨⟨v0, v1, p0, p1, p2, p3, p4, p5, hO⟩, hhd, hown⟩
  refine wp_region_held_drew (S := fun w' => w'.cell? ⟨v, 0, none⟩ = some (.map (some mb)) ∧ w'.cell? ⟨v, 1, none⟩ = some (.int .i64 (b.2 + 1)) ∧ w'.cell? ⟨w.heap.size, 0, none⟩ = some (.int .i64 p.kind) ∧ w'.cell? ⟨w.heap.size, 1, none⟩ = some (.int .i64 p.limit) ∧ w'.cell? ⟨w.heap.size, 2, none⟩ = some (.int .i64 p.period) ∧ w'.cell? ⟨w.heap.size, 3, none⟩ = some (.int .i64 p.burst) ∧ w'.cell? ⟨w.heap.size, 4, none⟩ = some (.int .i64 p.cap) ∧ w'.cell? ⟨w.heap.size, 5, none⟩ = some (.bool p.opn) ∧ Only (BF v mb) w w') (by kernel_rfl) ?_ (fun hHeld => ?_)
  · exact ⟨v0, v1, p0, p1, p2, p3, p4, p5, hO.drew⟩
  try simp only [Act.put, List.setIfInBounds_toArray, List.set_cons_zero, List.set_cons_succ]
  refine wpAnyH_abs (F := fun X => X.heap[v]? = some (.cells #[.map (some mb), .int .i64 (b.2 + 1)] 77 (0, 0)) ∧ X.ownsMap Tryz.prog 9 heldRd mb b.1.length (sD eV b.1)) hHeld ⟨hhd, hown⟩ ?_
  clear hHeld v0 v1 p0 p1 p2 p3 p4 p5 hO hhd hown
  rintro X0 hHeld ⟨hhd, hown⟩
  (refine tk (i := 0) rfl rfl hHeld ?_)
  (refine tk (i := 1) rfl rfl hHeld ?_)
  (refine tk (i := 2) rfl rfl hHeld ?_)
  (refine tk (i := 3) rfl rfl hHeld ?_)
  (refine tk (i := 4) rfl rfl hHeld ?_)
  (refine tk (i := 5) rfl rfl hHeld ?_)
  (refine tk (i := 6) rfl rfl hHeld ?_)
  (refine tk (i := 7) rfl rfl hHeld ?_)
  (refine tk (i := 8) rfl rfl hHeld ?_)
  (refine tk (i := 9) rfl rfl hHeld ?_)
  (refine tk (i := 10) rfl rfl hHeld ?_)
  refine callC (i := 11) rfl (fun K hK => ?_)
  obtain ⟨h0, h1, q0, q1, q2, q3, q4, q5, hO⟩ := (id hHeld)
  obtain ⟨w9, hrun, r1, r2⟩ := hown.update law Tryz.underlying75 (by have := HL1.out; unfold maxLen; omega) hkey (show heldRd (eV (p, b.2 + 1)) = some (.held (eV (p, b.2 + 1)), []) from rfl)
  unfold eV at hrun
  dsimp only at hrun
  have hvX : v < X0.heap.size := (Array.getElem?_eq_some_iff.1 hhd).1
  have hbX := hO.size
  have hfr : ∀ i, i < X0.heap.size → i ≠ mb → w9.heap[i]? = X0.heap[i]? := fun i hi hne => r2.block i hi (by simpa using hne)
  have HFR := Go.Lib.hid hfr
  have HR1 := Go.Lib.hid r1
  have HR2 := Go.Lib.hid r2
  clear hfr r1 r2
  go_simp
  refine hK.out _ _ ?_ (fun hHeld2 => ?_)
  · exact ⟨(World.cell?_of_block (HFR.out v hvX hvm)).trans h0, (World.cell?_of_block (HFR.out v hvX hvm)).trans h1, (World.cell?_of_block (HFR.out _ (World.block_lt_of_cell? _ _ q0) (by dsimp only; omega))).trans q0, (World.cell?_of_block (HFR.out _ (World.block_lt_of_cell? _ _ q1) (by dsimp only; omega))).trans q1, (World.cell?_of_block (HFR.out _ (World.block_lt_of_cell? _ _ q2) (by dsimp only; omega))).trans q2, (World.cell?_of_block (HFR.out _ (World.block_lt_of_cell? _ _ q3) (by dsimp only; omega))).trans q3, (World.cell?_of_block (HFR.out _ (World.block_lt_of_cell? _ _ q4) (by dsimp only; omega))).trans q4, (World.cell?_of_block (HFR.out _ (World.block_lt_of_cell? _ _ q5) (by dsimp only; omega))).trans q5, hO.trans (Only.of_grown HR2.out (.inr rfl))⟩
  clear hHeld hK K
  have hHeld := hHeld2
  clear hHeld2
  have hhd2 := (HFR.out v hvX hvm).trans hhd
  clear h0 h1 q0 q1 q2 q3 q4 q5 hO hhd hown hrun
  try simp only [Act.put, List.setIfInBounds_toArray, List.set_cons_zero, List.set_cons_succ]
  refine wpAnyH_done (by kernel_rfl) ?_ _
  obtain ⟨v0, v1, -, -, -, -, -, -, hE⟩ := hHeld
  repeat' (first | go_step3 | go_skip | go_guarded | go_step | go_upon)
  go_ret2
  have hr1 := HR1.out
  rw [sD_put] at hr1
  exact ⟨rfl, ⟨hhd2, own_tight hr1⟩, hE⟩

theorem lay_book {v mb : Nat} {b : Bk} (s : ByteArray) (hs : s.size ≤ maxLen) (p : Pol) (hv : 0 ≤ b.2 ∧ b.2 ≤ 1000000) (hlen : b.1.length ≤ 100) (w : World) (h : BookAt w v mb b) : Calls Tryz.prog 31 #[.pointer (some ⟨v, 0, none⟩), .string s, p.v] w fun e w' =>
    e = .returned (.tuple #[.int .i64 (layV namedB b s.data.toList p), .int .i64 (layE namedB b s.data.toList p)]) ∧ BkTo w v mb (layB namedB b s.data.toList p) w' := by
  cases hN : namedB s.data.toList
  · have he : layE namedB b s.data.toList p = 2 := by unfold layE; rw [if_pos (.inl hN)]
    obtain ⟨e1, e2⟩ := lay_no (N := namedB) (b := b) (k := s.data.toList) (p := p) (by rw [he]; omega)
    rw [e1, e2, he]
    exact blay_named s hs p w h hN
  by_cases hC : chkP p = 0
  · have h1 : ¬ (namedB s.data.toList = false ∨ chkP p ≠ 0) := by rintro (z | z); rw [hN] at z; cases z; exact z hC
    by_cases hF : bIs b s.data.toList = false ∧ 100 ≤ b.1.length
    · have he : layE namedB b s.data.toList p = 5 := by unfold layE; rw [if_neg h1, if_pos hF]
      obtain ⟨e1, e2⟩ := lay_no (N := namedB) (b := b) (k := s.data.toList) (p := p) (by rw [he]; omega)
      rw [e1, e2, he]
      exact blay_full s hs p w h hN hC hF.1 hF.2
    · have he : layE namedB b s.data.toList p = 0 := by unfold layE; rw [if_neg h1, if_neg hF]
      cases hS : bSame b s.data.toList p
      · obtain ⟨e1, e2, -, -⟩ := lay_new (N := namedB) he hS
        have e3 : layB namedB b s.data.toList p = (sPut s.data.toList (p, b.2 + 1) b.1, b.2 + 1) := by unfold layB; rw [if_pos (And.intro he hS)]
        rw [e1, e3, he]
        cases hI : bIs b s.data.toList
        · exact blay_new_false s hs p w h hN hC hv hlen hI (Nat.lt_of_not_le (fun z => hF ⟨hI, z⟩))
        · exact blay_new_true s hs p w h hN hC hv hlen hI (fun z => by unfold bSame at hS; rw [hI, decide_eq_true z] at hS; cases hS)
      · obtain ⟨e1, e2, -, -⟩ := lay_same (N := namedB) he hS
        rw [e1, e2, he]
        exact (blay_same s hs p w h hN hC hS).mono fun e w' hh => ⟨hh.1, bk_same h hh.2⟩
  · have he : layE namedB b s.data.toList p = 2 := by unfold layE; rw [if_pos (.inr hC)]
    obtain ⟨e1, e2⟩ := lay_no (N := namedB) (b := b) (k := s.data.toList) (p := p) (by rw [he]; omega)
    rw [e1, e2, he]
    exact blay_check s hs p w h hN hC
end Go.Proofs.YtcfdcianpicbmaaGreat

namespace Go.Proofs.YtcfdcianpicbmaaGreat
open Go.RowKit Go.Maps
set_option linter.unusedVariables false
set_option linter.unusedSimpArgs false

theorem only_then {F : Nat → Prop} {w W w' : World} (h : Below w.heap.size w W) (k : Only F W w') (hf : ∀ b, F b → w.heap.size ≤ b) : Below w.heap.size w w' := h.trans (k.below h.size hf)
def kp1 : Pol := ⟨4, 5, 10, 0, 0, false⟩
def kp2 : Pol := ⟨4, 6, 10, 0, 0, false⟩
def kb1 : Bk := ([([97], (kp1, 1))], 1)
def kb2 : Bk := ([([97], (kp2, 2))], 2)
theorem kn_a : namedB [97] = true := by kernel_rfl
theorem kn_b : namedB [] = false := by kernel_rfl
theorem kn_1 : layV namedB ([], 0) [97] kp1 = 1 ∧ layE namedB ([], 0) [97] kp1 = 0 ∧ layB namedB ([], 0) [97] kp1 = kb1 := ⟨by kernel_rfl, by kernel_rfl, by kernel_rfl⟩
theorem kn_2 : layV namedB kb1 [97] kp1 = 1 ∧ layE namedB kb1 [97] kp1 = 0 ∧ layB namedB kb1 [97] kp1 = kb1 := ⟨by kernel_rfl, by kernel_rfl, by kernel_rfl⟩
theorem kn_3 : layV namedB kb1 [97] kp2 = 2 ∧ layE namedB kb1 [97] kp2 = 0 ∧ layB namedB kb1 [97] kp2 = kb2 := ⟨by kernel_rfl, by kernel_rfl, by kernel_rfl⟩
theorem kn_4 : layV namedB kb2 [] kp2 = 0 ∧ layE namedB kb2 [] kp2 = 2 ∧ layB namedB kb2 [] kp2 = kb2 := ⟨by kernel_rfl, by kernel_rfl, by kernel_rfl⟩
set_option maxHeartbeats 2000000 in
set_option maxRecDepth 100000 in
theorem bknown (w : World) : Calls Tryz.prog 10 #[] w fun e w' => e = .returned (.bool true) ∧ Below w.heap.size w w' := by
  have hnw := bnew_book
  have hm1 : (⟨#[97]⟩ : ByteArray).size ≤ maxLen := by unfold maxLen; decide
  have hm2 : (⟨#[]⟩ : ByteArray).size ≤ maxLen := by unfold maxLen; decide
  have hl1 := fun v mb w hw => lay_book (v := v) (mb := mb) (b := ([], 0)) ⟨#[97]⟩ hm1 kp1 (by decide) (by decide) w hw
  obtain ⟨x1, x2, x3⟩ := kn_1
  rw [show (⟨#[97]⟩ : ByteArray).data.toList = [97] from rfl, x1, x2, x3] at hl1
  have hl2 := fun v mb w hw => lay_book (v := v) (mb := mb) (b := kb1) ⟨#[97]⟩ hm1 kp1 (by decide) (by decide) w hw
  obtain ⟨x1, x2, x3⟩ := kn_2
  rw [show (⟨#[97]⟩ : ByteArray).data.toList = [97] from rfl, x1, x2, x3] at hl2
  have hl3 := fun v mb w hw => lay_book (v := v) (mb := mb) (b := kb1) ⟨#[97]⟩ hm1 kp2 (by decide) (by decide) w hw
  obtain ⟨x1, x2, x3⟩ := kn_3
  rw [show (⟨#[97]⟩ : ByteArray).data.toList = [97] from rfl, x1, x2, x3] at hl3
  have hl4 := fun v mb w hw => lay_book (v := v) (mb := mb) (b := kb2) ⟨#[]⟩ hm2 kp2 (by decide) (by decide) w hw
  obtain ⟨x1, x2, x3⟩ := kn_4
  rw [show (⟨#[]⟩ : ByteArray).data.toList = [] from rfl, x1, x2, x3] at hl4
  have hvn := ver_nil
  unfold Pol.v at hl1 hl2 hl3 hl4
  unfold kp1 at hl1 hl2
  unfold kp2 at hl3 hl4
  dsimp only at hl1 hl2 hl3 hl4
  have HNW := Go.Lib.hid hnw
  have HL1 := Go.Lib.hid hl1
  have HL2 := Go.Lib.hid hl2
  have HL3 := Go.Lib.hid hl3
  have HL4 := Go.Lib.hid hl4
  have HVN := Go.Lib.hid hvn
  clear hnw hl1 hl2 hl3 hl4 hvn hm1 hm2 x1 x2 x3
  go_enter Tryz.func10, Tryz.ntmps10
  go_wp2_with fail
  refine (HNW.out _).mono ?_
  rintro e w1 ⟨v, mb, rfl, hbk, hv1, hm1, hb⟩
  have hsz1 : w.heap.size + 0 ≤ w1.heap.size := by have h := hb.size; (try simp at h); omega
  have hB : Below w.heap.size w w1 := hb
  clear hb
  have hlt := hbk.lt
  go_wp2_with fail
  refine (HL1.out v mb _ (book_bl hbk (bl_alloc (bl_alloc (bl_refl _) _) _))).mono ?_
  rintro e w2 ⟨rfl, hbk2, hO⟩
  have hsz2 : w1.heap.size + 2 ≤ w2.heap.size := by have h := hO.size; (try simp at h); omega
  have p0 := only_cell (v := .int .i64 4) hO (show World.cell? _ ⟨w1.heap.size, 0, none⟩ = _ by go_simp) (fun hi => by rcases hi with hi | hi <;> omega)
  have p1 := only_cell (v := .int .i64 5) hO (show World.cell? _ ⟨w1.heap.size, 1, none⟩ = _ by go_simp) (fun hi => by rcases hi with hi | hi <;> omega)
  have p2 := only_cell (v := .int .i64 10) hO (show World.cell? _ ⟨w1.heap.size, 2, none⟩ = _ by go_simp) (fun hi => by rcases hi with hi | hi <;> omega)
  have p3 := only_cell (v := .int .i64 0) hO (show World.cell? _ ⟨w1.heap.size, 3, none⟩ = _ by go_simp) (fun hi => by rcases hi with hi | hi <;> omega)
  have p4 := only_cell (v := .int .i64 0) hO (show World.cell? _ ⟨w1.heap.size, 4, none⟩ = _ by go_simp) (fun hi => by rcases hi with hi | hi <;> omega)
  have p5 := only_cell (v := .bool false) hO (show World.cell? _ ⟨w1.heap.size, 5, none⟩ = _ by go_simp) (fun hi => by rcases hi with hi | hi <;> omega)
  have q0 := only_cell (v := .int .i64 4) hO (show World.cell? _ ⟨w1.heap.size + 1, 0, none⟩ = _ by go_simp) (fun hi => by rcases hi with hi | hi <;> omega)
  have q1 := only_cell (v := .int .i64 6) hO (show World.cell? _ ⟨w1.heap.size + 1, 1, none⟩ = _ by go_simp) (fun hi => by rcases hi with hi | hi <;> omega)
  have q2 := only_cell (v := .int .i64 10) hO (show World.cell? _ ⟨w1.heap.size + 1, 2, none⟩ = _ by go_simp) (fun hi => by rcases hi with hi | hi <;> omega)
  have q3 := only_cell (v := .int .i64 0) hO (show World.cell? _ ⟨w1.heap.size + 1, 3, none⟩ = _ by go_simp) (fun hi => by rcases hi with hi | hi <;> omega)
  have q4 := only_cell (v := .int .i64 0) hO (show World.cell? _ ⟨w1.heap.size + 1, 4, none⟩ = _ by go_simp) (fun hi => by rcases hi with hi | hi <;> omega)
  have q5 := only_cell (v := .bool false) hO (show World.cell? _ ⟨w1.heap.size + 1, 5, none⟩ = _ by go_simp) (fun hi => by rcases hi with hi | hi <;> omega)
  replace hB : Below w.heap.size w w2 := only_then (bl_alloc (bl_alloc (hB) _) _) hO (fun i hi => by rcases hi with hi | hi <;> omega)
  clear hO
  have lb_p := World.block_lt_of_cell? w2 _ p0
  dsimp only at lb_p
  have lb_q := World.block_lt_of_cell? w2 _ q0
  dsimp only at lb_q
  replace hbk := hbk2
  clear hbk2
  go_wp2_with fail
  refine (HL2.out v mb _ hbk).mono ?_
  rintro e w3 ⟨rfl, hbk2, hO⟩
  have hsz3 : w2.heap.size + 0 ≤ w3.heap.size := by have h := hO.size; (try simp at h); omega
  replace p0 := only_cell hO (p0) (fun hi => by rcases hi with hi | hi <;> omega)
  replace p1 := only_cell hO (p1) (fun hi => by rcases hi with hi | hi <;> omega)
  replace p2 := only_cell hO (p2) (fun hi => by rcases hi with hi | hi <;> omega)
  replace p3 := only_cell hO (p3) (fun hi => by rcases hi with hi | hi <;> omega)
  replace p4 := only_cell hO (p4) (fun hi => by rcases hi with hi | hi <;> omega)
  replace p5 := only_cell hO (p5) (fun hi => by rcases hi with hi | hi <;> omega)
  replace q0 := only_cell hO (q0) (fun hi => by rcases hi with hi | hi <;> omega)
  replace q1 := only_cell hO (q1) (fun hi => by rcases hi with hi | hi <;> omega)
  replace q2 := only_cell hO (q2) (fun hi => by rcases hi with hi | hi <;> omega)
  replace q3 := only_cell hO (q3) (fun hi => by rcases hi with hi | hi <;> omega)
  replace q4 := only_cell hO (q4) (fun hi => by rcases hi with hi | hi <;> omega)
  replace q5 := only_cell hO (q5) (fun hi => by rcases hi with hi | hi <;> omega)
  replace hB : Below w.heap.size w w3 := only_then (hB) hO (fun i hi => by rcases hi with hi | hi <;> omega)
  clear hO
  replace lb_p := World.block_lt_of_cell? w3 _ p0
  dsimp only at lb_p
  replace lb_q := World.block_lt_of_cell? w3 _ q0
  dsimp only at lb_q
  replace hbk := hbk2
  clear hbk2
  go_wp2_with fail
  refine (HL3.out v mb _ hbk).mono ?_
  rintro e w4 ⟨rfl, hbk2, hO⟩
  have hsz4 : w3.heap.size + 0 ≤ w4.heap.size := by have h := hO.size; (try simp at h); omega
  replace p0 := only_cell hO (p0) (fun hi => by rcases hi with hi | hi <;> omega)
  replace p1 := only_cell hO (p1) (fun hi => by rcases hi with hi | hi <;> omega)
  replace p2 := only_cell hO (p2) (fun hi => by rcases hi with hi | hi <;> omega)
  replace p3 := only_cell hO (p3) (fun hi => by rcases hi with hi | hi <;> omega)
  replace p4 := only_cell hO (p4) (fun hi => by rcases hi with hi | hi <;> omega)
  replace p5 := only_cell hO (p5) (fun hi => by rcases hi with hi | hi <;> omega)
  replace q0 := only_cell hO (q0) (fun hi => by rcases hi with hi | hi <;> omega)
  replace q1 := only_cell hO (q1) (fun hi => by rcases hi with hi | hi <;> omega)
  replace q2 := only_cell hO (q2) (fun hi => by rcases hi with hi | hi <;> omega)
  replace q3 := only_cell hO (q3) (fun hi => by rcases hi with hi | hi <;> omega)
  replace q4 := only_cell hO (q4) (fun hi => by rcases hi with hi | hi <;> omega)
  replace q5 := only_cell hO (q5) (fun hi => by rcases hi with hi | hi <;> omega)
  replace hB : Below w.heap.size w w4 := only_then (hB) hO (fun i hi => by rcases hi with hi | hi <;> omega)
  clear hO
  replace lb_p := World.block_lt_of_cell? w4 _ p0
  dsimp only at lb_p
  replace lb_q := World.block_lt_of_cell? w4 _ q0
  dsimp only at lb_q
  replace hbk := hbk2
  clear hbk2
  go_wp2_with fail
  refine (HL4.out v mb _ hbk).mono ?_
  rintro e w5 ⟨rfl, hbk2, hO⟩
  have hsz5 : w4.heap.size + 0 ≤ w5.heap.size := by have h := hO.size; (try simp at h); omega
  replace p0 := only_cell hO (p0) (fun hi => by rcases hi with hi | hi <;> omega)
  replace p1 := only_cell hO (p1) (fun hi => by rcases hi with hi | hi <;> omega)
  replace p2 := only_cell hO (p2) (fun hi => by rcases hi with hi | hi <;> omega)
  replace p3 := only_cell hO (p3) (fun hi => by rcases hi with hi | hi <;> omega)
  replace p4 := only_cell hO (p4) (fun hi => by rcases hi with hi | hi <;> omega)
  replace p5 := only_cell hO (p5) (fun hi => by rcases hi with hi | hi <;> omega)
  replace q0 := only_cell hO (q0) (fun hi => by rcases hi with hi | hi <;> omega)
  replace q1 := only_cell hO (q1) (fun hi => by rcases hi with hi | hi <;> omega)
  replace q2 := only_cell hO (q2) (fun hi => by rcases hi with hi | hi <;> omega)
  replace q3 := only_cell hO (q3) (fun hi => by rcases hi with hi | hi <;> omega)
  replace q4 := only_cell hO (q4) (fun hi => by rcases hi with hi | hi <;> omega)
  replace q5 := only_cell hO (q5) (fun hi => by rcases hi with hi | hi <;> omega)
  replace hB : Below w.heap.size w w5 := only_then (hB) hO (fun i hi => by rcases hi with hi | hi <;> omega)
  clear hO
  replace lb_p := World.block_lt_of_cell? w5 _ p0
  dsimp only at lb_p
  replace lb_q := World.block_lt_of_cell? w5 _ q0
  dsimp only at lb_q
  replace hbk := hbk2
  clear hbk2
  go_wp2_with fail
  refine (HVN.out _).mono ?_
  rintro e w6 ⟨rfl, hb⟩
  have hsz6 : w5.heap.size + 0 ≤ w6.heap.size := by have h := hb.size; (try simp at h); omega
  replace hbk := book_bl hbk hb
  replace p0 := bl_cell hb p0
  replace p1 := bl_cell hb p1
  replace p2 := bl_cell hb p2
  replace p3 := bl_cell hb p3
  replace p4 := bl_cell hb p4
  replace p5 := bl_cell hb p5
  replace q0 := bl_cell hb q0
  replace q1 := bl_cell hb q1
  replace q2 := bl_cell hb q2
  replace q3 := bl_cell hb q3
  replace q4 := bl_cell hb q4
  replace q5 := bl_cell hb q5
  replace hB : Below w.heap.size w w6 := bl_then hB hb
  replace lb_p := World.block_lt_of_cell? w6 _ p0
  dsimp only at lb_p
  replace lb_q := World.block_lt_of_cell? w6 _ q0
  dsimp only at lb_q
  clear hb
  go_wp2_with fail
  go_ret
  exact ⟨rfl, hB⟩
end Go.Proofs.YtcfdcianpicbmaaGreat

namespace Go.Proofs.YtcfdcianpicbmaaGreat
open Go.RowKit Go.Maps Go.ChangeShapes Go.WideShapes Go.Deep
set_option linter.unusedVariables false
set_option linter.unusedSimpArgs false

/-- An act on a book. -/
structure BD where
  kind : Int
  name : ByteArray
  p : Pol
def BD.v (d : BD) : Value := .agg #[.int .i64 d.kind, .string d.name, .int .i64 d.p.kind, .int .i64 d.p.limit, .int .i64 d.p.period, .int .i64 d.p.burst, .int .i64 d.p.cap, .bool d.p.opn]
def BD.k (d : BD) : Key := d.name.data.toList
/-- What it tells, and leaves. -/
def didV (b : Bk) (d : BD) : Int × Int := if d.kind = 1 then (layV namedB b d.k d.p, layE namedB b d.k d.p) else (if bIs b d.k then 1 else 0, 0)
def didB (b : Bk) (d : BD) : Bk := if d.kind = 1 then layB namedB b d.k d.p else dropB b d.k
theorem okB_did {b : Bk} (h : OkB namedB b) (d : BD) : OkB namedB (didB b d) := by
  unfold didB; split
  · exact h.lay _ _
  · exact h.drop _
theorem ver_did (b : Bk) (d : BD) : b.2 ≤ (didB b d).2 ∧ (didB b d).2 ≤ b.2 + 1 := by
  unfold didB; split
  · exact ver_lay _ _ _
  · unfold dropB; dsimp only; omega
set_option maxHeartbeats 2000000 in
set_option maxRecDepth 100000 in
theorem did_book {v mb : Nat} {b : Bk} (d : BD) (hs : d.name.size ≤ maxLen) (hv : 0 ≤ b.2 ∧ b.2 ≤ 1000000) (hlen : b.1.length ≤ 100) (w : World) (h : BookAt w v mb b) : Calls Tryz.prog 12 #[.pointer (some ⟨v, 0, none⟩), d.v] w fun e w' =>
    e = .returned (.tuple #[.int .i64 (didV b d).1, .int .i64 (didV b d).2]) ∧ BkTo w v mb (didB b d) w' := by
  have hl := fun W hW => lay_book (v := v) (mb := mb) (b := b) d.name hs d.p hv hlen W hW
  have hd := fun W hW => drop_book (v := v) (mb := mb) (b := b) d.name hs W hW
  unfold didV didB BD.k
  generalize layV namedB b d.name.data.toList d.p = LV at *
  generalize layE namedB b d.name.data.toList d.p = LE at *
  generalize layB namedB b d.name.data.toList d.p = LB at *
  generalize dropB b d.name.data.toList = DB at *
  generalize bIs b d.name.data.toList = I at *
  obtain ⟨dk, dn, p⟩ := d
  unfold BD.v
  unfold Pol.v at hl
  dsimp only at *
  have HL := Go.Lib.hid hl
  have HDD := Go.Lib.hid hd
  have HB := Go.Lib.hid h
  clear hl hd h
  by_cases hk : dk = 1
  · rw [if_pos hk, if_pos hk]
    subst hk
    go_enter Tryz.func12, Tryz.ntmps12
    go_wp2_with fail
    refine (HL.out _ (book_bl HB.out (bl_alloc (bl_refl _) _))).mono ?_
    rintro e w1 ⟨rfl, hbk, hO⟩
    go_wp2_with fail
    go_ret2
    exact ⟨rfl, hbk, (Only.of_below (bl_alloc (bl_refl _) _)).trans hO⟩
  · rw [if_neg hk, if_neg hk]
    cases I
    all_goals
      go_enter Tryz.func12, Tryz.ntmps12
      go_wp2_with fail
      refine (HDD.out _ (book_bl HB.out (bl_alloc (bl_refl _) _))).mono ?_
      rintro e w1 ⟨rfl, hbk, hO⟩
      go_wp2_with fail
      go_ret2
      exact ⟨rfl, hbk, (Only.of_below (bl_alloc (bl_refl _) _)).trans hO⟩
/-- A slice of acts that came in. -/
def BDsIn (w : World) (a : Option Addr) (len : Nat) (ds : Nat → BD) : Prop :=
  len ≤ 9223372036854775807 ∧ ∀ i, i < len → (ds i).name.size ≤ maxLen ∧ ∃ b off, a = some ⟨b, off, none⟩ ∧ w.cell? ⟨b, off + i * 8, none⟩ = some (.int .i64 (ds i).kind) ∧ w.cell? ⟨b, off + i * 8 + 1, none⟩ = some (.string (ds i).name) ∧ w.cell? ⟨b, off + i * 8 + 2, none⟩ = some (.int .i64 (ds i).p.kind) ∧ w.cell? ⟨b, off + i * 8 + 3, none⟩ = some (.int .i64 (ds i).p.limit) ∧ w.cell? ⟨b, off + i * 8 + 4, none⟩ = some (.int .i64 (ds i).p.period) ∧ w.cell? ⟨b, off + i * 8 + 5, none⟩ = some (.int .i64 (ds i).p.burst) ∧ w.cell? ⟨b, off + i * 8 + 6, none⟩ = some (.int .i64 (ds i).p.cap) ∧ w.cell? ⟨b, off + i * 8 + 7, none⟩ = some (.bool (ds i).p.opn)
/-- Some number, and the world as it was. -/
def SomeN (w : World) (e : Ending) (w' : World) : Prop := ∃ n : Int, e = .returned (.int .i64 n) ∧ w = w'
set_option maxHeartbeats 1000000 in
theorem blong_any (a : Option Addr) (len cap : Nat) (ds : Nat → BD) (w : World) (h : BDsIn w a len ds) : Calls Tryz.prog 9 #[.slice a len cap] w (SomeN w) := by
  obtain ⟨hm, hc⟩ := h
  have HC := Go.Lib.hid hc
  clear hc
  go_enter Tryz.func9, Tryz.ntmps9
  go_wp2
  go_loop [3, 4] (fun s3 s4 => ∃ (c : Int) (k : Nat), s3 = .int .i64 c ∧ s4 = .int .i64 k ∧ k ≤ len) (fun _ s4 => len - (intOf s4).toNat)
  case atStart => exact ⟨0, 0, rfl, rfl, Nat.zero_le _⟩
  case round =>
    obtain ⟨c, k, rfl, rfl, hk⟩ := hrel
    by_cases hlt : k < len
    · obtain ⟨_, b, off, rfl, _, c1, _⟩ := HC.out k hlt
      have hk0 : (0 : Int) ≤ (k : Int) := by omega
      have hk1 : (k : Int) < (len : Int) := by omega
      go_wp2
      go_round
      case rel => exact ⟨_, k + 1, rfl, by go_num, by omega⟩
      case measure => simp [intOf]; omega
    · have hk1 : ¬ (k : Int) < (len : Int) := by omega
      go_wp2
      go_ret
      exact ⟨_, rfl, rfl⟩

theorem bpol_fields : ∃ f0 f1 f2 f3 f4 f5 : Field, Tryz.prog.underlying 33 = some (.struct #[f0, f1, f2, f3, f4, f5]) ∧ (f0.offset = 0 ∧ f0.type = 3) ∧ (f1.offset = 1 ∧ f1.type = 3) ∧ (f2.offset = 2 ∧ f2.type = 3) ∧ (f3.offset = 3 ∧ f3.type = 3) ∧ (f4.offset = 4 ∧ f4.type = 3) ∧ (f5.offset = 5 ∧ f5.type = 4) :=
  ⟨_, _, _, _, _, _, Tryz.underlying33, ⟨rfl, rfl⟩, ⟨rfl, rfl⟩, ⟨rfl, rfl⟩, ⟨rfl, rfl⟩, ⟨rfl, rfl⟩, ⟨rfl, rfl⟩⟩
theorem bdo_fields : ∃ f0 f1 f2 : Field, Tryz.prog.underlying 35 = some (.struct #[f0, f1, f2]) ∧ (f0.offset = 0 ∧ f0.type = 3) ∧ (f1.offset = 1 ∧ f1.type = 9) ∧ (f2.offset = 2 ∧ f2.type = 33) :=
  ⟨_, _, _, Tryz.underlying35, ⟨rfl, rfl⟩, ⟨rfl, rfl⟩, ⟨rfl, rfl⟩⟩
theorem bcells_int : Tryz.prog.cellsOf 3 = 1 := by kernel_rfl
theorem bcells_bool : Tryz.prog.cellsOf 4 = 1 := by kernel_rfl
theorem bcells_string : Tryz.prog.cellsOf 9 = 1 := by kernel_rfl
theorem bcells_pol : Tryz.prog.cellsOf 33 = 6 := by kernel_rfl
theorem bcells_do : Tryz.prog.cellsOf 35 = 8 := by kernel_rfl
theorem ble_max {c : Nat} (h : c ≤ maxLen) : c ≤ 9223372036854775807 := by
  have e : maxLen = 9223372036854775807 := by kernel_rfl
  rw [e] at h; exact h
section
variable {H : Type} {enc : TypeId × Value → H} {w : World} {base : Nat} {spare : Nat → Bool} {held : Bool}
set_option maxRecDepth 100000 in
theorem bbool_cell {n : Nat} {c : List Value} {y : DataW H × List MemPlace} (h : DataW.trod enc Tryz.prog w base spare held n 4 c = some y) (hc : c.length = 1) : ∃ b, c = [.bool b] := by
  match c, hc with
  | [v], _ =>
    cases n with
    | zero => simp [DataW.trod] at h
    | succ n =>
      unfold DataW.trod at h
      rw [Tryz.underlying4] at h
      cases v <;> simp at h
      exact ⟨_, rfl⟩
set_option maxRecDepth 100000 in
theorem bpol_cells {n : Nat} {cs : List Value} {y : DataW H × List MemPlace} (h : DataW.trod enc Tryz.prog w base spare held n 33 cs = some y) :
    ∃ p : Pol, cs = [.int .i64 p.kind, .int .i64 p.limit, .int .i64 p.period, .int .i64 p.burst, .int .i64 p.cap, .bool p.opn] := by
  obtain ⟨f0, f1, f2, f3, f4, f5, hu, ⟨o0, t0⟩, ⟨o1, t1⟩, ⟨o2, t2⟩, ⟨o3, t3⟩, ⟨o4, t4⟩, ⟨o5, t5⟩⟩ := bpol_fields
  obtain ⟨xs, m, _, _, hl, hx, hg⟩ := DataW.trod_struct hu h
  rw [bcells_pol] at hl
  match cs, hl with
  | [c0, c1, c2, c3, c4, c5], _ =>
    match xs, hx with
    | [y0, y1, y2, y3, y4, y5], _ =>
      have g0 := hg 0 f0 rfl
      have g1 := hg 1 f1 rfl
      have g2 := hg 2 f2 rfl
      have g3 := hg 3 f3 rfl
      have g4 := hg 4 f4 rfl
      have g5 := hg 5 f5 rfl
      rw [o0, t0, bcells_int] at g0
      rw [o1, t1, bcells_int] at g1
      rw [o2, t2, bcells_int] at g2
      rw [o3, t3, bcells_int] at g3
      rw [o4, t4, bcells_int] at g4
      rw [o5, t5, bcells_bool] at g5
      obtain ⟨n0, e0, _, _⟩ := DataW.trod_int Tryz.underlying3 (g0.trans rfl)
      obtain ⟨n1, e1, _, _⟩ := DataW.trod_int Tryz.underlying3 (g1.trans rfl)
      obtain ⟨n2, e2, _, _⟩ := DataW.trod_int Tryz.underlying3 (g2.trans rfl)
      obtain ⟨n3, e3, _, _⟩ := DataW.trod_int Tryz.underlying3 (g3.trans rfl)
      obtain ⟨n4, e4, _, _⟩ := DataW.trod_int Tryz.underlying3 (g4.trans rfl)
      obtain ⟨n5, e5⟩ := bbool_cell (g5.trans rfl) (by simp)
      simp at e0 e1 e2 e3 e4 e5
      subst e0 e1 e2 e3 e4 e5
      exact ⟨⟨n0, n1, n2, n3, n4, n5⟩, rfl⟩
set_option maxRecDepth 100000 in
theorem bdo_cells {n : Nat} {cs : List Value} {y : DataW H × List MemPlace} (h : DataW.trod enc Tryz.prog w base spare held n 35 cs = some y) :
    ∃ d : BD, d.name.size ≤ maxLen ∧ cs = [.int .i64 d.kind, .string d.name, .int .i64 d.p.kind, .int .i64 d.p.limit, .int .i64 d.p.period, .int .i64 d.p.burst, .int .i64 d.p.cap, .bool d.p.opn] := by
  obtain ⟨f0, f1, f2, hu, ⟨o0, t0⟩, ⟨o1, t1⟩, ⟨o2, t2⟩⟩ := bdo_fields
  obtain ⟨xs, m, _, _, hl, hx, hg⟩ := DataW.trod_struct hu h
  rw [bcells_do] at hl
  match cs, hl with
  | [c0, c1, c2, c3, c4, c5, c6, c7], _ =>
    match xs, hx with
    | [y0, y1, y2], _ =>
      have g0 := hg 0 f0 rfl
      have g1 := hg 1 f1 rfl
      have g2 := hg 2 f2 rfl
      rw [o0, t0, bcells_int] at g0
      rw [o1, t1, bcells_string] at g1
      rw [o2, t2, bcells_pol] at g2
      obtain ⟨n0, e0, _, _⟩ := DataW.trod_int Tryz.underlying3 (g0.trans rfl)
      obtain ⟨s1, e1, _, hs⟩ := DataW.trod_string Tryz.underlying9 (g1.trans rfl)
      obtain ⟨p, e2⟩ := bpol_cells (g2.trans rfl)
      simp at e0 e1 e2
      obtain ⟨e2, e3, e4, e5, e6, e7⟩ := e2
      subst e0 e1 e2 e3 e4 e5 e6 e7
      exact ⟨⟨n0, s1, p⟩, hs, rfl⟩
set_option maxRecDepth 100000 in
theorem open_bds {fuel : Nat} {a : Option Addr} {len cap : Nat} {x : DataW H × List MemPlace} (h : DataW.trod enc Tryz.prog w base spare held fuel 22 [.slice a len cap] = some x) : ∃ ds, BDsIn w a len ds := by
  rcases open_slice Tryz.underlying22 h with ⟨e, _⟩ | ⟨ad, len', cap', m, n, D, Pl, e, _, hl, hm, hmm, _, hi⟩
  · injection e with e _
    injection e with _ e2 _
    subst e2
    exact ⟨fun _ => ⟨0, ByteArray.empty, Pol.none⟩, by omega, fun i hi => by omega⟩
  · injection e with e _
    injection e with e1 e2 e3
    subst e1 e2 e3
    have hle : len ≤ m := by rw [hmm]; split <;> omega
    have key : ∀ i, ∃ d : BD, i < len → d.name.size ≤ maxLen ∧ ∃ b off, ad = ⟨b, off, none⟩ ∧ w.cell? ⟨b, off + i * 8, none⟩ = some (.int .i64 d.kind) ∧ w.cell? ⟨b, off + i * 8 + 1, none⟩ = some (.string d.name) ∧ w.cell? ⟨b, off + i * 8 + 2, none⟩ = some (.int .i64 d.p.kind) ∧ w.cell? ⟨b, off + i * 8 + 3, none⟩ = some (.int .i64 d.p.limit) ∧ w.cell? ⟨b, off + i * 8 + 4, none⟩ = some (.int .i64 d.p.period) ∧ w.cell? ⟨b, off + i * 8 + 5, none⟩ = some (.int .i64 d.p.burst) ∧ w.cell? ⟨b, off + i * 8 + 6, none⟩ = some (.int .i64 d.p.cap) ∧ w.cell? ⟨b, off + i * 8 + 7, none⟩ = some (.bool d.p.opn) := fun i => by
      by_cases hlt : i < len
      · obtain ⟨cs', hc, ht⟩ := hi i (by omega)
        rw [bcells_do] at hc
        obtain ⟨d, hd, rfl⟩ := bdo_cells ht
        obtain ⟨_, _, hat⟩ := World.cells?_some hc
        obtain ⟨cs0, hc0, _⟩ := hi 0 (by omega)
        rw [bcells_do] at hc0
        obtain ⟨_, hl0, hat0⟩ := World.cells?_some hc0
        obtain ⟨b, off, spot⟩ := ad
        have hsp : spot = none := by
          have h1 := hat0 0 (by omega)
          rw [List.getElem?_eq_getElem (by omega)] at h1
          simpa [Addr.add] using World.cell?_spot h1
        subst hsp
        have plain : ∀ j, ((⟨b, off, none⟩ : Addr).add (i * 8)).add j = ⟨b, off + i * 8 + j, none⟩ := fun j => by
          unfold Addr.add
          split <;> split <;> simp_all <;> omega
        refine ⟨d, fun _ => ⟨hd, b, off, rfl, ?_, ?_, ?_, ?_, ?_, ?_, ?_, ?_⟩⟩
        · have := hat 0 (by omega); rw [plain] at this; simpa using this
        · have := hat 1 (by omega); rw [plain] at this; simpa using this
        · have := hat 2 (by omega); rw [plain] at this; simpa using this
        · have := hat 3 (by omega); rw [plain] at this; simpa using this
        · have := hat 4 (by omega); rw [plain] at this; simpa using this
        · have := hat 5 (by omega); rw [plain] at this; simpa using this
        · have := hat 6 (by omega); rw [plain] at this; simpa using this
        · have := hat 7 (by omega); rw [plain] at this; simpa using this
      · exact ⟨⟨0, ByteArray.empty, Pol.none⟩, fun h => absurd h hlt⟩
    refine ⟨fun i => Classical.choose (key i), Nat.le_trans hl (ble_max hm), fun i hlt => ?_⟩
    obtain ⟨h1, b, off, h2, h3⟩ := Classical.choose_spec (key i) hlt
    exact ⟨h1, b, off, by rw [h2], h3⟩
end
end Go.Proofs.YtcfdcianpicbmaaGreat

namespace Go.Proofs.YtcfdcianpicbmaaGreat
open Go.RowKit Go.Maps Go.Sort Go.Shelf
set_option linter.unusedVariables false
set_option linter.unusedSimpArgs false

/-- A key as a text. -/
def txt (k : Key) : ByteArray := ⟨k.toArray⟩
theorem txt_list (k : Key) : (txt k).data.toList = k := by unfold txt; simp
theorem txt_size (k : Key) : (txt k).size = k.length := by unfold txt; simp [ByteArray.size]
/-- A list of keys lies in memory from an address on, behind B. -/
def KeysAt (w : World) (B : Nat) (A : Option Addr) (ks : List Key) : Prop :=
  0 < ks.length → ∃ g, A = some ⟨g, 0, none⟩ ∧ B ≤ g ∧ ∀ j, j < ks.length → (ks.getD j []).length ≤ maxLen ∧ w.cell? ⟨g, j, none⟩ = some (.string (txt (ks.getD j [])))
theorem KeysAt.lt {w : World} {B : Nat} {A : Option Addr} {ks : List Key} (h : KeysAt w B A ks) : 0 < ks.length → ∃ g, A = some ⟨g, 0, none⟩ ∧ g < w.heap.size := fun h0 => by
  obtain ⟨g, e, _, hc⟩ := h h0
  have := World.block_lt_of_cell? w _ (hc 0 h0).2
  exact ⟨g, e, this⟩
theorem keysat_bl {w w' : World} {B : Nat} {A : Option Addr} {ks : List Key} (h : KeysAt w B A ks) (hb : Below w.heap.size w w') : KeysAt w' B A ks := fun h0 => by
  obtain ⟨g, e, hg, hc⟩ := h h0
  exact ⟨g, e, hg, fun j hj => ⟨(hc j hj).1, bl_cell hb (hc j hj).2⟩⟩
theorem keysat_only {F : Nat → Prop} {w w' : World} {B : Nat} {A : Option Addr} {ks : List Key} (h : KeysAt w B A ks) (ho : Only F w w') (hf : ∀ g, A = some ⟨g, 0, none⟩ → ¬ F g) : KeysAt w' B A ks := fun h0 => by
  obtain ⟨g, e, hg, hc⟩ := h h0
  exact ⟨g, e, hg, fun j hj => ⟨(hc j hj).1, only_cell ho (hc j hj).2 (hf g e)⟩⟩

set_option maxHeartbeats 1000000 in
theorem same_keys (A1 A2 : Option Addr) (B1 B2 c1 c2 : Nat) (ks : List Key) (hm : ks.length ≤ 9223372036854775807) (w : World) (h1 : KeysAt w B1 A1 ks) (h2 : KeysAt w B2 A2 ks) :
    Calls Tryz.prog 17 #[.slice A1 ks.length c1, .slice A2 ks.length c2] w fun e w' => e = .returned (.bool true) ∧ Below w.heap.size w w' := by
  have H1 := Go.Lib.hid h1
  have H2 := Go.Lib.hid h2
  clear h1 h2
  generalize hn : ks.length = n at *
  go_enter Tryz.func17, Tryz.ntmps17
  go_wp2_with fail
  go_loopw [5] (fun s5 wr => ∃ j : Nat, s5 = .int .i64 j ∧ j ≤ n ∧ Hid (Below w.heap.size w wr))
    (fun s5 _ => n - (intOf s5).toNat)
  case atStart => exact ⟨0, rfl, Nat.zero_le _, Below.refl _ _⟩
  case round =>
    obtain ⟨j, rfl, hj, H⟩ := hrel
    have hb := H.out
    by_cases hjn : j < n
    · obtain ⟨g1, rfl, -, q1⟩ := H1.out (by omega)
      obtain ⟨g2, rfl, -, q2⟩ := H2.out (by omega)
      have x1 := bl_cell hb (q1 j (by omega)).2
      have x2 := bl_cell hb (q2 j (by omega)).2
      clear q1 q2
      generalize txt (ks.getD j []) = T at x1 x2
      have hk0 : (0 : Int) ≤ (j : Int) := by omega
      have hk1 : (j : Int) < (n : Int) := by omega
      have wj : IntKind.i64.wrap ((j : Int) + 1) = (j : Int) + 1 := IntWalk.i64_in _ (by omega)
      clear H1 H2 H
      go_wp2_with fail
      refine wp_region_held_drew (S := fun w' => w'.cell? ⟨g1, j, none⟩ = some (.string T) ∧ w'.cell? ⟨g2, j, none⟩ = some (.string T) ∧ Below w.heap.size w w') (by kernel_rfl) ?_ (fun hHeld => ?_)
      · exact ⟨x1, x2, bl_drew hb⟩
      try simp only [Act.put, List.setIfInBounds_toArray, List.set_cons_zero, List.set_cons_succ]
      (refine tk (i := 0) rfl rfl hHeld ?_)
      (refine tk (i := 1) rfl rfl hHeld ?_)
      (refine tk (i := 2) rfl rfl hHeld ?_)
      (refine tk (i := 3) rfl rfl hHeld ?_)
      (refine tk (i := 4) rfl rfl hHeld ?_)
      (refine tk (i := 5) rfl rfl hHeld ?_)
      (refine tk (i := 6) rfl rfl hHeld ?_)
      (refine tk (i := 7) rfl rfl hHeld ?_)
      (refine tk (i := 8) rfl rfl hHeld ?_)
      refine wpAnyH_done (by kernel_rfl) ?_ _
      obtain ⟨-, -, hE⟩ := hHeld
      go_wp2_with fail
      go_roundw
      case rel => exact ⟨j + 1, by go_num, by omega, hE⟩
      case measure => (simp [intOf]; omega)
    · have hje : n = j := by omega
      subst hje
      clear H1 H2
      go_wp2_with fail
      go_ret
      exact ⟨rfl, hb⟩
end Go.Proofs.YtcfdcianpicbmaaGreat

namespace Go.Proofs.YtcfdcianpicbmaaGreat
open Go.RowKit Go.Maps
set_option linter.unusedVariables false
set_option linter.unusedSimpArgs false

def lk (l : List (Key × EV)) (j : Nat) : Key × EV := l.getD j ([], (Pol.none, 0))
/-- A slice of the reference's entries. -/
def EsAt (w : World) (a : Option Addr) (n c : Nat) (l : List (Key × EV)) : Prop :=
  l.length = n ∧ n ≤ c ∧ c ≤ 9223372036854775807 ∧ ∀ i, i < n → ∃ b off, a = some ⟨b, off, none⟩ ∧ (lk l i).1.length ≤ maxLen ∧ w.cell? ⟨b, off + i * 8, none⟩ = some (.string (txt (lk l i).1)) ∧ w.cell? ⟨b, off + i * 8 + 1, none⟩ = some (.int .i64 (lk l i).2.1.kind) ∧ w.cell? ⟨b, off + i * 8 + 2, none⟩ = some (.int .i64 (lk l i).2.1.limit) ∧ w.cell? ⟨b, off + i * 8 + 3, none⟩ = some (.int .i64 (lk l i).2.1.period) ∧ w.cell? ⟨b, off + i * 8 + 4, none⟩ = some (.int .i64 (lk l i).2.1.burst) ∧ w.cell? ⟨b, off + i * 8 + 5, none⟩ = some (.int .i64 (lk l i).2.1.cap) ∧ w.cell? ⟨b, off + i * 8 + 6, none⟩ = some (.bool (lk l i).2.1.opn) ∧ w.cell? ⟨b, off + i * 8 + 7, none⟩ = some (.int .i64 (lk l i).2.2)
theorem es_bl {w w' : World} {a : Option Addr} {n c : Nat} {l : List (Key × EV)} (h : EsAt w a n c l) (hb : Below w.heap.size w w') : EsAt w' a n c l :=
  ⟨h.1, h.2.1, h.2.2.1, fun i hi => by
    obtain ⟨b, off, e, hk, h0, h1, h2, h3, h4, h5, h6, h7⟩ := h.2.2.2 i hi
    exact ⟨b, off, e, hk, bl_cell hb h0, bl_cell hb h1, bl_cell hb h2, bl_cell hb h3, bl_cell hb h4, bl_cell hb h5, bl_cell hb h6, bl_cell hb h7⟩⟩
theorem es_nil (w : World) (a : Option Addr) (c : Nat) (hc : c ≤ 9223372036854775807) : EsAt w a 0 c [] := ⟨rfl, Nat.zero_le _, hc, fun i hi => absurd hi (Nat.not_lt_zero _)⟩
theorem lk_drop (l : List (Key × EV)) (j : Nat) (h : j < l.length) : l.drop j = lk l j :: l.drop (j + 1) := by
  rw [List.drop_eq_getElem_cons h]
  unfold lk
  rw [List.getD_eq_getElem?_getD, List.getElem?_eq_getElem h]
  rfl
theorem sGet_cons (k : Key) (x : Key × EV) (l : List (Key × EV)) : sGet k (x :: l) = if x.1 = k then some x.2 else sGet k l := by
  unfold sGet
  rw [List.find?_cons]
  by_cases h : x.1 = k
  · rw [if_pos h, show (x.1 == k) = true by simpa using h]; rfl
  · rw [if_neg h, show (x.1 == k) = false by simpa using h]
theorem txt_eq (k : Key) (s : ByteArray) : ((txt k).toList == s.toList) = decide (k = s.data.toList) := by
  rw [ByteArray.toList_eq, ByteArray.toList_eq, txt_list, Bool.eq_iff_iff]
  simp
set_option maxHeartbeats 2000000 in
set_option maxRecDepth 100000 in
theorem rget_any (a : Option Addr) (n c : Nat) (l : List (Key × EV)) (V : Int) (s : ByteArray) (w : World) (h : EsAt w a n c l) :
    Calls Tryz.prog 15 #[.agg #[.slice a n c, .int .i64 V], .string s] w fun e w' =>
      e = .returned (.tuple #[(bGet (l, V) s.data.toList).1.v, .int .i64 (bGet (l, V) s.data.toList).2, .bool (bIs (l, V) s.data.toList)]) ∧ Below w.heap.size w w' := by
  have hdr : ∀ j, j < n → sGet s.data.toList (l.drop j) = if (lk l j).1 = s.data.toList then some (lk l j).2 else sGet s.data.toList (l.drop (j + 1)) := fun j hj => by rw [lk_drop l j (by rw [h.1]; exact hj), sGet_cons]
  have hdn : sGet s.data.toList (l.drop n) = none := by rw [List.drop_eq_nil_of_le (by rw [h.1]; exact Nat.le_refl _)]; rfl
  have hnm : (n : Int) ≤ 9223372036854775807 := by have := h.2.1; have := h.2.2.1; omega
  unfold bGet bIs
  dsimp only
  have h0 : sGet s.data.toList (l.drop 0) = sGet s.data.toList l := rfl
  generalize sGet s.data.toList l = G at *
  have HE := Go.Lib.hid h
  have HD := Go.Lib.hid hdr
  have HN := Go.Lib.hid hdn
  have H0 := Go.Lib.hid h0
  clear h hdr hdn h0
  go_enter Tryz.func15, Tryz.ntmps15
  go_wp2_with fail
  refine wp_abs (S0 := fun X => X.cell? ⟨w.heap.size, 0, none⟩ = some (.slice a n c) ∧ Res6 X (w.heap.size + 1) ∧ Below w.heap.size w X) ⟨by go_simp, res6_new _ _ _ _ _ _ _ _ (by simp), bl_alloc (bl_alloc (bl_refl _) _) _⟩ ?_
  rintro W0 ⟨b0, hR, hB⟩
  go_loopw [7] (fun s7 wr => ∃ j : Nat, s7 = .int .i64 j ∧ j ≤ n ∧ Hid (sGet s.data.toList (l.drop j) = G ∧ wr.cell? ⟨w.heap.size, 0, none⟩ = some (.slice a n c) ∧ Res6 wr (w.heap.size + 1) ∧ Below w.heap.size w wr)) (fun s7 _ => n - (intOf s7).toNat)
  case atStart => exact ⟨0, rfl, Nat.zero_le _, ⟨H0.out, b0, hR, hB⟩⟩
  case round =>
    clear b0 hR hB
    obtain ⟨j, rfl, hj, H⟩ := hrel
    obtain ⟨hg, b0, hR, hB⟩ := H.out
    clear H
    have lb_b := World.block_lt_of_cell? _ _ b0
    dsimp only at lb_b
    by_cases hjn : j < n
    · rw [HD.out j hjn] at hg
      obtain ⟨g, off, rfl, -, y0, y1, y2, y3, y4, y5, y6, y7⟩ := HE.out.2.2.2 j hjn
      have lg := World.block_lt_of_cell? w _ y0
      dsimp only at lg
      have x0 := bl_cell hB y0
      have x1 := bl_cell hB y1
      have x2 := bl_cell hB y2
      have x3 := bl_cell hB y3
      have x4 := bl_cell hB y4
      have x5 := bl_cell hB y5
      have x6 := bl_cell hB y6
      have x7 := bl_cell hB y7
      clear y0 y1 y2 y3 y4 y5 y6 y7
      have hTe := txt_eq (lk l j).1 s
      generalize txt (lk l j).1 = T at *
      generalize (lk l j).1 = KJ at *
      generalize (lk l j).2 = E at *
      obtain ⟨p, ev⟩ := E
      dsimp only at hg x1 x2 x3 x4 x5 x6 x7
      have k0 : (0 : Int) ≤ (j : Int) := by omega
      have k1 : (j : Int) < (n : Int) := by omega
      have hj1 : j + 1 ≤ n := hjn
      have hms : n - (j + 1) < n - j := by omega
      have wj : IntKind.i64.wrap ((j : Int) + 1) = (j : Int) + 1 := IntWalk.i64_in _ (by omega)
      by_cases hk : KJ = s.data.toList
      · rw [if_pos hk] at hg
        rw [decide_eq_true hk] at hTe
        clear hk
        subst hg
        have lb_x := World.block_lt_of_cell? _ _ x0
        dsimp only at lb_x
        have hxw : g < w.heap.size ∨ True := .inr trivial
        go_wp2_with fail
        refine wp_region_held_drew (S := fun w' => w'.cell? ⟨w.heap.size, 0, none⟩ = some (.slice (some ⟨g, off, none⟩) n c) ∧ w'.cell? ⟨g, off + j * 8, none⟩ = some (.string T) ∧ w'.cell? ⟨g, off + j * 8 + 1, none⟩ = some (.int .i64 p.kind) ∧ w'.cell? ⟨g, off + j * 8 + 2, none⟩ = some (.int .i64 p.limit) ∧ w'.cell? ⟨g, off + j * 8 + 3, none⟩ = some (.int .i64 p.period) ∧ w'.cell? ⟨g, off + j * 8 + 4, none⟩ = some (.int .i64 p.burst) ∧ w'.cell? ⟨g, off + j * 8 + 5, none⟩ = some (.int .i64 p.cap) ∧ w'.cell? ⟨g, off + j * 8 + 6, none⟩ = some (.bool p.opn) ∧ w'.cell? ⟨g, off + j * 8 + 7, none⟩ = some (.int .i64 ev) ∧ Res6 w' (w.heap.size + 1) ∧ Below w.heap.size w w') (by kernel_rfl) ?_ (fun hHeld => ?_)
        · exact ⟨b0, x0, x1, x2, x3, x4, x5, x6, x7, res6_bl hR (bl_drew (bl_refl _)), bl_drew hB⟩
        try simp only [Act.put, List.setIfInBounds_toArray, List.set_cons_zero, List.set_cons_succ]
        refine wpAnyH_abs (F := fun _ => True) hHeld trivial ?_
        clear hHeld hB b0 x0 x1 x2 x3 x4 x5 x6 x7 hR
        rintro X0 hHeld -
        (refine tk (i := 0) rfl rfl hHeld ?_)
        (refine tk (i := 1) rfl rfl hHeld ?_)
        (refine tk (i := 2) rfl rfl hHeld ?_)
        (refine tk (i := 3) rfl rfl hHeld ?_)
        (refine tk (i := 4) rfl rfl hHeld ?_)
        (refine tk (i := 5) rfl rfl hHeld ?_)
        (refine tk (i := 6) rfl rfl hHeld ?_)
        (refine tk (i := 7) rfl rfl hHeld ?_)
        (refine tk (i := 8) rfl rfl hHeld ?_)
        (refine tk (i := 9) rfl rfl hHeld ?_)
        (refine tk (i := 10) rfl rfl hHeld ?_)
        (refine tk (i := 11) rfl rfl hHeld ?_)
        refine callC (i := 12) rfl (fun K hK => ?_)
        obtain ⟨h_b0, h_x0, h_x1, h_x2, h_x3, h_x4, h_x5, h_x6, h_x7, h_hR, h_B⟩ := (id hHeld)
        obtain ⟨⟨f0, f1, f2, f3, f4, f5⟩, u0, u1, u2, u3, u4, u5, i0, i1, i2, i3, i4, i5⟩ := res6_all h_hR
        go_simp
        refine hK.out _ _ ?_ (fun hHeld2 => ?_)
        · (try dsimp only); exact ⟨far6 h_b0 (by dsimp only; omega), far6 h_x0 (by dsimp only; omega), far6 h_x1 (by dsimp only; omega), far6 h_x2 (by dsimp only; omega), far6 h_x3 (by dsimp only; omega), far6 h_x4 (by dsimp only; omega), far6 h_x5 (by dsimp only; omega), far6 h_x6 (by dsimp only; omega), far6 h_x7 (by dsimp only; omega), res66 h_hR, bl6 h_B (by omega)⟩
        have zz := set6r (v0 := .int .i64 p.kind) (v1 := .int .i64 p.limit) (v2 := .int .i64 p.period) (v3 := .int .i64 p.burst) (v4 := .int .i64 p.cap) (v5 := .bool p.opn) h_hR
        clear hHeld hK K h_b0 h_x0 h_x1 h_x2 h_x3 h_x4 h_x5 h_x6 h_x7 h_hR h_B
        have hHeld := hHeld2
        clear hHeld2
        try simp only [Act.put, List.setIfInBounds_toArray, List.set_cons_zero, List.set_cons_succ]
        (refine tk (i := 13) rfl rfl hHeld ?_)
        (refine tk (i := 14) rfl rfl hHeld ?_)
        refine wpAnyH_done (by kernel_rfl) ?_ _
        obtain ⟨-, -, -, -, -, -, -, -, -, -, hE⟩ := hHeld
        repeat' (first | go_skip | go_guarded | go_step | go_upon)
        (try simp only [Exit.inBlock, Exit.then])
        refine bodyPost_ret (results_pol3 rfl _ _ (by rfl) zz) rfl ⟨rfl, hE⟩
      · rw [if_neg hk] at hg
        rw [decide_eq_false hk] at hTe
        clear hk
        go_wp2_with fail
        go_roundw
        case rel => exact ⟨j + 1, by go_num, hj1, ⟨hg, b0, hR, hB⟩⟩
        case measure => (simp [intOf]; omega)
    · have hje : n = j := by omega
      subst hje
      rw [HN.out] at hg
      subst hg
      obtain ⟨⟨f0, f1, f2, f3, f4, f5⟩, u0, u1, u2, u3, u4, u5, i0, i1, i2, i3, i4, i5⟩ := res6_all hR
      go_wp2_with fail
      repeat' (first | go_skip | go_guarded | go_step | go_upon)
      (try simp only [Exit.inBlock, Exit.then])
      refine bodyPost_ret (results_pol3 rfl _ _ (by rfl) (set6r hR)) rfl ⟨rfl, bl6 hB (by omega)⟩
end Go.Proofs.YtcfdcianpicbmaaGreat

namespace Go.Proofs.YtcfdcianpicbmaaGreat
open Go.RowKit Go.Maps
set_option linter.unusedVariables false
set_option linter.unusedSimpArgs false

theorem infoT : (Tryz.prog.info? 9).map (fun i => (i.zero, i.size, i.bytes)) = some (some (.string ByteArray.empty), 1, 16) := by kernel_rfl
theorem undT : Tryz.prog.underlying 43 = some (.slice 9) := by kernel_rfl
theorem info_of {t : TypeId} {z : Value} {s b : Nat} (h : (Tryz.prog.info? t).map (fun i => (i.zero, i.size, i.bytes)) = some (some z, s, b)) : ∃ i, Tryz.prog.info? t = some i ∧ i.zero = some z ∧ i.size = s ∧ i.bytes = b := by
  cases hi : Tryz.prog.info? t with
  | none => rw [hi] at h; cases h
  | some i => rw [hi] at h; simp at h; exact ⟨i, rfl, h.1, h.2.1, h.2.2⟩
theorem grown_cell0 {w w' : World} {row : Option Nat} {b o : Nat} {u : Value} (hg : w.grownBy w' row) (hc : w.cell? ⟨b, o, none⟩ = some u) (hne : some b ≠ row) : w'.cell? ⟨b, o, none⟩ = some u := by
  have hb := World.block_lt_of_cell? w _ hc
  rw [← hc]
  simp only [World.cell?, hg.block b hb hne]
theorem bl_grown0 {w W w' : World} {row : Option Nat} (h : Below w.heap.size w W) (hg : W.grownBy w' row) (hr : ∀ g, row = some g → w.heap.size ≤ g) : Below w.heap.size w w' :=
  ⟨hg.os.trans h.os, hg.tape.trans h.tape, hg.output.trans h.output, Nat.le_trans h.size hg.size, fun b hb => (hg.block b (Nat.lt_of_lt_of_le hb h.size) (fun e => by have := hr b e.symm; omega)).trans (h.block b hb)⟩
/-- The texts of keys, as cells. -/
def kcells (ks : List Key) : List Value := ks.map fun k => .string (txt k)
theorem row_keys {w : World} {base : Nat} {v : Value} {ks : List Key} (h : w.ownsRow base 9 1 v ks.length (kcells ks)) (hk : ∀ k ∈ ks, k.length ≤ maxLen) : ∃ A c, v = .slice A ks.length c ∧ KeysAt w base A ks := by
  rcases h.2 with ⟨rfl, he⟩ | ⟨g, cap, cur, rfl, hbg, hg, hnc, hcm, hcs, htake⟩
  · have : ks = [] := List.length_eq_zero_iff.1 he
    subst this
    exact ⟨none, 0, rfl, fun h0 => absurd h0 (by simp)⟩
  · refine ⟨some ⟨g, 0, none⟩, cap, rfl, fun h0 => ⟨g, rfl, hbg, fun j hj => ⟨?_, ?_⟩⟩⟩
    · rw [List.getD_eq_getElem?_getD, List.getElem?_eq_getElem hj]; exact hk _ (List.getElem_mem hj)
    · have hc := World.ownsRow.cells h (g := g) rfl
      have e : (kcells ks)[j]? = some (.string (txt (ks.getD j []))) := by
        unfold kcells
        rw [List.getElem?_map, List.getElem?_eq_getElem hj, List.getD_eq_getElem?_getD, List.getElem?_eq_getElem hj]
        rfl
      have := hc j _ e
      rw [Addr.add_lit, Nat.zero_add] at this
      exact this

set_option maxHeartbeats 2000000 in
set_option maxRecDepth 100000 in
theorem rnames_any (a : Option Addr) (n c : Nat) (l : List (Key × EV)) (V : Int) (w : World) (h : EsAt w a n c l) (hn : n ≤ 1000) :
    Calls Tryz.prog 19 #[.agg #[.slice a n c, .int .i64 V]] w fun e w' => ∃ A c', e = .returned (.slice A n c') ∧ KeysAt w' w.heap.size A (l.map (·.1)) ∧ Below w.heap.size w w' := by
  have hks : ∀ k ∈ l.map (·.1), k.length ≤ maxLen := fun k hk => by
    obtain ⟨i, hi, e⟩ := List.mem_iff_getElem.1 hk
    have hi' : i < l.length := by simpa using hi
    obtain ⟨b, off, -, hl, -⟩ := h.2.2.2 i (by rw [← h.1]; exact hi')
    unfold lk at hl
    rw [List.getD_eq_getElem?_getD, List.getElem?_eq_getElem hi'] at hl
    rw [← e, List.getElem_map]
    exact hl
  have hst : ∀ j, j < n → kcells ((l.map (·.1)).take (j + 1)) = kcells ((l.map (·.1)).take j) ++ [.string (txt (lk l j).1)] := fun j hj => by
    have hj' : j < (l.map (·.1)).length := by rw [List.length_map, h.1]; exact hj
    rw [List.take_succ_eq_append_getElem hj']
    unfold kcells
    rw [List.map_append]
    congr 2
    unfold lk
    rw [List.getD_eq_getElem?_getD, List.getElem?_eq_getElem (by rw [h.1]; exact hj), List.getElem_map]
    rfl
  have hall : (l.map (·.1)).take n = l.map (·.1) := List.take_of_length_le (by rw [List.length_map, h.1]; exact Nat.le_refl _)
  have hlen : (l.map (·.1)).length = n := by rw [List.length_map, h.1]
  obtain ⟨i0, hi, hz0, hz1, hz2⟩ := info_of infoT
  generalize hKS : l.map (·.1) = KS at *
  have HE := Go.Lib.hid h
  have HK := Go.Lib.hid hks
  have HS := Go.Lib.hid hst
  have HL := Go.Lib.hid hall
  have HLN := Go.Lib.hid hlen
  have HI := Go.Lib.hid (And.intro hi (And.intro hz0 (And.intro hz1 hz2)))
  clear h hks hst hall hlen hKS hi hz0 hz1 hz2
  go_enter Tryz.func19, Tryz.ntmps19
  go_wp2_with fail
  refine wp_abs (S0 := fun X => X.cell? ⟨w.heap.size, 0, none⟩ = some (.slice a n c) ∧ Below w.heap.size w X) ⟨by go_simp, bl_alloc (bl_refl _) _⟩ ?_
  rintro W0 ⟨b0, hB⟩
  have hrow0 : W0.ownsRow (w.heap.size + 1) 9 1 (.slice none 0 0) 0 (kcells (KS.take 0)) := ⟨rfl, .inl ⟨rfl, rfl⟩⟩
  go_loopw [3, 4] (fun s3 s4 wr => ∃ j : Nat, s4 = .int .i64 j ∧ j ≤ n ∧ Hid (wr.ownsRow (w.heap.size + 1) 9 1 s3 j (kcells (KS.take j)) ∧ wr.cell? ⟨w.heap.size, 0, none⟩ = some (.slice a n c) ∧ Below w.heap.size w wr)) (fun _ s4 _ => n - (intOf s4).toNat)
  case atStart => exact ⟨0, rfl, Nat.zero_le _, ⟨hrow0, b0, hB⟩⟩
  case round =>
    clear b0 hB hrow0
    obtain ⟨j, rfl, hj, H⟩ := hrel
    obtain ⟨hrow, b0, hB⟩ := H.out
    clear H
    have lb_b := World.block_lt_of_cell? _ _ b0
    dsimp only at lb_b
    by_cases hjn : j < n
    · obtain ⟨g, off, rfl, -, y0, -⟩ := HE.out.2.2.2 j hjn
      have x0 := bl_cell hB y0
      clear y0
      have hst := HS.out j hjn
      generalize txt (lk l j).1 = T at *
      have HST := Go.Lib.hid hst
      have HROW := Go.Lib.hid hrow
      have k0 : (0 : Int) ≤ (j : Int) := by omega
      have k1 : (j : Int) < (n : Int) := by omega
      have hj1 : j + 1 ≤ n := hjn
      have hms : n - (j + 1) < n - j := by omega
      have wj : IntKind.i64.wrap ((j : Int) + 1) = (j : Int) + 1 := IntWalk.i64_in _ (by omega)
      have u22 : ∀ w, Sem.run Tryz.prog (underlying 43) w = .ok (TypeDesc.slice 9) w := run_underlying undT
      have z23 : ∀ w, (Go.sizeOf 9).run Tryz.prog w = .ok 1 w := by intro w; kernel_rfl
      have hi := HI.out
      clear hst hrow
      go_wp2_with (at_builtin; refine wpList_append_own _ rfl _ _ 43 rfl (w.heap.size + 1) 9 i0 (.string ByteArray.empty) 1 16 undT hi.1 hi.2.1 hi.2.2.1 hi.2.2.2 rfl (by decide) _ j (kcells (KS.take j)) rfl ?qc0 ⟨wr.heap.size, 0, none⟩ 1 1 [.string T] rfl ?qc1 ?qc2 ?qc3 ?qc4 ?qc5 ?qc6 ?_)
      case qc0 => exact World.ownsRow.alloc HROW.out _
      case qc1 => rfl
      case qc2 => exact World.ownsRow.cells (World.ownsRow_lit wr #[.string T] 1 (base := w.heap.size + 1) (size := 1) (by omega) (by simp [maxLen]) rfl) rfl
      case qc3 => intro u hu; simp at hu; subst hu; rfl
      case qc4 => simp only [maxLen]; omega
      case qc5 => omega
      case qc6 => rw [World.size_alloc]; omega
      intro v' w1 hown hgrow hnil
      have hbase := fun gg hgg => (World.ownsRow.lt HROW.out gg hgg).1
      have d0 := grown_cell0 hgrow (bl_cell (bl_alloc (bl_refl wr) _) b0) (by intro he; have := hbase _ he.symm; omega)
      have hB2 := bl_grown0 (bl_alloc hB _) hgrow (fun gg hgg => by have := hbase gg hgg; omega)
      have HO := Go.Lib.hid hown
      clear hown hgrow hnil hbase HROW x0 b0 hB hi
      go_wp2_with fail
      go_roundw
      case rel => exact ⟨j + 1, by go_num, hj1, ⟨by rw [HST.out]; exact HO.out, d0, hB2⟩⟩
      case measure => (simp [intOf]; omega)
    · have hje : n = j := by omega
      subst hje
      rw [HL.out] at hrow
      rw [← HLN.out] at hrow
      obtain ⟨A, c', rfl, hk⟩ := row_keys hrow HK.out
      rw [HLN.out]
      have HKA := Go.Lib.hid hk
      clear hrow hk
      go_wp2_with fail
      go_ret
      refine ⟨A, c', rfl, fun h0 => ?_, hB⟩
      obtain ⟨g, e, hg, hc⟩ := HKA.out h0
      exact ⟨g, e, by omega, hc⟩
end Go.Proofs.YtcfdcianpicbmaaGreat
