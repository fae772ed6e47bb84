/-
  The statement BookVersions of this seat: for every input the law returns true, and each argument reads afterwards as it read before. No condition.
-/
import Derived.Test.YtmndkhklhfnjhaaM1
import Derived.Test.YtmndkhklhfnjhaaRows
import Derived.WalkKit
import Derived.ProofKit
import Derived.OpenShut
import Derived.ShutString
import Derived.ChangeOld
import Derived.Below
namespace Go.Proofs.Ytmndkhklhfnjhaa
open Go.RowKit Go.Maps
set_option linter.unusedVariables false
set_option linter.unusedSimpArgs false

/-- What an act tells, and what is there behind it. -/
theorem did_facts {b : Bk} (hb : OkB namedB b) (d : BD) :
    (d.kind ≠ 1 → bIs (didB b d) d.k = false ∧ (didB b d).2 = b.2 ∧ didV b d = (if bIs b d.k then 1 else 0, 0)) ∧
    (d.kind = 1 → (didV b d).2 ≠ 0 → didB b d = b ∧ (didV b d).1 = 0) ∧
    (d.kind = 1 → (didV b d).2 = 0 → bIs (didB b d) d.k = true ∧ bGet (didB b d) d.k = (d.p, (didV b d).1) ∧ chkP d.p = 0 ∧
      ((bIs b d.k = true ∧ bGet b d.k = (d.p, (didV b d).1) ∧ (didB b d).2 = b.2) ∨ ((bIs b d.k = true → (bGet b d.k).1 ≠ d.p) ∧ (didV b d).1 = b.2 + 1 ∧ (didB b d).2 = b.2 + 1))) := by
  unfold didV didB
  refine ⟨fun h => ?_, fun h => ?_, fun h => ?_⟩
  · rw [if_neg h, if_neg h]; exact ⟨get_drop _ _, rfl, rfl⟩
  · rw [if_pos h, if_pos h]; intro he; exact ⟨(lay_no he).2, (lay_no he).1⟩
  · rw [if_pos h, if_pos h]
    intro he
    dsimp only at he ⊢
    cases hs : bSame b d.k d.p
    · obtain ⟨e1, e2, e3, e4⟩ := lay_new (N := namedB) he hs
      refine ⟨e3, by rw [e4, e1], (lay_ok he).2, .inr ⟨fun hi e => ?_, e1, e2⟩⟩
      unfold bSame at hs
      rw [hi, decide_eq_true e] at hs
      cases hs
    · obtain ⟨e1, e2, e3, e4⟩ := lay_same (N := namedB) he hs
      have e5 : bGet b d.k = (d.p, layV namedB b d.k d.p) := by rw [e2, ← e4]
      rw [e1]
      exact ⟨e3, e5, (lay_ok he).2, .inl ⟨e3, e5, rfl⟩⟩
theorem bds_bl {w w' : World} {a : Option Addr} {len : Nat} {ds : Nat → BD} (h : BDsIn w a len ds) (hb : Below w.heap.size w w') : BDsIn w' a len ds :=
  ⟨h.1, fun i hi => by
    obtain ⟨h1, b, off, e, c0, c1, c2, c3, c4, c5, c6, c7⟩ := h.2 i hi
    exact ⟨h1, b, off, e, bl_cell hb c0, bl_cell hb c1, bl_cell hb c2, bl_cell hb c3, bl_cell hb c4, bl_cell hb c5, bl_cell hb c6, bl_cell hb c7⟩⟩
set_option maxHeartbeats 2000000 in
set_option maxRecDepth 100000 in
theorem versions_long (la : Option Addr) (m lc : Nat) (ds : Nat → BD) (w : World) (hA : BDsIn w la m ds) (hm : (60 : Int) < m) :
    Calls Try.prog 3 #[.slice la m lc] w fun e w' => e = .returned (.bool true) ∧ Below w.heap.size w w' := by
  have HKN := Go.Lib.hid bknown
  clear hA
  go_enter Try.func3, Try.ntmps3
  go_wp2_with fail
  refine (HKN.out _).mono ?_
  rintro e w1 ⟨rfl, hb⟩
  have hsz1 : w.heap.size + 0 ≤ w1.heap.size := by have h := hb.size; (try simp at h); omega
  have hB : Below w.heap.size w w1 := hb
  clear hb
  go_wp2_with fail
  go_ret
  exact ⟨rfl, hB⟩

set_option maxHeartbeats 2000000 in
set_option maxRecDepth 100000 in
theorem versions_run (la : Option Addr) (m lc : Nat) (ds : Nat → BD) (w : World) (hA : BDsIn w la m ds) (hm : ¬ (60 : Int) < m) :
    Calls Try.prog 3 #[.slice la m lc] w fun e w' => e = .returned (.bool true) ∧ Below w.heap.size w w' := by
  have HKN := Go.Lib.hid bknown
  have HNW := Go.Lib.hid bnew_book
  have HLG := Go.Lib.hid (blong_any la m lc ds w hA)
  have HA := Go.Lib.hid hA
  clear hA
  go_enter Try.func3, Try.ntmps3
  go_wp2_with fail
  refine (HLG.out).mono ?_
  rintro e w1 ⟨q, rfl, rfl⟩
  by_cases hq : 1500 < q
  · skip
    go_wp2_with fail
    refine (HKN.out _).mono ?_
    rintro e w1 ⟨rfl, hb⟩
    have hsz1 : w.heap.size + 0 ≤ w1.heap.size := by have h := hb.size; (try simp at h); omega
    have hB : Below w.heap.size w w1 := hb
    clear hb
    go_wp2_with fail
    go_ret
    exact ⟨rfl, hB⟩
  go_wp2_with fail
  refine (HNW.out _).mono ?_
  rintro e w1 ⟨v, mb, rfl, hbk, hv1, hm1, hB⟩
  go_wp2_with fail
  go_loopw [4] (fun s4 wr => ∃ j : Nat, s4 = .int .i64 j ∧ j ≤ m ∧ Hid (∃ b : Bk, BookAt wr v mb b ∧ OkB namedB b ∧ b.2 ≤ j ∧ Below w.heap.size w wr)) (fun s4 _ => m - (intOf s4).toNat)
  case atStart => exact ⟨0, rfl, Nat.zero_le _, ⟨([], 0), hbk, okB_nil, Int.le_refl _, hB⟩⟩
  case round =>
    clear hbk hB
    obtain ⟨j, rfl, hj, H⟩ := hrel
    obtain ⟨B, hbk, hok, hver, hB⟩ := H.out
    clear H
    by_cases hjn : j < m
    · skip
      obtain ⟨hs, xb, xo, hla, y0, y1, y2, y3, y4, y5, y6, y7⟩ := HA.out.2 j hjn
      subst hla
      have lb_a := World.block_lt_of_cell? w _ y0
      dsimp only at lb_a
      have x0 := bl_cell hB y0
      have x1 := bl_cell hB y1
      have x2 := bl_cell hB y2
      have x3 := bl_cell hB y3
      have x4 := bl_cell hB y4
      have x5 := bl_cell hB y5
      have x6 := bl_cell hB y6
      have x7 := bl_cell hB y7
      clear y0 y1 y2 y3 y4 y5 y6 y7
      have hlt := hbk.lt
      have hlen := hok.len
      have hv := hok.ver
      have hok2 := okB_did hok (ds j)
      have hver2 := ver_did B (ds j)
      obtain ⟨hf1, hf2, hf3⟩ := did_facts hok (ds j)
      have hms : m - (j + 1) < m - j := by omega
      have hj1 : j + 1 ≤ m := hjn
      have hm2 : (m : Int) ≤ 60 := by omega
      have k0 : (0 : Int) ≤ (j : Int) := by omega
      have k1 : (j : Int) < (m : Int) := by omega
      have wj : IntKind.i64.wrap ((j : Int) + 1) = (j : Int) + 1 := IntWalk.i64_in _ (by omega)
      have wv : IntKind.i64.wrap (B.2 + 1) = B.2 + 1 := IntWalk.i64_in _ (by omega)
      have hvr := fun w h => ver_book (v := v) (mb := mb) (b := B) w h
      have hvr2 := fun w h => ver_book (v := v) (mb := mb) (b := didB B (ds j)) w h
      have hgt := fun w h => get_book (v := v) (mb := mb) (b := B) (ds j).name hs w h
      have hgt2 := fun w h => get_book (v := v) (mb := mb) (b := didB B (ds j)) (ds j).name hs w h
      have hdd := fun w h => did_book (v := v) (mb := mb) (b := B) (ds j) hs (by omega) hlen w h
      generalize didB B (ds j) = B2 at *
      generalize didV B (ds j) = V at *
      generalize ds j = d at *
      obtain ⟨dk, dn, p⟩ := d
      obtain ⟨dv, de⟩ := V
      unfold BD.k at hf1 hf3
      unfold BD.v at hdd
      unfold Pol.v at hgt hgt2
      have hc8 := r8chk p
      unfold Pol.v at hc8
      dsimp only at *
      replace hf2 : dk = 1 → de ≠ 0 → (bIs B2 dn.data.toList = bIs B dn.data.toList ∧ bGet B2 dn.data.toList = bGet B dn.data.toList ∧ B2.2 = B.2) ∧ dv = 0 := fun h1 h2 => by obtain ⟨e1, e2⟩ := hf2 h1 h2; subst e1; exact ⟨⟨rfl, rfl, rfl⟩, e2⟩
      generalize hI : bIs B dn.data.toList = I at *
      generalize hI2 : bIs B2 dn.data.toList = I2 at *
      generalize hG : bGet B dn.data.toList = G at *
      generalize hG2 : bGet B2 dn.data.toList = G2 at *
      generalize hBV : B.2 = bv at *
      generalize hBV2 : B2.2 = bv2 at *
      obtain ⟨g, gn⟩ := G
      obtain ⟨g2, gn2⟩ := G2
      dsimp only at *
      have H_HF1 := Go.Lib.hid hf1
      have H_HF2 := Go.Lib.hid hf2
      have H_HF3 := Go.Lib.hid hf3
      have H_HVR := Go.Lib.hid hvr
      have H_HVR2 := Go.Lib.hid hvr2
      have H_HGT := Go.Lib.hid hgt
      have H_HGT2 := Go.Lib.hid hgt2
      have H_HDD := Go.Lib.hid hdd
      have H_HOK2 := Go.Lib.hid hok2
      have H_HC8 := Go.Lib.hid hc8
      have H_HV := Go.Lib.hid hv
      have H_HVER := Go.Lib.hid hver
      have H_HVER2 := Go.Lib.hid hver2
      have HBE := Go.Lib.hid hBV2
      clear hf1 hf2 hf3 hvr hvr2 hgt hgt2 hdd hok2 hc8 hv hver hver2 hlen hok hI hI2 hG hG2 hBV hBV2
      have lb_x := World.block_lt_of_cell? wr _ x0
      dsimp only at lb_x
      go_wp2_with fail
      refine (H_HVR.out _ hbk).mono ?_
      rintro e w1 ⟨rfl, hb⟩
      have hsz1 : wr.heap.size + 0 ≤ w1.heap.size := by have h := hb.size; (try simp at h); omega
      replace x0 := bl_cell hb x0
      replace x1 := bl_cell hb x1
      replace x2 := bl_cell hb x2
      replace x3 := bl_cell hb x3
      replace x4 := bl_cell hb x4
      replace x5 := bl_cell hb x5
      replace x6 := bl_cell hb x6
      replace x7 := bl_cell hb x7
      replace hbk := book_bl hbk hb
      replace hB : Below w.heap.size w w1 := bl_then hB hb
      replace lb_x := World.block_lt_of_cell? w1 _ x0
      dsimp only at lb_x
      clear hb
      go_wp2_with fail
      refine (H_HGT.out _ hbk).mono ?_
      rintro e w2 ⟨rfl, hb⟩
      have hsz2 : w1.heap.size + 0 ≤ w2.heap.size := by have h := hb.size; (try simp at h); omega
      replace x0 := bl_cell hb x0
      replace x1 := bl_cell hb x1
      replace x2 := bl_cell hb x2
      replace x3 := bl_cell hb x3
      replace x4 := bl_cell hb x4
      replace x5 := bl_cell hb x5
      replace x6 := bl_cell hb x6
      replace x7 := bl_cell hb x7
      replace hbk := book_bl hbk hb
      replace hB : Below w.heap.size w w2 := bl_then hB hb
      replace lb_x := World.block_lt_of_cell? w2 _ x0
      dsimp only at lb_x
      clear hb
      go_wp2_with fail
      refine (H_HDD.out _ (book_bl hbk (bl_alloc (bl_refl _) _))).mono ?_
      rintro e w3 ⟨rfl, hbk2, hO⟩
      have hsz3 : w2.heap.size + 1 ≤ w3.heap.size := by have h := hO.size; (try simp at h); omega
      replace x0 := only_cell hO (bl_cell (bl_alloc (bl_refl _) _) x0) (fun hi => by rcases hi with hi | hi <;> omega)
      replace x1 := only_cell hO (bl_cell (bl_alloc (bl_refl _) _) x1) (fun hi => by rcases hi with hi | hi <;> omega)
      replace x2 := only_cell hO (bl_cell (bl_alloc (bl_refl _) _) x2) (fun hi => by rcases hi with hi | hi <;> omega)
      replace x3 := only_cell hO (bl_cell (bl_alloc (bl_refl _) _) x3) (fun hi => by rcases hi with hi | hi <;> omega)
      replace x4 := only_cell hO (bl_cell (bl_alloc (bl_refl _) _) x4) (fun hi => by rcases hi with hi | hi <;> omega)
      replace x5 := only_cell hO (bl_cell (bl_alloc (bl_refl _) _) x5) (fun hi => by rcases hi with hi | hi <;> omega)
      replace x6 := only_cell hO (bl_cell (bl_alloc (bl_refl _) _) x6) (fun hi => by rcases hi with hi | hi <;> omega)
      replace x7 := only_cell hO (bl_cell (bl_alloc (bl_refl _) _) x7) (fun hi => by rcases hi with hi | hi <;> omega)
      have o0 := only_cell (v := .int .i64 g.kind) hO (show World.cell? _ ⟨w2.heap.size, 0, none⟩ = _ by go_simp) (fun hi => by rcases hi with hi | hi <;> omega)
      have o1 := only_cell (v := .int .i64 g.limit) hO (show World.cell? _ ⟨w2.heap.size, 1, none⟩ = _ by go_simp) (fun hi => by rcases hi with hi | hi <;> omega)
      have o2 := only_cell (v := .int .i64 g.period) hO (show World.cell? _ ⟨w2.heap.size, 2, none⟩ = _ by go_simp) (fun hi => by rcases hi with hi | hi <;> omega)
      have o3 := only_cell (v := .int .i64 g.burst) hO (show World.cell? _ ⟨w2.heap.size, 3, none⟩ = _ by go_simp) (fun hi => by rcases hi with hi | hi <;> omega)
      have o4 := only_cell (v := .int .i64 g.cap) hO (show World.cell? _ ⟨w2.heap.size, 4, none⟩ = _ by go_simp) (fun hi => by rcases hi with hi | hi <;> omega)
      have o5 := only_cell (v := .bool g.opn) hO (show World.cell? _ ⟨w2.heap.size, 5, none⟩ = _ by go_simp) (fun hi => by rcases hi with hi | hi <;> omega)
      replace hB : Below w.heap.size w w3 := only_then (bl_alloc (hB) _) hO (fun i hi => by rcases hi with hi | hi <;> omega)
      clear hO
      replace lb_x := World.block_lt_of_cell? w3 _ x0
      dsimp only at lb_x
      have lb_o := World.block_lt_of_cell? w3 _ o0
      dsimp only at lb_o
      replace hbk := hbk2
      clear hbk2
      go_wp2_with fail
      refine (H_HGT2.out _ hbk).mono ?_
      rintro e w4 ⟨rfl, hb⟩
      have hsz4 : w3.heap.size + 0 ≤ w4.heap.size := by have h := hb.size; (try simp at h); omega
      replace x0 := bl_cell hb x0
      replace x1 := bl_cell hb x1
      replace x2 := bl_cell hb x2
      replace x3 := bl_cell hb x3
      replace x4 := bl_cell hb x4
      replace x5 := bl_cell hb x5
      replace x6 := bl_cell hb x6
      replace x7 := bl_cell hb x7
      replace hbk := book_bl hbk hb
      replace o0 := bl_cell hb o0
      replace o1 := bl_cell hb o1
      replace o2 := bl_cell hb o2
      replace o3 := bl_cell hb o3
      replace o4 := bl_cell hb o4
      replace o5 := bl_cell hb o5
      replace hB : Below w.heap.size w w4 := bl_then hB hb
      replace lb_x := World.block_lt_of_cell? w4 _ x0
      dsimp only at lb_x
      replace lb_o := World.block_lt_of_cell? w4 _ o0
      dsimp only at lb_o
      clear hb
      go_wp2_with fail
      refine (H_HVR2.out _ (book_bl hbk (bl_alloc (bl_refl _) _))).mono ?_
      rintro e w5 ⟨rfl, hb⟩
      have hx : Below w4.heap.size w4 w5 := bl_then (bl_alloc (bl_refl _) _) hb
      have hsz5 : w4.heap.size + 1 ≤ w5.heap.size := by have h := hb.size; (try simp at h); omega
      replace x0 := bl_cell hx x0
      replace x1 := bl_cell hx x1
      replace x2 := bl_cell hx x2
      replace x3 := bl_cell hx x3
      replace x4 := bl_cell hx x4
      replace x5 := bl_cell hx x5
      replace x6 := bl_cell hx x6
      replace x7 := bl_cell hx x7
      replace hbk := book_bl hbk hx
      replace o0 := bl_cell hx o0
      replace o1 := bl_cell hx o1
      replace o2 := bl_cell hx o2
      replace o3 := bl_cell hx o3
      replace o4 := bl_cell hx o4
      replace o5 := bl_cell hx o5
      have n0 := bl_cell (v := .int .i64 g2.kind) hb (show World.cell? _ ⟨w4.heap.size, 0, none⟩ = _ by go_simp)
      have n1 := bl_cell (v := .int .i64 g2.limit) hb (show World.cell? _ ⟨w4.heap.size, 1, none⟩ = _ by go_simp)
      have n2 := bl_cell (v := .int .i64 g2.period) hb (show World.cell? _ ⟨w4.heap.size, 2, none⟩ = _ by go_simp)
      have n3 := bl_cell (v := .int .i64 g2.burst) hb (show World.cell? _ ⟨w4.heap.size, 3, none⟩ = _ by go_simp)
      have n4 := bl_cell (v := .int .i64 g2.cap) hb (show World.cell? _ ⟨w4.heap.size, 4, none⟩ = _ by go_simp)
      have n5 := bl_cell (v := .bool g2.opn) hb (show World.cell? _ ⟨w4.heap.size, 5, none⟩ = _ by go_simp)
      replace hB : Below w.heap.size w w5 := bl_then hB hx
      replace lb_x := World.block_lt_of_cell? w5 _ x0
      dsimp only at lb_x
      replace lb_o := World.block_lt_of_cell? w5 _ o0
      dsimp only at lb_o
      have lb_n := World.block_lt_of_cell? w5 _ n0
      dsimp only at lb_n
      clear hb hx
      skip
      by_cases hk : dk = 1
      rotate_left
      · obtain ⟨e1, e2, e3⟩ := H_HF1.out hk
        injection e3 with e3 e4
        subst e1 e3 e4
        subst e2
        clear H_HF1 H_HF2 H_HF3
        cases I
        · go_wp2_with fail
          go_roundw
          case rel => exact ⟨j + 1, by go_num, hj1, ⟨B2, hbk, H_HOK2.out, by have h0 := HBE.out; have h1 := H_HVER.out; have h2 := H_HVER2.out; omega, hB⟩⟩
          case measure => (simp [intOf]; omega)
        · go_wp2_with fail
          go_roundw
          case rel => exact ⟨j + 1, by go_num, hj1, ⟨B2, hbk, H_HOK2.out, by have h0 := HBE.out; have h1 := H_HVER.out; have h2 := H_HVER2.out; omega, hB⟩⟩
          case measure => (simp [intOf]; omega)
      subst hk
      by_cases he : de = 0
      rotate_left
      · obtain ⟨⟨e1, e2, e3⟩, e4⟩ := H_HF2.out rfl he
        injection e2 with e2 e5
        subst e1 e2 e3 e4 e5
        clear H_HF1 H_HF2 H_HF3
        cases I2
        · go_wp2_with fail
          go_roundw
          case rel => exact ⟨j + 1, by go_num, hj1, ⟨B2, hbk, H_HOK2.out, by have h0 := HBE.out; have h1 := H_HVER.out; have h2 := H_HVER2.out; omega, hB⟩⟩
          case measure => (simp [intOf]; omega)
        · go_wp2_with fail
          go_roundw
          case rel => exact ⟨j + 1, by go_num, hj1, ⟨B2, hbk, H_HOK2.out, by have h0 := HBE.out; have h1 := H_HVER.out; have h2 := H_HVER2.out; omega, hB⟩⟩
          case measure => (simp [intOf]; omega)
      subst he
      obtain ⟨e1, e2, e3, hcc⟩ := H_HF3.out rfl rfl
      injection e2 with e2 e5
      replace e2 := e2.symm
      replace e5 := e5.symm
      subst e1 e2 e5
      have hc8 := H_HC8.out
      rw [e3] at hc8
      have HC8 := Go.Lib.hid hc8
      clear H_HF1 H_HF2 H_HF3 H_HC8 hc8 e3
      rcases hcc with ⟨e1, e2, e3⟩ | ⟨e1, e2, e3⟩
      · injection e2 with e2 e6
        replace e2 := e2.symm
        replace e3 := e3.symm
        replace e6 := e6.symm
        subst e1 e2 e3 e6
        have heq := fun w => pol_eql p p w
        have hne := fun w => pol_neq p p w
        rw [decide_eq_true rfl] at heq hne
        skip
        go_wp2_with fail
        refine wp_region_held_drew (S := fun w' => w'.cell? ⟨xb, xo + j * 8, none⟩ = some (.int .i64 1) ∧ w'.cell? ⟨xb, xo + j * 8 + 1, none⟩ = some (.string dn) ∧ w'.cell? ⟨xb, xo + j * 8 + 2, none⟩ = some (.int .i64 p.kind) ∧ w'.cell? ⟨xb, xo + j * 8 + 3, none⟩ = some (.int .i64 p.limit) ∧ w'.cell? ⟨xb, xo + j * 8 + 4, none⟩ = some (.int .i64 p.period) ∧ w'.cell? ⟨xb, xo + j * 8 + 5, none⟩ = some (.int .i64 p.burst) ∧ w'.cell? ⟨xb, xo + j * 8 + 6, none⟩ = some (.int .i64 p.cap) ∧ w'.cell? ⟨xb, xo + j * 8 + 7, none⟩ = some (.bool p.opn) ∧ BookAt w' v mb B2 ∧ w'.cell? ⟨w2.heap.size, 0, none⟩ = some (.int .i64 p.kind) ∧ w'.cell? ⟨w2.heap.size, 1, none⟩ = some (.int .i64 p.limit) ∧ w'.cell? ⟨w2.heap.size, 2, none⟩ = some (.int .i64 p.period) ∧ w'.cell? ⟨w2.heap.size, 3, none⟩ = some (.int .i64 p.burst) ∧ w'.cell? ⟨w2.heap.size, 4, none⟩ = some (.int .i64 p.cap) ∧ w'.cell? ⟨w2.heap.size, 5, none⟩ = some (.bool p.opn) ∧ w'.cell? ⟨w4.heap.size, 0, none⟩ = some (.int .i64 p.kind) ∧ w'.cell? ⟨w4.heap.size, 1, none⟩ = some (.int .i64 p.limit) ∧ w'.cell? ⟨w4.heap.size, 2, none⟩ = some (.int .i64 p.period) ∧ w'.cell? ⟨w4.heap.size, 3, none⟩ = some (.int .i64 p.burst) ∧ w'.cell? ⟨w4.heap.size, 4, none⟩ = some (.int .i64 p.cap) ∧ w'.cell? ⟨w4.heap.size, 5, none⟩ = some (.bool p.opn) ∧ Below w.heap.size w w') (by kernel_rfl) ?_ (fun hHeld => ?_)
        · exact ⟨x0, x1, x2, x3, x4, x5, x6, x7, book_bl hbk (bl_drew (bl_refl _)), o0, o1, o2, o3, o4, o5, n0, n1, n2, n3, n4, n5, bl_drew hB⟩
        try simp only [Act.put, List.setIfInBounds_toArray, List.set_cons_zero, List.set_cons_succ]
        (refine tk (i := 0) rfl rfl hHeld ?_)
        (refine tk (i := 1) rfl rfl hHeld ?_)
        first | (refine tq (i := 2) rfl rfl hHeld ?_) | (refine tk (i := 2) rfl rfl hHeld ?_)
        first | (refine tq (i := 3) rfl rfl hHeld ?_) | (refine tk (i := 3) rfl rfl hHeld ?_)
        first | (refine tq (i := 4) rfl rfl hHeld ?_) | (refine tk (i := 4) rfl rfl hHeld ?_)
        first | (refine tq (i := 5) rfl rfl hHeld ?_) | (refine tk (i := 5) rfl rfl hHeld ?_)
        first | (refine tq (i := 6) rfl rfl hHeld ?_) | (refine tk (i := 6) rfl rfl hHeld ?_)
        first | (refine tq (i := 7) rfl rfl hHeld ?_) | (refine tk (i := 7) rfl rfl hHeld ?_)
        first | (refine tq (i := 8) rfl rfl hHeld ?_) | (refine tk (i := 8) rfl rfl hHeld ?_)
        (refine tk (i := 9) rfl rfl hHeld ?_)
        (refine tk (i := 10) rfl rfl hHeld ?_)
        refine wpAnyH_done (by kernel_rfl) ?_ _
        refine then_abs (F := fun w' => w'.cell? ⟨xb, xo + j * 8, none⟩ = some (.int .i64 1) ∧ w'.cell? ⟨xb, xo + j * 8 + 1, none⟩ = some (.string dn) ∧ w'.cell? ⟨xb, xo + j * 8 + 2, none⟩ = some (.int .i64 p.kind) ∧ w'.cell? ⟨xb, xo + j * 8 + 3, none⟩ = some (.int .i64 p.limit) ∧ w'.cell? ⟨xb, xo + j * 8 + 4, none⟩ = some (.int .i64 p.period) ∧ w'.cell? ⟨xb, xo + j * 8 + 5, none⟩ = some (.int .i64 p.burst) ∧ w'.cell? ⟨xb, xo + j * 8 + 6, none⟩ = some (.int .i64 p.cap) ∧ w'.cell? ⟨xb, xo + j * 8 + 7, none⟩ = some (.bool p.opn) ∧ BookAt w' v mb B2 ∧ w'.cell? ⟨w2.heap.size, 0, none⟩ = some (.int .i64 p.kind) ∧ w'.cell? ⟨w2.heap.size, 1, none⟩ = some (.int .i64 p.limit) ∧ w'.cell? ⟨w2.heap.size, 2, none⟩ = some (.int .i64 p.period) ∧ w'.cell? ⟨w2.heap.size, 3, none⟩ = some (.int .i64 p.burst) ∧ w'.cell? ⟨w2.heap.size, 4, none⟩ = some (.int .i64 p.cap) ∧ w'.cell? ⟨w2.heap.size, 5, none⟩ = some (.bool p.opn) ∧ w'.cell? ⟨w4.heap.size, 0, none⟩ = some (.int .i64 p.kind) ∧ w'.cell? ⟨w4.heap.size, 1, none⟩ = some (.int .i64 p.limit) ∧ w'.cell? ⟨w4.heap.size, 2, none⟩ = some (.int .i64 p.period) ∧ w'.cell? ⟨w4.heap.size, 3, none⟩ = some (.int .i64 p.burst) ∧ w'.cell? ⟨w4.heap.size, 4, none⟩ = some (.int .i64 p.cap) ∧ w'.cell? ⟨w4.heap.size, 5, none⟩ = some (.bool p.opn) ∧ Below w.heap.size w w') hHeld ?_
        clear hHeld hB x0 x1 x2 x3 x4 x5 x6 x7 hbk o0 o1 o2 o3 o4 o5 n0 n1 n2 n3 n4 n5
        rintro w6 ⟨x0, x1, x2, x3, x4, x5, x6, x7, hbk, o0, o1, o2, o3, o4, o5, n0, n1, n2, n3, n4, n5, hB⟩
        replace lb_x := World.block_lt_of_cell? w6 _ x0
        dsimp only at lb_x
        replace lb_o := World.block_lt_of_cell? w6 _ o0
        dsimp only at lb_o
        replace lb_n := World.block_lt_of_cell? w6 _ n0
        dsimp only at lb_n
        go_wp2_with fail
        refine wp_region_held_drew (S := fun w' => w'.cell? ⟨xb, xo + j * 8, none⟩ = some (.int .i64 1) ∧ w'.cell? ⟨xb, xo + j * 8 + 1, none⟩ = some (.string dn) ∧ w'.cell? ⟨xb, xo + j * 8 + 2, none⟩ = some (.int .i64 p.kind) ∧ w'.cell? ⟨xb, xo + j * 8 + 3, none⟩ = some (.int .i64 p.limit) ∧ w'.cell? ⟨xb, xo + j * 8 + 4, none⟩ = some (.int .i64 p.period) ∧ w'.cell? ⟨xb, xo + j * 8 + 5, none⟩ = some (.int .i64 p.burst) ∧ w'.cell? ⟨xb, xo + j * 8 + 6, none⟩ = some (.int .i64 p.cap) ∧ w'.cell? ⟨xb, xo + j * 8 + 7, none⟩ = some (.bool p.opn) ∧ BookAt w' v mb B2 ∧ w'.cell? ⟨w2.heap.size, 0, none⟩ = some (.int .i64 p.kind) ∧ w'.cell? ⟨w2.heap.size, 1, none⟩ = some (.int .i64 p.limit) ∧ w'.cell? ⟨w2.heap.size, 2, none⟩ = some (.int .i64 p.period) ∧ w'.cell? ⟨w2.heap.size, 3, none⟩ = some (.int .i64 p.burst) ∧ w'.cell? ⟨w2.heap.size, 4, none⟩ = some (.int .i64 p.cap) ∧ w'.cell? ⟨w2.heap.size, 5, none⟩ = some (.bool p.opn) ∧ w'.cell? ⟨w4.heap.size, 0, none⟩ = some (.int .i64 p.kind) ∧ w'.cell? ⟨w4.heap.size, 1, none⟩ = some (.int .i64 p.limit) ∧ w'.cell? ⟨w4.heap.size, 2, none⟩ = some (.int .i64 p.period) ∧ w'.cell? ⟨w4.heap.size, 3, none⟩ = some (.int .i64 p.burst) ∧ w'.cell? ⟨w4.heap.size, 4, none⟩ = some (.int .i64 p.cap) ∧ w'.cell? ⟨w4.heap.size, 5, none⟩ = some (.bool p.opn) ∧ Below w.heap.size w w') (by kernel_rfl) ?_ (fun hHeld => ?_)
        · exact ⟨x0, x1, x2, x3, x4, x5, x6, x7, book_bl hbk (bl_drew (bl_refl _)), o0, o1, o2, o3, o4, o5, n0, n1, n2, n3, n4, n5, bl_drew hB⟩
        try simp only [Act.put, List.setIfInBounds_toArray, List.set_cons_zero, List.set_cons_succ]
        (refine tk (i := 0) rfl rfl hHeld ?_)
        (refine tk (i := 1) rfl rfl hHeld ?_)
        (refine tk (i := 2) rfl rfl hHeld ?_)
        first | (refine tq (i := 3) rfl rfl hHeld ?_) | (refine tk (i := 3) rfl rfl hHeld ?_)
        first | (refine tq (i := 4) rfl rfl hHeld ?_) | (refine tk (i := 4) rfl rfl hHeld ?_)
        first | (refine tq (i := 5) rfl rfl hHeld ?_) | (refine tk (i := 5) rfl rfl hHeld ?_)
        first | (refine tq (i := 6) rfl rfl hHeld ?_) | (refine tk (i := 6) rfl rfl hHeld ?_)
        first | (refine tq (i := 7) rfl rfl hHeld ?_) | (refine tk (i := 7) rfl rfl hHeld ?_)
        first | (refine tq (i := 8) rfl rfl hHeld ?_) | (refine tk (i := 8) rfl rfl hHeld ?_)
        first | (refine tq (i := 9) rfl rfl hHeld ?_) | (refine tk (i := 9) rfl rfl hHeld ?_)
        (refine tk (i := 10) rfl rfl hHeld ?_)
        (refine tk (i := 11) rfl rfl hHeld ?_)
        first | (refine tq (i := 12) rfl rfl hHeld ?_) | (refine tk (i := 12) rfl rfl hHeld ?_)
        first | (refine tq (i := 13) rfl rfl hHeld ?_) | (refine tk (i := 13) rfl rfl hHeld ?_)
        first | (refine tq (i := 14) rfl rfl hHeld ?_) | (refine tk (i := 14) rfl rfl hHeld ?_)
        (refine tk (i := 15) rfl rfl hHeld ?_)
        (refine tk (i := 16) rfl rfl hHeld ?_)
        first | (refine tq (i := 17) rfl rfl hHeld ?_) | (refine tk (i := 17) rfl rfl hHeld ?_)
        first | (refine tq (i := 18) rfl rfl hHeld ?_) | (refine tk (i := 18) rfl rfl hHeld ?_)
        first | (refine tq (i := 19) rfl rfl hHeld ?_) | (refine tk (i := 19) rfl rfl hHeld ?_)
        first | (refine tq (i := 20) rfl rfl hHeld ?_) | (refine tk (i := 20) rfl rfl hHeld ?_)
        first | (refine tq (i := 21) rfl rfl hHeld ?_) | (refine tk (i := 21) rfl rfl hHeld ?_)
        first | (refine tq (i := 22) rfl rfl hHeld ?_) | (refine tk (i := 22) rfl rfl hHeld ?_)
        first | (refine tq (i := 23) rfl rfl hHeld ?_) | (refine tk (i := 23) rfl rfl hHeld ?_)
        first | (refine tq (i := 24) rfl rfl hHeld ?_) | (refine tk (i := 24) rfl rfl hHeld ?_)
        first | (refine tq (i := 25) rfl rfl hHeld ?_) | (refine tk (i := 25) rfl rfl hHeld ?_)
        first | (refine tq (i := 26) rfl rfl hHeld ?_) | (refine tk (i := 26) rfl rfl hHeld ?_)
        first | (refine tq (i := 27) rfl rfl hHeld ?_) | (refine tk (i := 27) rfl rfl hHeld ?_)
        (refine tk (i := 28) rfl rfl hHeld ?_)
        (refine tk (i := 29) rfl rfl hHeld ?_)
        first | (refine tq (i := 30) rfl rfl hHeld ?_) | (refine tk (i := 30) rfl rfl hHeld ?_)
        first | (refine tq (i := 31) rfl rfl hHeld ?_) | (refine tk (i := 31) rfl rfl hHeld ?_)
        first | (refine tq (i := 32) rfl rfl hHeld ?_) | (refine tk (i := 32) rfl rfl hHeld ?_)
        first | (refine tq (i := 33) rfl rfl hHeld ?_) | (refine tk (i := 33) rfl rfl hHeld ?_)
        first | (refine tq (i := 34) rfl rfl hHeld ?_) | (refine tk (i := 34) rfl rfl hHeld ?_)
        first | (refine tq (i := 35) rfl rfl hHeld ?_) | (refine tk (i := 35) rfl rfl hHeld ?_)
        first | (refine tq (i := 36) rfl rfl hHeld ?_) | (refine tk (i := 36) rfl rfl hHeld ?_)
        first | (refine tq (i := 37) rfl rfl hHeld ?_) | (refine tk (i := 37) rfl rfl hHeld ?_)
        first | (refine tq (i := 38) rfl rfl hHeld ?_) | (refine tk (i := 38) rfl rfl hHeld ?_)
        first | (refine tq (i := 39) rfl rfl hHeld ?_) | (refine tk (i := 39) rfl rfl hHeld ?_)
        first | (refine tq (i := 40) rfl rfl hHeld ?_) | (refine tk (i := 40) rfl rfl hHeld ?_)
        first | (refine tq (i := 41) rfl rfl hHeld ?_) | (refine tk (i := 41) rfl rfl hHeld ?_)
        first | (refine tq (i := 42) rfl rfl hHeld ?_) | (refine tk (i := 42) rfl rfl hHeld ?_)
        (refine tk (i := 43) rfl rfl hHeld ?_)
        (refine tk (i := 44) rfl rfl hHeld ?_)
        first | (refine tq (i := 45) rfl rfl hHeld ?_) | (refine tk (i := 45) rfl rfl hHeld ?_)
        first | (refine tq (i := 46) rfl rfl hHeld ?_) | (refine callH (i := 46) rfl hHeld (fun W hW K hK => ?_); clear hHeld; (try dsimp only at hW); obtain ⟨h_x0, h_x1, h_x2, h_x3, h_x4, h_x5, h_x6, h_x7, h_hbk, h_o0, h_o1, h_o2, h_o3, h_o4, h_o5, h_n0, h_n1, h_n2, h_n3, h_n4, h_n5, h_B⟩ := hW; go_simp; refine (HC8.out _).mono ?_; rintro e w9 ⟨rfl, hb⟩; go_wp2_with fail; refine hK.out _ _ ?_ (fun hHeld => ?_); (focus ((try dsimp only); exact ⟨bl_cell hb h_x0, bl_cell hb h_x1, bl_cell hb h_x2, bl_cell hb h_x3, bl_cell hb h_x4, bl_cell hb h_x5, bl_cell hb h_x6, bl_cell hb h_x7, book_bl h_hbk hb, bl_cell hb h_o0, bl_cell hb h_o1, bl_cell hb h_o2, bl_cell hb h_o3, bl_cell hb h_o4, bl_cell hb h_o5, bl_cell hb h_n0, bl_cell hb h_n1, bl_cell hb h_n2, bl_cell hb h_n3, bl_cell hb h_n4, bl_cell hb h_n5, bl_then h_B hb⟩)); clear hK K; clear h_x0 h_x1 h_x2 h_x3 h_x4 h_x5 h_x6 h_x7 h_hbk h_o0 h_o1 h_o2 h_o3 h_o4 h_o5 h_n0 h_n1 h_n2 h_n3 h_n4 h_n5 h_B; try simp only [Act.put, List.setIfInBounds_toArray, List.set_cons_zero, List.set_cons_succ])
        first | (refine tq (i := 47) rfl rfl hHeld ?_) | (refine tk (i := 47) rfl rfl hHeld ?_)
        (refine tk (i := 48) rfl rfl hHeld ?_)
        refine wpAnyH_done (by kernel_rfl) ?_ _
        refine then_abs (F := fun w' => w'.cell? ⟨xb, xo + j * 8, none⟩ = some (.int .i64 1) ∧ w'.cell? ⟨xb, xo + j * 8 + 1, none⟩ = some (.string dn) ∧ w'.cell? ⟨xb, xo + j * 8 + 2, none⟩ = some (.int .i64 p.kind) ∧ w'.cell? ⟨xb, xo + j * 8 + 3, none⟩ = some (.int .i64 p.limit) ∧ w'.cell? ⟨xb, xo + j * 8 + 4, none⟩ = some (.int .i64 p.period) ∧ w'.cell? ⟨xb, xo + j * 8 + 5, none⟩ = some (.int .i64 p.burst) ∧ w'.cell? ⟨xb, xo + j * 8 + 6, none⟩ = some (.int .i64 p.cap) ∧ w'.cell? ⟨xb, xo + j * 8 + 7, none⟩ = some (.bool p.opn) ∧ BookAt w' v mb B2 ∧ w'.cell? ⟨w2.heap.size, 0, none⟩ = some (.int .i64 p.kind) ∧ w'.cell? ⟨w2.heap.size, 1, none⟩ = some (.int .i64 p.limit) ∧ w'.cell? ⟨w2.heap.size, 2, none⟩ = some (.int .i64 p.period) ∧ w'.cell? ⟨w2.heap.size, 3, none⟩ = some (.int .i64 p.burst) ∧ w'.cell? ⟨w2.heap.size, 4, none⟩ = some (.int .i64 p.cap) ∧ w'.cell? ⟨w2.heap.size, 5, none⟩ = some (.bool p.opn) ∧ w'.cell? ⟨w4.heap.size, 0, none⟩ = some (.int .i64 p.kind) ∧ w'.cell? ⟨w4.heap.size, 1, none⟩ = some (.int .i64 p.limit) ∧ w'.cell? ⟨w4.heap.size, 2, none⟩ = some (.int .i64 p.period) ∧ w'.cell? ⟨w4.heap.size, 3, none⟩ = some (.int .i64 p.burst) ∧ w'.cell? ⟨w4.heap.size, 4, none⟩ = some (.int .i64 p.cap) ∧ w'.cell? ⟨w4.heap.size, 5, none⟩ = some (.bool p.opn) ∧ Below w.heap.size w w') hHeld ?_
        clear hHeld hB x0 x1 x2 x3 x4 x5 x6 x7 hbk o0 o1 o2 o3 o4 o5 n0 n1 n2 n3 n4 n5
        rintro w7 ⟨x0, x1, x2, x3, x4, x5, x6, x7, hbk, o0, o1, o2, o3, o4, o5, n0, n1, n2, n3, n4, n5, hB⟩
        replace lb_x := World.block_lt_of_cell? w7 _ x0
        dsimp only at lb_x
        replace lb_o := World.block_lt_of_cell? w7 _ o0
        dsimp only at lb_o
        replace lb_n := World.block_lt_of_cell? w7 _ n0
        dsimp only at lb_n
        go_wp2_with fail
        go_roundw
        case rel => exact ⟨j + 1, by go_num, hj1, ⟨B2, hbk, H_HOK2.out, by have h0 := HBE.out; have h1 := H_HVER.out; have h2 := H_HVER2.out; omega, hB⟩⟩
        case measure => (simp [intOf]; omega)
      · subst e2 e3
        cases I
        · skip
          have hne := fun w => pol_neq p p w
          rw [decide_eq_true rfl] at hne
          skip
          go_wp2_with fail
          refine wp_region_held_drew (S := fun w' => w'.cell? ⟨xb, xo + j * 8, none⟩ = some (.int .i64 1) ∧ w'.cell? ⟨xb, xo + j * 8 + 1, none⟩ = some (.string dn) ∧ w'.cell? ⟨xb, xo + j * 8 + 2, none⟩ = some (.int .i64 p.kind) ∧ w'.cell? ⟨xb, xo + j * 8 + 3, none⟩ = some (.int .i64 p.limit) ∧ w'.cell? ⟨xb, xo + j * 8 + 4, none⟩ = some (.int .i64 p.period) ∧ w'.cell? ⟨xb, xo + j * 8 + 5, none⟩ = some (.int .i64 p.burst) ∧ w'.cell? ⟨xb, xo + j * 8 + 6, none⟩ = some (.int .i64 p.cap) ∧ w'.cell? ⟨xb, xo + j * 8 + 7, none⟩ = some (.bool p.opn) ∧ BookAt w' v mb B2 ∧ w'.cell? ⟨w2.heap.size, 0, none⟩ = some (.int .i64 g.kind) ∧ w'.cell? ⟨w2.heap.size, 1, none⟩ = some (.int .i64 g.limit) ∧ w'.cell? ⟨w2.heap.size, 2, none⟩ = some (.int .i64 g.period) ∧ w'.cell? ⟨w2.heap.size, 3, none⟩ = some (.int .i64 g.burst) ∧ w'.cell? ⟨w2.heap.size, 4, none⟩ = some (.int .i64 g.cap) ∧ w'.cell? ⟨w2.heap.size, 5, none⟩ = some (.bool g.opn) ∧ w'.cell? ⟨w4.heap.size, 0, none⟩ = some (.int .i64 p.kind) ∧ w'.cell? ⟨w4.heap.size, 1, none⟩ = some (.int .i64 p.limit) ∧ w'.cell? ⟨w4.heap.size, 2, none⟩ = some (.int .i64 p.period) ∧ w'.cell? ⟨w4.heap.size, 3, none⟩ = some (.int .i64 p.burst) ∧ w'.cell? ⟨w4.heap.size, 4, none⟩ = some (.int .i64 p.cap) ∧ w'.cell? ⟨w4.heap.size, 5, none⟩ = some (.bool p.opn) ∧ Below w.heap.size w w') (by kernel_rfl) ?_ (fun hHeld => ?_)
          · exact ⟨x0, x1, x2, x3, x4, x5, x6, x7, book_bl hbk (bl_drew (bl_refl _)), o0, o1, o2, o3, o4, o5, n0, n1, n2, n3, n4, n5, bl_drew hB⟩
          try simp only [Act.put, List.setIfInBounds_toArray, List.set_cons_zero, List.set_cons_succ]
          (refine tk (i := 0) rfl rfl hHeld ?_)
          (refine tk (i := 1) rfl rfl hHeld ?_)
          first | (refine tq (i := 2) rfl rfl hHeld ?_) | (refine tk (i := 2) rfl rfl hHeld ?_)
          first | (refine tq (i := 3) rfl rfl hHeld ?_) | (refine tk (i := 3) rfl rfl hHeld ?_)
          first | (refine tq (i := 4) rfl rfl hHeld ?_) | (refine tk (i := 4) rfl rfl hHeld ?_)
          first | (refine tq (i := 5) rfl rfl hHeld ?_) | (refine tk (i := 5) rfl rfl hHeld ?_)
          first | (refine tq (i := 6) rfl rfl hHeld ?_) | (refine tk (i := 6) rfl rfl hHeld ?_)
          first | (refine tq (i := 7) rfl rfl hHeld ?_) | (refine tk (i := 7) rfl rfl hHeld ?_)
          first | (refine tq (i := 8) rfl rfl hHeld ?_) | (refine tk (i := 8) rfl rfl hHeld ?_)
          (refine tk (i := 9) rfl rfl hHeld ?_)
          (refine tk (i := 10) rfl rfl hHeld ?_)
          refine wpAnyH_done (by kernel_rfl) ?_ _
          refine then_abs (F := fun w' => w'.cell? ⟨xb, xo + j * 8, none⟩ = some (.int .i64 1) ∧ w'.cell? ⟨xb, xo + j * 8 + 1, none⟩ = some (.string dn) ∧ w'.cell? ⟨xb, xo + j * 8 + 2, none⟩ = some (.int .i64 p.kind) ∧ w'.cell? ⟨xb, xo + j * 8 + 3, none⟩ = some (.int .i64 p.limit) ∧ w'.cell? ⟨xb, xo + j * 8 + 4, none⟩ = some (.int .i64 p.period) ∧ w'.cell? ⟨xb, xo + j * 8 + 5, none⟩ = some (.int .i64 p.burst) ∧ w'.cell? ⟨xb, xo + j * 8 + 6, none⟩ = some (.int .i64 p.cap) ∧ w'.cell? ⟨xb, xo + j * 8 + 7, none⟩ = some (.bool p.opn) ∧ BookAt w' v mb B2 ∧ w'.cell? ⟨w2.heap.size, 0, none⟩ = some (.int .i64 g.kind) ∧ w'.cell? ⟨w2.heap.size, 1, none⟩ = some (.int .i64 g.limit) ∧ w'.cell? ⟨w2.heap.size, 2, none⟩ = some (.int .i64 g.period) ∧ w'.cell? ⟨w2.heap.size, 3, none⟩ = some (.int .i64 g.burst) ∧ w'.cell? ⟨w2.heap.size, 4, none⟩ = some (.int .i64 g.cap) ∧ w'.cell? ⟨w2.heap.size, 5, none⟩ = some (.bool g.opn) ∧ w'.cell? ⟨w4.heap.size, 0, none⟩ = some (.int .i64 p.kind) ∧ w'.cell? ⟨w4.heap.size, 1, none⟩ = some (.int .i64 p.limit) ∧ w'.cell? ⟨w4.heap.size, 2, none⟩ = some (.int .i64 p.period) ∧ w'.cell? ⟨w4.heap.size, 3, none⟩ = some (.int .i64 p.burst) ∧ w'.cell? ⟨w4.heap.size, 4, none⟩ = some (.int .i64 p.cap) ∧ w'.cell? ⟨w4.heap.size, 5, none⟩ = some (.bool p.opn) ∧ Below w.heap.size w w') hHeld ?_
          clear hHeld hB x0 x1 x2 x3 x4 x5 x6 x7 hbk o0 o1 o2 o3 o4 o5 n0 n1 n2 n3 n4 n5
          rintro w6 ⟨x0, x1, x2, x3, x4, x5, x6, x7, hbk, o0, o1, o2, o3, o4, o5, n0, n1, n2, n3, n4, n5, hB⟩
          replace lb_x := World.block_lt_of_cell? w6 _ x0
          dsimp only at lb_x
          replace lb_o := World.block_lt_of_cell? w6 _ o0
          dsimp only at lb_o
          replace lb_n := World.block_lt_of_cell? w6 _ n0
          dsimp only at lb_n
          go_wp2_with fail
          refine wp_region_held_drew (S := fun w' => w'.cell? ⟨xb, xo + j * 8, none⟩ = some (.int .i64 1) ∧ w'.cell? ⟨xb, xo + j * 8 + 1, none⟩ = some (.string dn) ∧ w'.cell? ⟨xb, xo + j * 8 + 2, none⟩ = some (.int .i64 p.kind) ∧ w'.cell? ⟨xb, xo + j * 8 + 3, none⟩ = some (.int .i64 p.limit) ∧ w'.cell? ⟨xb, xo + j * 8 + 4, none⟩ = some (.int .i64 p.period) ∧ w'.cell? ⟨xb, xo + j * 8 + 5, none⟩ = some (.int .i64 p.burst) ∧ w'.cell? ⟨xb, xo + j * 8 + 6, none⟩ = some (.int .i64 p.cap) ∧ w'.cell? ⟨xb, xo + j * 8 + 7, none⟩ = some (.bool p.opn) ∧ BookAt w' v mb B2 ∧ w'.cell? ⟨w2.heap.size, 0, none⟩ = some (.int .i64 g.kind) ∧ w'.cell? ⟨w2.heap.size, 1, none⟩ = some (.int .i64 g.limit) ∧ w'.cell? ⟨w2.heap.size, 2, none⟩ = some (.int .i64 g.period) ∧ w'.cell? ⟨w2.heap.size, 3, none⟩ = some (.int .i64 g.burst) ∧ w'.cell? ⟨w2.heap.size, 4, none⟩ = some (.int .i64 g.cap) ∧ w'.cell? ⟨w2.heap.size, 5, none⟩ = some (.bool g.opn) ∧ w'.cell? ⟨w4.heap.size, 0, none⟩ = some (.int .i64 p.kind) ∧ w'.cell? ⟨w4.heap.size, 1, none⟩ = some (.int .i64 p.limit) ∧ w'.cell? ⟨w4.heap.size, 2, none⟩ = some (.int .i64 p.period) ∧ w'.cell? ⟨w4.heap.size, 3, none⟩ = some (.int .i64 p.burst) ∧ w'.cell? ⟨w4.heap.size, 4, none⟩ = some (.int .i64 p.cap) ∧ w'.cell? ⟨w4.heap.size, 5, none⟩ = some (.bool p.opn) ∧ Below w.heap.size w w') (by kernel_rfl) ?_ (fun hHeld => ?_)
          · exact ⟨x0, x1, x2, x3, x4, x5, x6, x7, book_bl hbk (bl_drew (bl_refl _)), o0, o1, o2, o3, o4, o5, n0, n1, n2, n3, n4, n5, bl_drew hB⟩
          try simp only [Act.put, List.setIfInBounds_toArray, List.set_cons_zero, List.set_cons_succ]
          (refine tk (i := 0) rfl rfl hHeld ?_)
          (refine tk (i := 1) rfl rfl hHeld ?_)
          (refine tk (i := 2) rfl rfl hHeld ?_)
          first | (refine tq (i := 3) rfl rfl hHeld ?_) | (refine tk (i := 3) rfl rfl hHeld ?_)
          first | (refine tq (i := 4) rfl rfl hHeld ?_) | (refine tk (i := 4) rfl rfl hHeld ?_)
          first | (refine tq (i := 5) rfl rfl hHeld ?_) | (refine tk (i := 5) rfl rfl hHeld ?_)
          first | (refine tq (i := 6) rfl rfl hHeld ?_) | (refine tk (i := 6) rfl rfl hHeld ?_)
          first | (refine tq (i := 7) rfl rfl hHeld ?_) | (refine tk (i := 7) rfl rfl hHeld ?_)
          first | (refine tq (i := 8) rfl rfl hHeld ?_) | (refine tk (i := 8) rfl rfl hHeld ?_)
          first | (refine tq (i := 9) rfl rfl hHeld ?_) | (refine tk (i := 9) rfl rfl hHeld ?_)
          (refine tk (i := 10) rfl rfl hHeld ?_)
          (refine tk (i := 11) rfl rfl hHeld ?_)
          first | (refine tq (i := 12) rfl rfl hHeld ?_) | (refine tk (i := 12) rfl rfl hHeld ?_)
          first | (refine tq (i := 13) rfl rfl hHeld ?_) | (refine tk (i := 13) rfl rfl hHeld ?_)
          first | (refine tq (i := 14) rfl rfl hHeld ?_) | (refine tk (i := 14) rfl rfl hHeld ?_)
          (refine tk (i := 15) rfl rfl hHeld ?_)
          (refine tk (i := 16) rfl rfl hHeld ?_)
          first | (refine tq (i := 17) rfl rfl hHeld ?_) | (refine tk (i := 17) rfl rfl hHeld ?_)
          first | (refine tq (i := 18) rfl rfl hHeld ?_) | (refine tk (i := 18) rfl rfl hHeld ?_)
          first | (refine tq (i := 19) rfl rfl hHeld ?_) | (refine tk (i := 19) rfl rfl hHeld ?_)
          first | (refine tq (i := 20) rfl rfl hHeld ?_) | (refine tk (i := 20) rfl rfl hHeld ?_)
          first | (refine tq (i := 21) rfl rfl hHeld ?_) | (refine tk (i := 21) rfl rfl hHeld ?_)
          first | (refine tq (i := 22) rfl rfl hHeld ?_) | (refine tk (i := 22) rfl rfl hHeld ?_)
          first | (refine tq (i := 23) rfl rfl hHeld ?_) | (refine tk (i := 23) rfl rfl hHeld ?_)
          first | (refine tq (i := 24) rfl rfl hHeld ?_) | (refine tk (i := 24) rfl rfl hHeld ?_)
          first | (refine tq (i := 25) rfl rfl hHeld ?_) | (refine tk (i := 25) rfl rfl hHeld ?_)
          first | (refine tq (i := 26) rfl rfl hHeld ?_) | (refine tk (i := 26) rfl rfl hHeld ?_)
          first | (refine tq (i := 27) rfl rfl hHeld ?_) | (refine tk (i := 27) rfl rfl hHeld ?_)
          (refine tk (i := 28) rfl rfl hHeld ?_)
          (refine tk (i := 29) rfl rfl hHeld ?_)
          first | (refine tq (i := 30) rfl rfl hHeld ?_) | (refine tk (i := 30) rfl rfl hHeld ?_)
          first | (refine tq (i := 31) rfl rfl hHeld ?_) | (refine tk (i := 31) rfl rfl hHeld ?_)
          first | (refine tq (i := 32) rfl rfl hHeld ?_) | (refine tk (i := 32) rfl rfl hHeld ?_)
          first | (refine tq (i := 33) rfl rfl hHeld ?_) | (refine tk (i := 33) rfl rfl hHeld ?_)
          first | (refine tq (i := 34) rfl rfl hHeld ?_) | (refine tk (i := 34) rfl rfl hHeld ?_)
          first | (refine tq (i := 35) rfl rfl hHeld ?_) | (refine tk (i := 35) rfl rfl hHeld ?_)
          first | (refine tq (i := 36) rfl rfl hHeld ?_) | (refine tk (i := 36) rfl rfl hHeld ?_)
          first | (refine tq (i := 37) rfl rfl hHeld ?_) | (refine tk (i := 37) rfl rfl hHeld ?_)
          first | (refine tq (i := 38) rfl rfl hHeld ?_) | (refine tk (i := 38) rfl rfl hHeld ?_)
          first | (refine tq (i := 39) rfl rfl hHeld ?_) | (refine tk (i := 39) rfl rfl hHeld ?_)
          first | (refine tq (i := 40) rfl rfl hHeld ?_) | (refine tk (i := 40) rfl rfl hHeld ?_)
          first | (refine tq (i := 41) rfl rfl hHeld ?_) | (refine tk (i := 41) rfl rfl hHeld ?_)
          first | (refine tq (i := 42) rfl rfl hHeld ?_) | (refine tk (i := 42) rfl rfl hHeld ?_)
          (refine tk (i := 43) rfl rfl hHeld ?_)
          (refine tk (i := 44) rfl rfl hHeld ?_)
          first | (refine tq (i := 45) rfl rfl hHeld ?_) | (refine tk (i := 45) rfl rfl hHeld ?_)
          first | (refine tq (i := 46) rfl rfl hHeld ?_) | (refine callH (i := 46) rfl hHeld (fun W hW K hK => ?_); clear hHeld; (try dsimp only at hW); obtain ⟨h_x0, h_x1, h_x2, h_x3, h_x4, h_x5, h_x6, h_x7, h_hbk, h_o0, h_o1, h_o2, h_o3, h_o4, h_o5, h_n0, h_n1, h_n2, h_n3, h_n4, h_n5, h_B⟩ := hW; go_simp; refine (HC8.out _).mono ?_; rintro e w9 ⟨rfl, hb⟩; go_wp2_with fail; refine hK.out _ _ ?_ (fun hHeld => ?_); (focus ((try dsimp only); exact ⟨bl_cell hb h_x0, bl_cell hb h_x1, bl_cell hb h_x2, bl_cell hb h_x3, bl_cell hb h_x4, bl_cell hb h_x5, bl_cell hb h_x6, bl_cell hb h_x7, book_bl h_hbk hb, bl_cell hb h_o0, bl_cell hb h_o1, bl_cell hb h_o2, bl_cell hb h_o3, bl_cell hb h_o4, bl_cell hb h_o5, bl_cell hb h_n0, bl_cell hb h_n1, bl_cell hb h_n2, bl_cell hb h_n3, bl_cell hb h_n4, bl_cell hb h_n5, bl_then h_B hb⟩)); clear hK K; clear h_x0 h_x1 h_x2 h_x3 h_x4 h_x5 h_x6 h_x7 h_hbk h_o0 h_o1 h_o2 h_o3 h_o4 h_o5 h_n0 h_n1 h_n2 h_n3 h_n4 h_n5 h_B; try simp only [Act.put, List.setIfInBounds_toArray, List.set_cons_zero, List.set_cons_succ])
          first | (refine tq (i := 47) rfl rfl hHeld ?_) | (refine tk (i := 47) rfl rfl hHeld ?_)
          (refine tk (i := 48) rfl rfl hHeld ?_)
          refine wpAnyH_done (by kernel_rfl) ?_ _
          refine then_abs (F := fun w' => w'.cell? ⟨xb, xo + j * 8, none⟩ = some (.int .i64 1) ∧ w'.cell? ⟨xb, xo + j * 8 + 1, none⟩ = some (.string dn) ∧ w'.cell? ⟨xb, xo + j * 8 + 2, none⟩ = some (.int .i64 p.kind) ∧ w'.cell? ⟨xb, xo + j * 8 + 3, none⟩ = some (.int .i64 p.limit) ∧ w'.cell? ⟨xb, xo + j * 8 + 4, none⟩ = some (.int .i64 p.period) ∧ w'.cell? ⟨xb, xo + j * 8 + 5, none⟩ = some (.int .i64 p.burst) ∧ w'.cell? ⟨xb, xo + j * 8 + 6, none⟩ = some (.int .i64 p.cap) ∧ w'.cell? ⟨xb, xo + j * 8 + 7, none⟩ = some (.bool p.opn) ∧ BookAt w' v mb B2 ∧ w'.cell? ⟨w2.heap.size, 0, none⟩ = some (.int .i64 g.kind) ∧ w'.cell? ⟨w2.heap.size, 1, none⟩ = some (.int .i64 g.limit) ∧ w'.cell? ⟨w2.heap.size, 2, none⟩ = some (.int .i64 g.period) ∧ w'.cell? ⟨w2.heap.size, 3, none⟩ = some (.int .i64 g.burst) ∧ w'.cell? ⟨w2.heap.size, 4, none⟩ = some (.int .i64 g.cap) ∧ w'.cell? ⟨w2.heap.size, 5, none⟩ = some (.bool g.opn) ∧ w'.cell? ⟨w4.heap.size, 0, none⟩ = some (.int .i64 p.kind) ∧ w'.cell? ⟨w4.heap.size, 1, none⟩ = some (.int .i64 p.limit) ∧ w'.cell? ⟨w4.heap.size, 2, none⟩ = some (.int .i64 p.period) ∧ w'.cell? ⟨w4.heap.size, 3, none⟩ = some (.int .i64 p.burst) ∧ w'.cell? ⟨w4.heap.size, 4, none⟩ = some (.int .i64 p.cap) ∧ w'.cell? ⟨w4.heap.size, 5, none⟩ = some (.bool p.opn) ∧ Below w.heap.size w w') hHeld ?_
          clear hHeld hB x0 x1 x2 x3 x4 x5 x6 x7 hbk o0 o1 o2 o3 o4 o5 n0 n1 n2 n3 n4 n5
          rintro w7 ⟨x0, x1, x2, x3, x4, x5, x6, x7, hbk, o0, o1, o2, o3, o4, o5, n0, n1, n2, n3, n4, n5, hB⟩
          replace lb_x := World.block_lt_of_cell? w7 _ x0
          dsimp only at lb_x
          replace lb_o := World.block_lt_of_cell? w7 _ o0
          dsimp only at lb_o
          replace lb_n := World.block_lt_of_cell? w7 _ n0
          dsimp only at lb_n
          go_wp2_with fail
          go_roundw
          case rel => exact ⟨j + 1, by go_num, hj1, ⟨B2, hbk, H_HOK2.out, by have h0 := HBE.out; have h1 := H_HVER.out; have h2 := H_HVER2.out; omega, hB⟩⟩
          case measure => (simp [intOf]; omega)
        · skip
          have hne := fun w => pol_neq p p w
          rw [decide_eq_true rfl] at hne
          have heq := fun w => pol_eql g p w
          rw [decide_eq_false (e1 rfl)] at heq
          skip
          go_wp2_with fail
          refine wp_region_held_drew (S := fun w' => w'.cell? ⟨xb, xo + j * 8, none⟩ = some (.int .i64 1) ∧ w'.cell? ⟨xb, xo + j * 8 + 1, none⟩ = some (.string dn) ∧ w'.cell? ⟨xb, xo + j * 8 + 2, none⟩ = some (.int .i64 p.kind) ∧ w'.cell? ⟨xb, xo + j * 8 + 3, none⟩ = some (.int .i64 p.limit) ∧ w'.cell? ⟨xb, xo + j * 8 + 4, none⟩ = some (.int .i64 p.period) ∧ w'.cell? ⟨xb, xo + j * 8 + 5, none⟩ = some (.int .i64 p.burst) ∧ w'.cell? ⟨xb, xo + j * 8 + 6, none⟩ = some (.int .i64 p.cap) ∧ w'.cell? ⟨xb, xo + j * 8 + 7, none⟩ = some (.bool p.opn) ∧ BookAt w' v mb B2 ∧ w'.cell? ⟨w2.heap.size, 0, none⟩ = some (.int .i64 g.kind) ∧ w'.cell? ⟨w2.heap.size, 1, none⟩ = some (.int .i64 g.limit) ∧ w'.cell? ⟨w2.heap.size, 2, none⟩ = some (.int .i64 g.period) ∧ w'.cell? ⟨w2.heap.size, 3, none⟩ = some (.int .i64 g.burst) ∧ w'.cell? ⟨w2.heap.size, 4, none⟩ = some (.int .i64 g.cap) ∧ w'.cell? ⟨w2.heap.size, 5, none⟩ = some (.bool g.opn) ∧ w'.cell? ⟨w4.heap.size, 0, none⟩ = some (.int .i64 p.kind) ∧ w'.cell? ⟨w4.heap.size, 1, none⟩ = some (.int .i64 p.limit) ∧ w'.cell? ⟨w4.heap.size, 2, none⟩ = some (.int .i64 p.period) ∧ w'.cell? ⟨w4.heap.size, 3, none⟩ = some (.int .i64 p.burst) ∧ w'.cell? ⟨w4.heap.size, 4, none⟩ = some (.int .i64 p.cap) ∧ w'.cell? ⟨w4.heap.size, 5, none⟩ = some (.bool p.opn) ∧ Below w.heap.size w w') (by kernel_rfl) ?_ (fun hHeld => ?_)
          · exact ⟨x0, x1, x2, x3, x4, x5, x6, x7, book_bl hbk (bl_drew (bl_refl _)), o0, o1, o2, o3, o4, o5, n0, n1, n2, n3, n4, n5, bl_drew hB⟩
          try simp only [Act.put, List.setIfInBounds_toArray, List.set_cons_zero, List.set_cons_succ]
          (refine tk (i := 0) rfl rfl hHeld ?_)
          (refine tk (i := 1) rfl rfl hHeld ?_)
          first | (refine tq (i := 2) rfl rfl hHeld ?_) | (refine tk (i := 2) rfl rfl hHeld ?_)
          first | (refine tq (i := 3) rfl rfl hHeld ?_) | (refine tk (i := 3) rfl rfl hHeld ?_)
          first | (refine tq (i := 4) rfl rfl hHeld ?_) | (refine tk (i := 4) rfl rfl hHeld ?_)
          first | (refine tq (i := 5) rfl rfl hHeld ?_) | (refine tk (i := 5) rfl rfl hHeld ?_)
          first | (refine tq (i := 6) rfl rfl hHeld ?_) | (refine tk (i := 6) rfl rfl hHeld ?_)
          first | (refine tq (i := 7) rfl rfl hHeld ?_) | (refine tk (i := 7) rfl rfl hHeld ?_)
          first | (refine tq (i := 8) rfl rfl hHeld ?_) | (refine tk (i := 8) rfl rfl hHeld ?_)
          (refine tk (i := 9) rfl rfl hHeld ?_)
          (refine tk (i := 10) rfl rfl hHeld ?_)
          refine wpAnyH_done (by kernel_rfl) ?_ _
          refine then_abs (F := fun w' => w'.cell? ⟨xb, xo + j * 8, none⟩ = some (.int .i64 1) ∧ w'.cell? ⟨xb, xo + j * 8 + 1, none⟩ = some (.string dn) ∧ w'.cell? ⟨xb, xo + j * 8 + 2, none⟩ = some (.int .i64 p.kind) ∧ w'.cell? ⟨xb, xo + j * 8 + 3, none⟩ = some (.int .i64 p.limit) ∧ w'.cell? ⟨xb, xo + j * 8 + 4, none⟩ = some (.int .i64 p.period) ∧ w'.cell? ⟨xb, xo + j * 8 + 5, none⟩ = some (.int .i64 p.burst) ∧ w'.cell? ⟨xb, xo + j * 8 + 6, none⟩ = some (.int .i64 p.cap) ∧ w'.cell? ⟨xb, xo + j * 8 + 7, none⟩ = some (.bool p.opn) ∧ BookAt w' v mb B2 ∧ w'.cell? ⟨w2.heap.size, 0, none⟩ = some (.int .i64 g.kind) ∧ w'.cell? ⟨w2.heap.size, 1, none⟩ = some (.int .i64 g.limit) ∧ w'.cell? ⟨w2.heap.size, 2, none⟩ = some (.int .i64 g.period) ∧ w'.cell? ⟨w2.heap.size, 3, none⟩ = some (.int .i64 g.burst) ∧ w'.cell? ⟨w2.heap.size, 4, none⟩ = some (.int .i64 g.cap) ∧ w'.cell? ⟨w2.heap.size, 5, none⟩ = some (.bool g.opn) ∧ w'.cell? ⟨w4.heap.size, 0, none⟩ = some (.int .i64 p.kind) ∧ w'.cell? ⟨w4.heap.size, 1, none⟩ = some (.int .i64 p.limit) ∧ w'.cell? ⟨w4.heap.size, 2, none⟩ = some (.int .i64 p.period) ∧ w'.cell? ⟨w4.heap.size, 3, none⟩ = some (.int .i64 p.burst) ∧ w'.cell? ⟨w4.heap.size, 4, none⟩ = some (.int .i64 p.cap) ∧ w'.cell? ⟨w4.heap.size, 5, none⟩ = some (.bool p.opn) ∧ Below w.heap.size w w') hHeld ?_
          clear hHeld hB x0 x1 x2 x3 x4 x5 x6 x7 hbk o0 o1 o2 o3 o4 o5 n0 n1 n2 n3 n4 n5
          rintro w6 ⟨x0, x1, x2, x3, x4, x5, x6, x7, hbk, o0, o1, o2, o3, o4, o5, n0, n1, n2, n3, n4, n5, hB⟩
          replace lb_x := World.block_lt_of_cell? w6 _ x0
          dsimp only at lb_x
          replace lb_o := World.block_lt_of_cell? w6 _ o0
          dsimp only at lb_o
          replace lb_n := World.block_lt_of_cell? w6 _ n0
          dsimp only at lb_n
          go_wp2_with fail
          refine wp_region_held_drew (S := fun w' => w'.cell? ⟨xb, xo + j * 8, none⟩ = some (.int .i64 1) ∧ w'.cell? ⟨xb, xo + j * 8 + 1, none⟩ = some (.string dn) ∧ w'.cell? ⟨xb, xo + j * 8 + 2, none⟩ = some (.int .i64 p.kind) ∧ w'.cell? ⟨xb, xo + j * 8 + 3, none⟩ = some (.int .i64 p.limit) ∧ w'.cell? ⟨xb, xo + j * 8 + 4, none⟩ = some (.int .i64 p.period) ∧ w'.cell? ⟨xb, xo + j * 8 + 5, none⟩ = some (.int .i64 p.burst) ∧ w'.cell? ⟨xb, xo + j * 8 + 6, none⟩ = some (.int .i64 p.cap) ∧ w'.cell? ⟨xb, xo + j * 8 + 7, none⟩ = some (.bool p.opn) ∧ BookAt w' v mb B2 ∧ w'.cell? ⟨w2.heap.size, 0, none⟩ = some (.int .i64 g.kind) ∧ w'.cell? ⟨w2.heap.size, 1, none⟩ = some (.int .i64 g.limit) ∧ w'.cell? ⟨w2.heap.size, 2, none⟩ = some (.int .i64 g.period) ∧ w'.cell? ⟨w2.heap.size, 3, none⟩ = some (.int .i64 g.burst) ∧ w'.cell? ⟨w2.heap.size, 4, none⟩ = some (.int .i64 g.cap) ∧ w'.cell? ⟨w2.heap.size, 5, none⟩ = some (.bool g.opn) ∧ w'.cell? ⟨w4.heap.size, 0, none⟩ = some (.int .i64 p.kind) ∧ w'.cell? ⟨w4.heap.size, 1, none⟩ = some (.int .i64 p.limit) ∧ w'.cell? ⟨w4.heap.size, 2, none⟩ = some (.int .i64 p.period) ∧ w'.cell? ⟨w4.heap.size, 3, none⟩ = some (.int .i64 p.burst) ∧ w'.cell? ⟨w4.heap.size, 4, none⟩ = some (.int .i64 p.cap) ∧ w'.cell? ⟨w4.heap.size, 5, none⟩ = some (.bool p.opn) ∧ Below w.heap.size w w') (by kernel_rfl) ?_ (fun hHeld => ?_)
          · exact ⟨x0, x1, x2, x3, x4, x5, x6, x7, book_bl hbk (bl_drew (bl_refl _)), o0, o1, o2, o3, o4, o5, n0, n1, n2, n3, n4, n5, bl_drew hB⟩
          try simp only [Act.put, List.setIfInBounds_toArray, List.set_cons_zero, List.set_cons_succ]
          (refine tk (i := 0) rfl rfl hHeld ?_)
          (refine tk (i := 1) rfl rfl hHeld ?_)
          (refine tk (i := 2) rfl rfl hHeld ?_)
          first | (refine tq (i := 3) rfl rfl hHeld ?_) | (refine tk (i := 3) rfl rfl hHeld ?_)
          first | (refine tq (i := 4) rfl rfl hHeld ?_) | (refine tk (i := 4) rfl rfl hHeld ?_)
          first | (refine tq (i := 5) rfl rfl hHeld ?_) | (refine tk (i := 5) rfl rfl hHeld ?_)
          first | (refine tq (i := 6) rfl rfl hHeld ?_) | (refine tk (i := 6) rfl rfl hHeld ?_)
          first | (refine tq (i := 7) rfl rfl hHeld ?_) | (refine tk (i := 7) rfl rfl hHeld ?_)
          first | (refine tq (i := 8) rfl rfl hHeld ?_) | (refine tk (i := 8) rfl rfl hHeld ?_)
          first | (refine tq (i := 9) rfl rfl hHeld ?_) | (refine tk (i := 9) rfl rfl hHeld ?_)
          (refine tk (i := 10) rfl rfl hHeld ?_)
          (refine tk (i := 11) rfl rfl hHeld ?_)
          first | (refine tq (i := 12) rfl rfl hHeld ?_) | (refine tk (i := 12) rfl rfl hHeld ?_)
          first | (refine tq (i := 13) rfl rfl hHeld ?_) | (refine tk (i := 13) rfl rfl hHeld ?_)
          first | (refine tq (i := 14) rfl rfl hHeld ?_) | (refine tk (i := 14) rfl rfl hHeld ?_)
          (refine tk (i := 15) rfl rfl hHeld ?_)
          (refine tk (i := 16) rfl rfl hHeld ?_)
          first | (refine tq (i := 17) rfl rfl hHeld ?_) | (refine tk (i := 17) rfl rfl hHeld ?_)
          first | (refine tq (i := 18) rfl rfl hHeld ?_) | (refine tk (i := 18) rfl rfl hHeld ?_)
          first | (refine tq (i := 19) rfl rfl hHeld ?_) | (refine tk (i := 19) rfl rfl hHeld ?_)
          first | (refine tq (i := 20) rfl rfl hHeld ?_) | (refine tk (i := 20) rfl rfl hHeld ?_)
          first | (refine tq (i := 21) rfl rfl hHeld ?_) | (refine tk (i := 21) rfl rfl hHeld ?_)
          first | (refine tq (i := 22) rfl rfl hHeld ?_) | (refine tk (i := 22) rfl rfl hHeld ?_)
          first | (refine tq (i := 23) rfl rfl hHeld ?_) | (refine tk (i := 23) rfl rfl hHeld ?_)
          first | (refine tq (i := 24) rfl rfl hHeld ?_) | (refine tk (i := 24) rfl rfl hHeld ?_)
          first | (refine tq (i := 25) rfl rfl hHeld ?_) | (refine tk (i := 25) rfl rfl hHeld ?_)
          first | (refine tq (i := 26) rfl rfl hHeld ?_) | (refine tk (i := 26) rfl rfl hHeld ?_)
          first | (refine tq (i := 27) rfl rfl hHeld ?_) | (refine tk (i := 27) rfl rfl hHeld ?_)
          (refine tk (i := 28) rfl rfl hHeld ?_)
          (refine tk (i := 29) rfl rfl hHeld ?_)
          first | (refine tq (i := 30) rfl rfl hHeld ?_) | (refine tk (i := 30) rfl rfl hHeld ?_)
          first | (refine tq (i := 31) rfl rfl hHeld ?_) | (refine tk (i := 31) rfl rfl hHeld ?_)
          first | (refine tq (i := 32) rfl rfl hHeld ?_) | (refine tk (i := 32) rfl rfl hHeld ?_)
          first | (refine tq (i := 33) rfl rfl hHeld ?_) | (refine tk (i := 33) rfl rfl hHeld ?_)
          first | (refine tq (i := 34) rfl rfl hHeld ?_) | (refine tk (i := 34) rfl rfl hHeld ?_)
          first | (refine tq (i := 35) rfl rfl hHeld ?_) | (refine tk (i := 35) rfl rfl hHeld ?_)
          first | (refine tq (i := 36) rfl rfl hHeld ?_) | (refine tk (i := 36) rfl rfl hHeld ?_)
          first | (refine tq (i := 37) rfl rfl hHeld ?_) | (refine tk (i := 37) rfl rfl hHeld ?_)
          first | (refine tq (i := 38) rfl rfl hHeld ?_) | (refine tk (i := 38) rfl rfl hHeld ?_)
          first | (refine tq (i := 39) rfl rfl hHeld ?_) | (refine tk (i := 39) rfl rfl hHeld ?_)
          first | (refine tq (i := 40) rfl rfl hHeld ?_) | (refine tk (i := 40) rfl rfl hHeld ?_)
          first | (refine tq (i := 41) rfl rfl hHeld ?_) | (refine tk (i := 41) rfl rfl hHeld ?_)
          first | (refine tq (i := 42) rfl rfl hHeld ?_) | (refine tk (i := 42) rfl rfl hHeld ?_)
          (refine tk (i := 43) rfl rfl hHeld ?_)
          (refine tk (i := 44) rfl rfl hHeld ?_)
          first | (refine tq (i := 45) rfl rfl hHeld ?_) | (refine tk (i := 45) rfl rfl hHeld ?_)
          first | (refine tq (i := 46) rfl rfl hHeld ?_) | (refine callH (i := 46) rfl hHeld (fun W hW K hK => ?_); clear hHeld; (try dsimp only at hW); obtain ⟨h_x0, h_x1, h_x2, h_x3, h_x4, h_x5, h_x6, h_x7, h_hbk, h_o0, h_o1, h_o2, h_o3, h_o4, h_o5, h_n0, h_n1, h_n2, h_n3, h_n4, h_n5, h_B⟩ := hW; go_simp; refine (HC8.out _).mono ?_; rintro e w9 ⟨rfl, hb⟩; go_wp2_with fail; refine hK.out _ _ ?_ (fun hHeld => ?_); (focus ((try dsimp only); exact ⟨bl_cell hb h_x0, bl_cell hb h_x1, bl_cell hb h_x2, bl_cell hb h_x3, bl_cell hb h_x4, bl_cell hb h_x5, bl_cell hb h_x6, bl_cell hb h_x7, book_bl h_hbk hb, bl_cell hb h_o0, bl_cell hb h_o1, bl_cell hb h_o2, bl_cell hb h_o3, bl_cell hb h_o4, bl_cell hb h_o5, bl_cell hb h_n0, bl_cell hb h_n1, bl_cell hb h_n2, bl_cell hb h_n3, bl_cell hb h_n4, bl_cell hb h_n5, bl_then h_B hb⟩)); clear hK K; clear h_x0 h_x1 h_x2 h_x3 h_x4 h_x5 h_x6 h_x7 h_hbk h_o0 h_o1 h_o2 h_o3 h_o4 h_o5 h_n0 h_n1 h_n2 h_n3 h_n4 h_n5 h_B; try simp only [Act.put, List.setIfInBounds_toArray, List.set_cons_zero, List.set_cons_succ])
          first | (refine tq (i := 47) rfl rfl hHeld ?_) | (refine tk (i := 47) rfl rfl hHeld ?_)
          (refine tk (i := 48) rfl rfl hHeld ?_)
          refine wpAnyH_done (by kernel_rfl) ?_ _
          refine then_abs (F := fun w' => w'.cell? ⟨xb, xo + j * 8, none⟩ = some (.int .i64 1) ∧ w'.cell? ⟨xb, xo + j * 8 + 1, none⟩ = some (.string dn) ∧ w'.cell? ⟨xb, xo + j * 8 + 2, none⟩ = some (.int .i64 p.kind) ∧ w'.cell? ⟨xb, xo + j * 8 + 3, none⟩ = some (.int .i64 p.limit) ∧ w'.cell? ⟨xb, xo + j * 8 + 4, none⟩ = some (.int .i64 p.period) ∧ w'.cell? ⟨xb, xo + j * 8 + 5, none⟩ = some (.int .i64 p.burst) ∧ w'.cell? ⟨xb, xo + j * 8 + 6, none⟩ = some (.int .i64 p.cap) ∧ w'.cell? ⟨xb, xo + j * 8 + 7, none⟩ = some (.bool p.opn) ∧ BookAt w' v mb B2 ∧ w'.cell? ⟨w2.heap.size, 0, none⟩ = some (.int .i64 g.kind) ∧ w'.cell? ⟨w2.heap.size, 1, none⟩ = some (.int .i64 g.limit) ∧ w'.cell? ⟨w2.heap.size, 2, none⟩ = some (.int .i64 g.period) ∧ w'.cell? ⟨w2.heap.size, 3, none⟩ = some (.int .i64 g.burst) ∧ w'.cell? ⟨w2.heap.size, 4, none⟩ = some (.int .i64 g.cap) ∧ w'.cell? ⟨w2.heap.size, 5, none⟩ = some (.bool g.opn) ∧ w'.cell? ⟨w4.heap.size, 0, none⟩ = some (.int .i64 p.kind) ∧ w'.cell? ⟨w4.heap.size, 1, none⟩ = some (.int .i64 p.limit) ∧ w'.cell? ⟨w4.heap.size, 2, none⟩ = some (.int .i64 p.period) ∧ w'.cell? ⟨w4.heap.size, 3, none⟩ = some (.int .i64 p.burst) ∧ w'.cell? ⟨w4.heap.size, 4, none⟩ = some (.int .i64 p.cap) ∧ w'.cell? ⟨w4.heap.size, 5, none⟩ = some (.bool p.opn) ∧ Below w.heap.size w w') hHeld ?_
          clear hHeld hB x0 x1 x2 x3 x4 x5 x6 x7 hbk o0 o1 o2 o3 o4 o5 n0 n1 n2 n3 n4 n5
          rintro w7 ⟨x0, x1, x2, x3, x4, x5, x6, x7, hbk, o0, o1, o2, o3, o4, o5, n0, n1, n2, n3, n4, n5, hB⟩
          replace lb_x := World.block_lt_of_cell? w7 _ x0
          dsimp only at lb_x
          replace lb_o := World.block_lt_of_cell? w7 _ o0
          dsimp only at lb_o
          replace lb_n := World.block_lt_of_cell? w7 _ n0
          dsimp only at lb_n
          go_wp2_with fail
          go_roundw
          case rel => exact ⟨j + 1, by go_num, hj1, ⟨B2, hbk, H_HOK2.out, by have h0 := HBE.out; have h1 := H_HVER.out; have h2 := H_HVER2.out; omega, hB⟩⟩
          case measure => (simp [intOf]; omega)
    · have hje : m = j := by omega
      subst hje
      clear HA HLG HNW hbk hok hver
      go_wp2_with fail
      refine (HKN.out _).mono ?_
      rintro e w6 ⟨rfl, hb⟩
      have hsz6 : wr.heap.size + 0 ≤ w6.heap.size := by have h := hb.size; (try simp at h); omega
      replace hB : Below w.heap.size w w6 := bl_then hB hb
      clear hb
      go_wp2_with fail
      go_ret
      exact ⟨rfl, hB⟩

theorem versions_walk (la : Option Addr) (m lc : Nat) (ds : Nat → BD) (w : World) (hA : BDsIn w la m ds) : Calls Try.prog 3 #[.slice la m lc] w fun e w' => e = .returned (.bool true) ∧ Below w.heap.size w w' := by
  by_cases hm : (60 : Int) < m
  · exact versions_long la m lc ds w hA hm
  · exact versions_run la m lc ds w hA hm
end Go.Proofs.Ytmndkhklhfnjhaa

namespace Go.Proofs.Ytmndkhklhfnjhaa.bookVersions
open Go.ChangeShapes Go.WideShapes Go.ChangeAt Go.RowKit
open Go.ChangeMaps (open_string shut_string)
set_option linter.unusedVariables false
set_option linter.unusedSimpArgs false

theorem own : ownKnob Try.prog.godebug = none := by kernel_rfl
theorem laidOut : laidOutB Try.prog = true := by kernel_rfl

set_option maxHeartbeats 1000000 in
set_option maxRecDepth 100000 in
theorem lifted (os : Os) (started : os.Started) (H : Type) (enc : TypeId × Value → H) :
    ReturnsInHanded {} Try.checked os 3 .any (Rows.bookVersionsSpec.pre6 enc Try.prog Try.f3 Rows.bookVersionsRow.domain false) (Rows.bookVersionsSpec.post enc Try.prog Try.f3 false true false false) := by
  refine returnsInHanded_of_change (C := Try.checked) own started (by kernel_rfl) Try.func3
    (ChangeSpec.witness6 (enc := enc) (C := Try.checked) false ⟨#[], #[.slice none 0 0], []⟩ 8 (by kernel_rfl) (by kernel_rfl) (by kernel_rfl) (by kernel_rfl)) ?_
  intro W base args ds gs before hval0 hW hcnd _
  have hval : ∀ (j : Nat) t v, Try.f3.params[j]? = some t → args[j]? = some v → Value.okWide Try.prog W .any base t v := hval0
  have hW' := hW
  obtain ⟨p, q, hA0, hV, rfl, hfz, hnd⟩ := hW
  have hA : DataW.TrodAll enc Try.prog W 0 (fun _ => true) true Try.f3.params.toList args.toList ds p := hA0
  rw [Try.params3] at hA hval
  obtain ⟨v0, vs0, d0, ds0', p0, q0, hargs, rfl, rfl, h0, r0⟩ := trodAll_cons hA
  obtain ⟨rfl, rfl, rfl⟩ := trodAll_nil r0
  obtain rfl : args = #[v0] := by cases args; simp_all
  obtain ⟨rfl, rfl⟩ := trodVars_none hV
  obtain ⟨a0, len0, cap0, rfl⟩ := okWide_slice Try.underlying22 (hval 0 22 v0 rfl rfl)
  have k0 := h0
  have lt0 : ∀ x ∈ p0, x.block < W.heap.size := by obtain ⟨m, hm⟩ := k0; exact DataW.trod_lt m _ _ _ hm
  obtain ⟨ds0, w0⟩ : ∃ ds, BDsIn W a0 len0 ds := by obtain ⟨fuel, hf⟩ := h0; exact open_bds (by simpa [Value.cells] using hf)
  clear hA0 hval0
  refine (versions_walk a0 len0 cap0 ds0 W w0).mono fun e W' ⟨he, bel⟩ => ?_
  subst he
  exact ⟨_, rfl, _, _, _, [], _, [], hW', trodAll_mk1 (shut_bool Try.underlying4 _), (trodAll_cons_mk (Below.trod laidOut (by kernel_rfl) (of_decide_eq_true (by kernel_rfl)) k0 bel lt0) trodAll_mk0), rfl, bel.frame _, fun h => by cases h⟩

theorem over : Rows.bookVersionsRow.holds Try.pinned (OpenSpec.ofChange Rows.bookVersionsSpec) :=
  OpenClaim.holds_of_wide 3 Try.f3 rfl rfl rfl rfl rfl rfl rfl ⟨rfl, rfl, rfl, rfl, rfl⟩ rfl rfl rfl rfl rfl (by kernel_rfl) Try.func3 (by kernel_rfl)
    (of_decide_eq_true (by kernel_rfl)) (by unfold Func.isWrapper; first | (rw [if_pos (by decide +kernel)]; kernel_rfl) | (rw [if_neg (by decide +kernel)]; exact ⟨rfl, rfl⟩))
    (fun os started H enc _ => lifted os started H enc)

/-- The statement. -/
theorem proved : Rows.BookVersionsSaid := over
end Go.Proofs.Ytmndkhklhfnjhaa.bookVersions
