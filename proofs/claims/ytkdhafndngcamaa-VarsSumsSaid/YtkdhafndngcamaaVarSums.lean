/-
  The law VarsSums: what is added, one behind the other, is the sum. For every input.
-/
import Derived.Test.YtkdhafndngcamaaVarEnds
namespace Go.Proofs.Ytkdhafndngcamaa
open Go.RowKit Go.Maps
set_option linter.unusedVariables false

/-- A slice of ints that came in: nil, or a row of cells. -/
def IntsIn (w : World) (a : Option Addr) (len cap : Nat) (zs : List Int) : Prop :=
  (a = none ∧ len = 0 ∧ cap = 0 ∧ zs = []) ∨
  ∃ x, a = some x ∧ len ≤ cap ∧ cap ≤ maxLen ∧ zs.length = cap ∧ (∀ i, i < zs.length → w.cell? (x.add i) = some (.int .i64 (zs.getD i 0))) ∧ ∀ n ∈ zs, (Lit.int .i64 n).wf = true

theorem IntsIn.at_ {w : World} {a : Option Addr} {len cap : Nat} {zs : List Int} (h : IntsIn w a len cap zs) {k : Nat} (hk : k < len) :
    ∃ b off, a = some ⟨b, off, none⟩ ∧ w.cell? ⟨b, off + k, none⟩ = some (.int .i64 (zs.getD k 0)) ∧ -9223372036854775808 ≤ zs.getD k 0 ∧ zs.getD k 0 ≤ 9223372036854775807 := by
  rcases h with ⟨rfl, rfl, _, _⟩ | ⟨x, rfl, hl, hm, hz, hc, hw⟩
  · omega
  · have h0 := hc k (by omega)
    obtain ⟨b, off, spot⟩ := x
    have hsp : spot = none := by
      have h1 := hc 0 (by omega)
      simpa [Addr.add] using World.cell?_spot h1
    subst hsp
    have hmem : zs.getD k 0 ∈ zs := by rw [List.getD_eq_getElem?_getD, List.getElem?_eq_getElem (by omega)]; exact List.getElem_mem _
    have hwf := hw _ hmem
    simp only [Lit.wf, Bool.and_eq_true, decide_eq_true_eq] at hwf
    have m0 : IntKind.i64.min = -9223372036854775808 := rfl
    have m1 : IntKind.i64.max = 9223372036854775807 := rfl
    refine ⟨b, off, rfl, ?_, by omega, by omega⟩
    rw [← h0]
    congr 1
    unfold Addr.add
    split <;> simp_all

theorem sum_pos {c x : Int} (h : addOk c x = true) (hx : 0 < x) : ¬ wrap64 (c + x) < c := by rw [add_wrap c x h]; omega
theorem sum_neg {c x : Int} (h : addOk c x = true) (hx : x < 0) : ¬ c < wrap64 (c + x) := by rw [add_wrap c x h]; omega

/-- The loop's state. -/
theorem ss_add {c : Int} : pAddTo (st c (-1)) sA.data.toList 0 = (c, -1) := st_add c (-1) 0 (there_none 0)

set_option maxRecDepth 100000 in
set_option maxHeartbeats 4000000 in
theorem sums_walk (n : Int) (a : Option Addr) (len cap : Nat) (zs : List Int) (w : World) (hn0 : -9223372036854775808 ≤ n) (hn1 : n ≤ 9223372036854775807) (hz : IntsIn w a len cap zs) :
    Calls Try.prog 3 #[.int .i64 n, .slice a len cap] w fun e w' => e = .returned (.bool true) ∧ Below w.heap.size w w' := by
  have kn := known_any
  have n0 := nv_new (w0 := w) 1 (bl_refl w)
  rw [show clipR 1 = 1 by decide] at n0
  have n1 := fun W v (h : NewVars w W v 1 []) => nv_set sA sA_le n 0 h
  have f1 : pPutOk [] 1 sA.data.toList 0 = true := rfl
  have f2 : pPut [] 1 sA.data.toList (n, -1) 0 = st n (-1) := rfl
  simp only [f1, f2, if_true] at n1
  have n2 := fun (c x : Int) W v (c0 : -9223372036854775808 ≤ c) (c1 : c ≤ 9223372036854775807) (x0 : -9223372036854775808 ≤ x) (x1 : x ≤ 9223372036854775807) (h : NewVars w W v 1 (st c (-1))) => nv_add sA sA_le x 0 x0 x1 h (by rw [ss_add]; exact ⟨c0, c1⟩)
  have n3 := fun (c : Int) W v (h : NewVars w W v 1 (st c (-1))) => nv_get sA sA_le 0 h
  simp only [st_find, there_none, if_true, Option.map_some, Option.getD_some, Option.isSome_some] at n3
  have n4 := fun (c : Int) W v (h : NewVars w W v 1 (st c (-1))) => nv_add sB sB_le 1 0 (by omega) (by omega) h (show -9223372036854775808 ≤ (0 : Int) ∧ (0 : Int) ≤ 9223372036854775807 from ⟨by omega, by omega⟩)
  have g1 : ∀ c, pAddE (st c (-1)) 1 sB.data.toList 1 0 = 5 := fun c => (pAdd_full (pm := st c (-1)) (room := 1) (k := sB.data.toList) (n := 1) (now := 0) (show addOk 0 1 = true by decide) (show pPutOk (st c (-1)) 1 sB.data.toList 0 = false from rfl)).1
  simp only [g1] at n4
  have KN := Go.Lib.hid kn
  have N0 := Go.Lib.hid n0
  have N1 := Go.Lib.hid n1
  have N2 := Go.Lib.hid n2
  have N3 := Go.Lib.hid n3
  have N4 := Go.Lib.hid n4
  have HZ := Go.Lib.hid hz
  clear kn n0 n1 n2 n3 n4 f1 f2 hz
  by_cases h60 : (60 : Int) < len
  · go_enter Try.func3, Try.ntmps3
    go_wp2_with fail
    refine (KN.out _).mono ?_
    rintro e w' ⟨rfl, hb⟩
    go_wp2
    go_ret
    exact ⟨rfl, hb⟩
  · go_enter Try.func3, Try.ntmps3
    go_wp2_with fail
    refine (N0.out).mono ?_
    rintro e w' ⟨v, rfl, h0⟩
    go_wp2_with fail
    refine (N1.out _ _ h0).mono ?_
    rintro e w1 ⟨rfl, h1⟩
    have H1 := Go.Lib.hid h1
    clear h0 h1
    go_wp2_with fail
    go_loopw [6, 7] (fun s6 s7 wr => ∃ (c : Int) (k : Nat), s6 = .int .i64 c ∧ s7 = .int .i64 k ∧ k ≤ len ∧ -9223372036854775808 ≤ c ∧ c ≤ 9223372036854775807 ∧ Hid (NewVars w wr v 1 (st c (-1))))
      (fun _ s7 _ => len - (intOf s7).toNat)
    case atStart => exact ⟨n, 0, rfl, rfl, Nat.zero_le _, hn0, hn1, H1⟩
    case round =>
      obtain ⟨c, k, rfl, rfl, hk, c0, c1, H⟩ := hrel
      by_cases hlt : k < len
      · obtain ⟨b, off, rfl, hcell, x0, x1⟩ := HZ.out.at_ hlt
        have hcr : wr.cell? ⟨b, off + k, none⟩ = some (.int .i64 (zs.getD k 0)) := (H.out.bl.cell (World.block_lt_of_cell? w _ hcell)).trans hcell
        generalize zs.getD k 0 = x at hcr x0 x1
        have ha := fun W v (h : NewVars w W v 1 (st c (-1))) => N2.out c x W v c0 c1 x0 x1 h
        have hk0 : (0 : Int) ≤ (k : Int) := by omega
        have hk1 : (k : Int) < (len : Int) := by omega
        clear hcell
        cases hok : addOk c x
        · obtain ⟨e1, e2, e3⟩ := pAdd_over (pm := st c (-1)) (room := 1) (k := sA.data.toList) (n := x) (now := 0) (by rw [ss_add]; exact hok)
          rw [e1, e2, e3] at ha
          have HA := Go.Lib.hid ha
          have hxx : c + x < -9223372036854775808 ∨ 9223372036854775807 < c + x := by
            unfold addOk at hok
            simp at hok
            omega
          clear ha e1 e2 e3 hok
          rcases hxx with hxx | hxx
          · have q1 : x < 0 := by omega
            have q2 : ¬ 0 < x := by omega
            have q3 : c < wrap64 (c + x) := by unfold wrap64; omega
            clear hxx
            go_wp2_with fail
            refine (HA.out _ _ H.out).mono ?_
            rintro e w2 ⟨rfl, h2⟩
            have H2 := Go.Lib.hid h2
            clear h2
            go_wp2_with fail
            refine (N3.out _ _ _ H2.out).mono ?_
            rintro e w3 ⟨rfl, h3⟩
            have H3 := Go.Lib.hid h3
            clear h3
            go_wp2
            go_roundw
            case rel => exact ⟨c, k + 1, rfl, by go_num, by omega, by omega, by omega, H3⟩
            case measure => simp [intOf]; omega
          · have q1 : 0 < x := by omega
            have q3 : wrap64 (c + x) < c := by unfold wrap64; omega
            clear hxx
            go_wp2_with fail
            refine (HA.out _ _ H.out).mono ?_
            rintro e w2 ⟨rfl, h2⟩
            have H2 := Go.Lib.hid h2
            clear h2
            go_wp2_with fail
            refine (N3.out _ _ _ H2.out).mono ?_
            rintro e w3 ⟨rfl, h3⟩
            have H3 := Go.Lib.hid h3
            clear h3
            go_wp2
            go_roundw
            case rel => exact ⟨c, k + 1, rfl, by go_num, by omega, by omega, by omega, H3⟩
            case measure => simp [intOf]; omega
        · obtain ⟨e1, e2, e3⟩ := pAdd_done (pm := st c (-1)) (room := 1) (k := sA.data.toList) (n := x) (now := 0) (by rw [ss_add]; exact hok) (st_putOk _ _ _ _ (by omega))
          rw [e1, e2, e3, ss_add, st_put _ _ _ _ (by omega)] at ha
          have HA := Go.Lib.hid ha
          have hs : -9223372036854775808 ≤ c + x ∧ c + x ≤ 9223372036854775807 := by unfold addOk at hok; simpa using hok
          obtain ⟨s0, s1⟩ := hs
          clear ha e1 e2 e3 hok
          rcases Int.lt_trichotomy x 0 with q1 | q1 | q1
          · have q2 : ¬ 0 < x := by omega
            have q3 : ¬ c < c + x := by omega
            go_wp2_with fail
            refine (HA.out _ _ H.out).mono ?_
            rintro e w2 ⟨rfl, h2⟩
            have H2 := Go.Lib.hid h2
            clear h2
            go_wp2_with fail
            refine (N3.out _ _ _ H2.out).mono ?_
            rintro e w3 ⟨rfl, h3⟩
            have H3 := Go.Lib.hid h3
            clear h3
            go_wp2
            go_roundw
            case rel => exact ⟨c + x, k + 1, rfl, by go_num, by omega, by omega, by omega, H3⟩
            case measure => simp [intOf]; omega
          · subst q1
            have q2 : ¬ (0 : Int) < 0 := by omega
            go_wp2_with fail
            refine (HA.out _ _ H.out).mono ?_
            rintro e w2 ⟨rfl, h2⟩
            have H2 := Go.Lib.hid h2
            clear h2
            go_wp2_with fail
            refine (N3.out _ _ _ H2.out).mono ?_
            rintro e w3 ⟨rfl, h3⟩
            have H3 := Go.Lib.hid h3
            clear h3
            go_wp2
            go_roundw
            case rel => exact ⟨c, k + 1, rfl, by go_num, by omega, by omega, by omega, by have h4 := H3.out; rw [Int.add_zero] at h4; exact h4⟩
            case measure => simp [intOf]; omega
          · have q3 : ¬ c + x < c := by omega
            go_wp2_with fail
            refine (HA.out _ _ H.out).mono ?_
            rintro e w2 ⟨rfl, h2⟩
            have H2 := Go.Lib.hid h2
            clear h2
            go_wp2_with fail
            refine (N3.out _ _ _ H2.out).mono ?_
            rintro e w3 ⟨rfl, h3⟩
            have H3 := Go.Lib.hid h3
            clear h3
            go_wp2
            go_roundw
            case rel => exact ⟨c + x, k + 1, rfl, by go_num, by omega, by omega, by omega, H3⟩
            case measure => simp [intOf]; omega
      · obtain rfl : k = len := by omega
        have hk1 : ¬ (k : Int) < (k : Int) := by omega
        go_wp2_with fail
        refine (N4.out _ _ _ H.out).mono ?_
        rintro e w2 ⟨rfl, h2⟩
        have H2 := Go.Lib.hid h2
        clear h2
        go_wp2_with fail
        refine (KN.out _).mono ?_
        rintro e w3 ⟨rfl, h3⟩
        have H3 := Go.Lib.hid h3
        clear h3
        go_wp2
        go_ret
        exact ⟨rfl, bl_then H2.out.bl H3.out⟩
end Go.Proofs.Ytkdhafndngcamaa
