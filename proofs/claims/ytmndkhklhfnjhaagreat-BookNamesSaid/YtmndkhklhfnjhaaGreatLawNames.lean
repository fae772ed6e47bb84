/-
  The statement BookNames of this seat: for every input the law returns true, and each argument reads afterwards as it read before. No condition.
-/
import Derived.Test.YtmndkhklhfnjhaaGreatM1
import Derived.Test.YtmndkhklhfnjhaaGreatRows
import Derived.WalkKit
import Derived.ProofKit
import Derived.OpenShut
import Derived.ShutString
import Derived.ChangeOld
import Derived.Below
namespace Go.Proofs.YtmndkhklhfnjhaaGreat
open Go.RowKit Go.Maps
set_option linter.unusedVariables false
set_option linter.unusedSimpArgs false

theorem bds_bl {w w' : World} {a : Option Addr} {len : Nat} {ds : Nat → BD} (h : BDsIn w a len ds) (hb : Below w.heap.size w w') : BDsIn w' a len ds :=
  ⟨h.1, fun i hi => by
    obtain ⟨h1, b, off, e, c0, c1, c2, c3, c4, c5, c6, c7⟩ := h.2 i hi
    exact ⟨h1, b, off, e, bl_cell hb c0, bl_cell hb c1, bl_cell hb c2, bl_cell hb c3, bl_cell hb c4, bl_cell hb c5, bl_cell hb c6, bl_cell hb c7⟩⟩
set_option maxHeartbeats 2000000 in
set_option maxRecDepth 100000 in
theorem names_long (la : Option Addr) (m lc : Nat) (ds : Nat → BD) (w : World) (hA : BDsIn w la m ds) (hm : (60 : Int) < m) :
    Calls Tryz.prog 4 #[.slice la m lc] w fun e w' => e = .returned (.bool true) ∧ Below w.heap.size w w' := by
  have HKN := Go.Lib.hid bknown
  clear hA
  go_enter Tryz.func4, Tryz.ntmps4
  go_wp2_with fail
  refine (HKN.out _).mono ?_
  rintro e w1 ⟨rfl, hb⟩
  have hsz1 : w.heap.size + 0 ≤ w1.heap.size := by have h := hb.size; (try simp at h); omega
  have hB : Below w.heap.size w w1 := hb
  clear hb
  go_wp2_with fail
  go_ret
  exact ⟨rfl, hB⟩

set_option maxHeartbeats 2000000 in
set_option maxRecDepth 100000 in
theorem names_run (la : Option Addr) (m lc : Nat) (ds : Nat → BD) (w : World) (hA : BDsIn w la m ds) (hm : ¬ (60 : Int) < m) :
    Calls Tryz.prog 4 #[.slice la m lc] w fun e w' => e = .returned (.bool true) ∧ Below w.heap.size w w' := by
  have HKN := Go.Lib.hid bknown
  have HNW := Go.Lib.hid bnew_book
  have HLG := Go.Lib.hid (blong_any la m lc ds w hA)
  have HA := Go.Lib.hid hA
  clear hA
  go_enter Tryz.func4, Tryz.ntmps4
  go_wp2_with fail
  refine (HLG.out).mono ?_
  rintro e w1 ⟨q, rfl, rfl⟩
  by_cases hq : 1500 < q
  · skip
    go_wp2_with fail
    refine (HKN.out _).mono ?_
    rintro e w1 ⟨rfl, hb⟩
    have hsz1 : w.heap.size + 0 ≤ w1.heap.size := by have h := hb.size; (try simp at h); omega
    have hB : Below w.heap.size w w1 := hb
    clear hb
    go_wp2_with fail
    go_ret
    exact ⟨rfl, hB⟩
  go_wp2_with fail
  refine (HNW.out _).mono ?_
  rintro e w1 ⟨v, mb, rfl, hbk, hv1, hm1, hB⟩
  go_wp2_with fail
  go_loopw [4] (fun s4 wr => ∃ j : Nat, s4 = .int .i64 j ∧ j ≤ m ∧ Hid (∃ b : Bk, BookAt wr v mb b ∧ OkB namedB b ∧ b.2 ≤ j ∧ Below w.heap.size w wr)) (fun s4 _ => m - (intOf s4).toNat)
  case atStart => exact ⟨0, rfl, Nat.zero_le _, ⟨([], 0), hbk, okB_nil, Int.le_refl _, hB⟩⟩
  case round =>
    clear hbk hB
    obtain ⟨j, rfl, hj, H⟩ := hrel
    obtain ⟨B, hbk, hok, hver, hB⟩ := H.out
    clear H
    by_cases hjn : j < m
    · skip
      obtain ⟨hs, xb, xo, hla, y0, y1, y2, y3, y4, y5, y6, y7⟩ := HA.out.2 j hjn
      subst hla
      have lb_a := World.block_lt_of_cell? w _ y0
      dsimp only at lb_a
      have x0 := bl_cell hB y0
      have x1 := bl_cell hB y1
      have x2 := bl_cell hB y2
      have x3 := bl_cell hB y3
      have x4 := bl_cell hB y4
      have x5 := bl_cell hB y5
      have x6 := bl_cell hB y6
      have x7 := bl_cell hB y7
      clear y0 y1 y2 y3 y4 y5 y6 y7
      have hlt := hbk.lt
      have hlen := hok.len
      have hv := hok.ver
      have hok2 := okB_did hok (ds j)
      have hver2 := ver_did B (ds j)
      have hms : m - (j + 1) < m - j := by omega
      have hj1 : j + 1 ≤ m := hjn
      have hm2 : (m : Int) ≤ 60 := by omega
      have k0 : (0 : Int) ≤ (j : Int) := by omega
      have k1 : (j : Int) < (m : Int) := by omega
      have wj : IntKind.i64.wrap ((j : Int) + 1) = (j : Int) + 1 := IntWalk.i64_in _ (by omega)
      have hdd := fun w h => did_book (v := v) (mb := mb) (b := B) (ds j) hs (by omega) hlen w h
      generalize didB B (ds j) = B2 at *
      generalize didV B (ds j) = V at *
      generalize ds j = d at *
      obtain ⟨dk, dn, p⟩ := d
      obtain ⟨dv, de⟩ := V
      unfold BD.v at hdd
      dsimp only at *
      have H_HDD := Go.Lib.hid hdd
      have H_HOK2 := Go.Lib.hid hok2
      have H_HVER := Go.Lib.hid (And.intro hver hver2)
      clear hdd hok2 hlen hok hver hver2 hv
      have lb_x := World.block_lt_of_cell? wr _ x0
      dsimp only at lb_x
      go_wp2_with fail
      refine (H_HDD.out _ hbk).mono ?_
      rintro e w1 ⟨rfl, hbk2, hO⟩
      have hsz1 : wr.heap.size + 0 ≤ w1.heap.size := by have h := hO.size; (try simp at h); omega
      replace x0 := only_cell hO (x0) (fun hi => by rcases hi with hi | hi <;> omega)
      replace x1 := only_cell hO (x1) (fun hi => by rcases hi with hi | hi <;> omega)
      replace x2 := only_cell hO (x2) (fun hi => by rcases hi with hi | hi <;> omega)
      replace x3 := only_cell hO (x3) (fun hi => by rcases hi with hi | hi <;> omega)
      replace x4 := only_cell hO (x4) (fun hi => by rcases hi with hi | hi <;> omega)
      replace x5 := only_cell hO (x5) (fun hi => by rcases hi with hi | hi <;> omega)
      replace x6 := only_cell hO (x6) (fun hi => by rcases hi with hi | hi <;> omega)
      replace x7 := only_cell hO (x7) (fun hi => by rcases hi with hi | hi <;> omega)
      replace hB : Below w.heap.size w w1 := only_then (hB) hO (fun i hi => by rcases hi with hi | hi <;> omega)
      clear hO
      replace lb_x := World.block_lt_of_cell? w1 _ x0
      dsimp only at lb_x
      replace hbk := hbk2
      clear hbk2
      go_wp2_with fail
      go_roundw
      case rel => exact ⟨j + 1, by go_num, hj1, ⟨B2, hbk, H_HOK2.out, by have h := H_HVER.out; omega, hB⟩⟩
      case measure => (simp [intOf]; omega)
    · have hje : m = j := by omega
      subst hje
      obtain ⟨W1, hW1⟩ : ∃ W : World, W = wr := ⟨_, rfl⟩
      subst hW1
      have hlt := hbk.lt
      have hlen := hok.len
      have hv := hok.ver
      have hnm := fun w h => names_book (v := v) (mb := mb) (b := B) w h hlen
      have hvr := fun w h => ver_book (v := v) (mb := mb) (b := B) w h
      rw [show B.1.map (·.1) = bKs B from rfl] at hnm
      have hgt := fun s hs w h => get_book (v := v) (mb := mb) (b := B) s hs w h
      have hly := fun s hs p w h => blay_same (v := v) (mb := mb) (b := B) s hs p w h
      have hkl := bKs_len B
      have hni := fun i (hi : i < B.1.length) => (nm_is hok hi).1
      have hna := fun i j (hi : i < B.1.length) (hj : j < i) => nm_apart hok hi hj
      have hnl := fun i (hi : i + 1 < B.1.length) => nm_less hok hi
      have hog := fun k (hi : bIs B k = true) => hok.get hi
      generalize hn : B.1.length = n at *
      have H_HNM := Go.Lib.hid hnm
      have H_HVR := Go.Lib.hid hvr
      have H_HGT := Go.Lib.hid hgt
      have H_HLY := Go.Lib.hid hly
      have H_HNI := Go.Lib.hid hni
      have H_HNA := Go.Lib.hid hna
      have H_HNL := Go.Lib.hid hnl
      have H_HOG := Go.Lib.hid hog
      have H_HOK := Go.Lib.hid hok
      have H_HVER := Go.Lib.hid hver
      clear hnm hvr hgt hly hni hna hnl hog hok hver hn HA HLG HNW
      go_wp2_with fail
      refine (H_HNM.out _ hbk).mono ?_
      rintro e w1 ⟨A, c, rfl, hka, hb⟩
      have hsz1 : W1.heap.size + 0 ≤ w1.heap.size := by have h := hb.size; (try simp at h); omega
      replace hbk := book_bl hbk hb
      replace hB : Below w.heap.size w w1 := bl_then hB hb
      clear hb
      go_wp2_with fail
      go_loopw [6] (fun s6 wq => ∃ i : Nat, s6 = .int .i64 i ∧ i ≤ n ∧ Hid (BookAt wq v mb B ∧ KeysAt wq W1.heap.size A (bKs B) ∧ Below w.heap.size w wq)) (fun s6 _ => n - (intOf s6).toNat)
      case atStart => exact ⟨0, rfl, Nat.zero_le _, ⟨hbk, hka, hB⟩⟩
      case round =>
        clear hbk hka hB
        obtain ⟨i, rfl, hi, H⟩ := hrel
        obtain ⟨hbk, hka, hB⟩ := H.out
        clear H
        by_cases hin : i < n
        · skip
          obtain ⟨g, rfl, hg, hcs⟩ := hka (by omega)
          obtain ⟨hsz, kc0⟩ := hcs i (by omega)
          have hI := H_HNI.out i hin
          obtain ⟨o1, o2, o3, o4⟩ := H_HOG.out _ hI
          have hts : (txt ((bKs B).getD i [])).size ≤ maxLen := by rw [txt_size]; exact hsz
          have hgt := fun w h => H_HGT.out (txt ((bKs B).getD i [])) hts w h
          have hly := fun w h => H_HLY.out (txt ((bKs B).getD i [])) hts (bGet B ((bKs B).getD i [])).1 w h (by rw [txt_list]; exact o1) o2 (by rw [txt_list]; exact nm_same hI)
          have hnd := fun w => named_any (txt ((bKs B).getD i [])) hts w
          have hap := fun j (hj : j < i) => H_HNA.out i j hin hj
          rw [txt_list] at hgt hly hnd
          rw [o1] at hnd
          rw [hI] at hgt
          have hlq : ∀ i', i = i' + 1 → (txt ((bKs B).getD i' [])).size ≤ maxLen ∧ wr.cell? ⟨g, i', none⟩ = some (.string (txt ((bKs B).getD i' []))) ∧ (Op.bytesLess (txt ((bKs B).getD i [])).toList (txt ((bKs B).getD i' [])).toList || (txt ((bKs B).getD i [])).toList == (txt ((bKs B).getD i' [])).toList) = false := fun i' e => by subst e; exact ⟨by rw [txt_size]; exact (hcs i' (by omega)).1, (hcs i' (by omega)).2, H_HNL.out i' (by omega)⟩
          generalize bGet B ((bKs B).getD i []) = G at *
          generalize txt ((bKs B).getD i []) = T at *
          obtain ⟨p, gn⟩ := G
          unfold Pol.v at hgt hly
          dsimp only at *
          have hms : n - (i + 1) < n - i := by omega
          have hi1 : i + 1 ≤ n := hin
          have k0 : (0 : Int) ≤ (i : Int) := by omega
          have k1 : (i : Int) < (n : Int) := by omega
          have hlt2 := hbk.lt
          have wi : IntKind.i64.wrap ((i : Int) + 1) = (i : Int) + 1 := IntWalk.i64_in _ (by omega)
          have H2_HGT := Go.Lib.hid hgt
          have H2_HLY := Go.Lib.hid hly
          have H2_HND := Go.Lib.hid hnd
          have H2_HAP := Go.Lib.hid hap
          have H2_HLQ := Go.Lib.hid hlq
          have H2_HI := Go.Lib.hid hI
          clear hgt hly hnd hap hlq hI hcs hsz hts
          have d1 : decide (gn < 1) = false := decide_eq_false (by omega)
          have d2 : decide (B.2 < gn) = false := decide_eq_false (by omega)
          have lb_kc := World.block_lt_of_cell? wr _ kc0
          dsimp only at lb_kc
          go_wp2_with fail
          refine (H2_HGT.out _ hbk).mono ?_
          rintro e w2 ⟨rfl, hb⟩
          have hsz2 : wr.heap.size + 0 ≤ w2.heap.size := by have h := hb.size; (try simp at h); omega
          replace hbk := book_bl hbk hb
          replace hka := keysat_bl hka hb
          replace kc0 := bl_cell hb kc0
          replace hB : Below w.heap.size w w2 := bl_then hB hb
          replace lb_kc := World.block_lt_of_cell? w2 _ kc0
          dsimp only at lb_kc
          clear hb
          go_wp2_with fail
          skip
          refine wp_abs (S0 := fun X => (fun w' => BookAt w' v mb B ∧ KeysAt w' W1.heap.size (some ⟨g, 0, none⟩) (bKs B) ∧ w'.cell? ⟨g, i, none⟩ = some (.string T) ∧ w'.cell? ⟨w2.heap.size, 0, none⟩ = some (.int .i64 p.kind) ∧ w'.cell? ⟨w2.heap.size, 1, none⟩ = some (.int .i64 p.limit) ∧ w'.cell? ⟨w2.heap.size, 2, none⟩ = some (.int .i64 p.period) ∧ w'.cell? ⟨w2.heap.size, 3, none⟩ = some (.int .i64 p.burst) ∧ w'.cell? ⟨w2.heap.size, 4, none⟩ = some (.int .i64 p.cap) ∧ w'.cell? ⟨w2.heap.size, 5, none⟩ = some (.bool p.opn) ∧ Below w.heap.size w w') X ∧ w2.heap.size + 1 ≤ X.heap.size) ⟨⟨book_bl hbk (bl_alloc (bl_refl _) _), keysat_bl hka (bl_alloc (bl_refl _) _), bl_cell (bl_alloc (bl_refl _) _) kc0, by go_simp, by go_simp, by go_simp, by go_simp, by go_simp, by go_simp, bl_alloc (hB) _⟩, by simp⟩ ?_
          clear hbk hka kc0 hB
          rintro w3 ⟨⟨hbk, hka, kc0, p0, p1, p2, p3, p4, p5, hB⟩, hsz3⟩
          replace lb_kc := World.block_lt_of_cell? w3 _ kc0
          dsimp only at lb_kc
          have lb_p := World.block_lt_of_cell? w3 _ p0
          dsimp only at lb_p
          refine wp_region_held_drew (S := fun w' => BookAt w' v mb B ∧ KeysAt w' W1.heap.size (some ⟨g, 0, none⟩) (bKs B) ∧ w'.cell? ⟨g, i, none⟩ = some (.string T) ∧ w'.cell? ⟨w2.heap.size, 0, none⟩ = some (.int .i64 p.kind) ∧ w'.cell? ⟨w2.heap.size, 1, none⟩ = some (.int .i64 p.limit) ∧ w'.cell? ⟨w2.heap.size, 2, none⟩ = some (.int .i64 p.period) ∧ w'.cell? ⟨w2.heap.size, 3, none⟩ = some (.int .i64 p.burst) ∧ w'.cell? ⟨w2.heap.size, 4, none⟩ = some (.int .i64 p.cap) ∧ w'.cell? ⟨w2.heap.size, 5, none⟩ = some (.bool p.opn) ∧ Below w.heap.size w w') (by kernel_rfl) ?_ (fun hHeld => ?_)
          · exact ⟨book_bl hbk (bl_drew (bl_refl _)), keysat_bl hka (bl_drew (bl_refl _)), kc0, p0, p1, p2, p3, p4, p5, bl_drew hB⟩
          try simp only [Act.put, List.setIfInBounds_toArray, List.set_cons_zero, List.set_cons_succ]
          (refine tk (i := 0) rfl rfl hHeld ?_)
          (refine tk (i := 1) rfl rfl hHeld ?_)
          (refine tk (i := 2) rfl rfl hHeld ?_)
          (refine tk (i := 3) rfl rfl hHeld ?_)
          (refine tk (i := 4) rfl rfl hHeld ?_)
          (refine tk (i := 5) rfl rfl hHeld ?_)
          (refine callH (i := 6) rfl hHeld (fun W hW K hK => ?_); clear hHeld; (try dsimp only at hW); obtain ⟨h_hbk, h_hka, h_kc0, h_p0, h_p1, h_p2, h_p3, h_p4, h_p5, h_B⟩ := hW; go_simp; refine (H2_HLY.out _ h_hbk).mono ?_; rintro e w9 ⟨rfl, hb⟩; go_wp2_with fail; refine hK.out _ _ ?_ (fun hHeld => ?_); (focus ((try dsimp only); exact ⟨book_bl h_hbk hb, keysat_bl h_hka hb, bl_cell hb h_kc0, bl_cell hb h_p0, bl_cell hb h_p1, bl_cell hb h_p2, bl_cell hb h_p3, bl_cell hb h_p4, bl_cell hb h_p5, bl_then h_B hb⟩)); clear hK K; clear h_hbk h_hka h_kc0 h_p0 h_p1 h_p2 h_p3 h_p4 h_p5 h_B; try simp only [Act.put, List.setIfInBounds_toArray, List.set_cons_zero, List.set_cons_succ])
          (refine tk (i := 7) rfl rfl hHeld ?_)
          (refine tk (i := 8) rfl rfl hHeld ?_)
          (refine tk (i := 9) rfl rfl hHeld ?_)
          (refine tk (i := 10) rfl rfl hHeld ?_)
          (refine tk (i := 11) rfl rfl hHeld ?_)
          refine wpAnyH_done (by kernel_rfl) ?_ _
          refine then_abs (F := fun w' => BookAt w' v mb B ∧ KeysAt w' W1.heap.size (some ⟨g, 0, none⟩) (bKs B) ∧ w'.cell? ⟨g, i, none⟩ = some (.string T) ∧ w'.cell? ⟨w2.heap.size, 0, none⟩ = some (.int .i64 p.kind) ∧ w'.cell? ⟨w2.heap.size, 1, none⟩ = some (.int .i64 p.limit) ∧ w'.cell? ⟨w2.heap.size, 2, none⟩ = some (.int .i64 p.period) ∧ w'.cell? ⟨w2.heap.size, 3, none⟩ = some (.int .i64 p.burst) ∧ w'.cell? ⟨w2.heap.size, 4, none⟩ = some (.int .i64 p.cap) ∧ w'.cell? ⟨w2.heap.size, 5, none⟩ = some (.bool p.opn) ∧ Below w.heap.size w w') hHeld ?_
          clear hHeld hB hbk hka kc0 p0 p1 p2 p3 p4 p5
          rintro w4 ⟨hbk, hka, kc0, p0, p1, p2, p3, p4, p5, hB⟩
          replace lb_kc := World.block_lt_of_cell? w4 _ kc0
          dsimp only at lb_kc
          replace lb_p := World.block_lt_of_cell? w4 _ p0
          dsimp only at lb_p
          go_wp2_with fail
          cases i with
          | zero =>
            clear H2_HLQ
            refine wp_region_held_drew (S := fun w' => BookAt w' v mb B ∧ KeysAt w' W1.heap.size (some ⟨g, 0, none⟩) (bKs B) ∧ w'.cell? ⟨g, 0, none⟩ = some (.string T) ∧ w'.cell? ⟨w2.heap.size, 0, none⟩ = some (.int .i64 p.kind) ∧ w'.cell? ⟨w2.heap.size, 1, none⟩ = some (.int .i64 p.limit) ∧ w'.cell? ⟨w2.heap.size, 2, none⟩ = some (.int .i64 p.period) ∧ w'.cell? ⟨w2.heap.size, 3, none⟩ = some (.int .i64 p.burst) ∧ w'.cell? ⟨w2.heap.size, 4, none⟩ = some (.int .i64 p.cap) ∧ w'.cell? ⟨w2.heap.size, 5, none⟩ = some (.bool p.opn) ∧ Below w.heap.size w w') (by kernel_rfl) ?_ (fun hHeld => ?_)
            · exact ⟨book_bl hbk (bl_drew (bl_refl _)), keysat_bl hka (bl_drew (bl_refl _)), kc0, p0, p1, p2, p3, p4, p5, bl_drew hB⟩
            try simp only [Act.put, List.setIfInBounds_toArray, List.set_cons_zero, List.set_cons_succ]
            (refine tk (i := 0) rfl rfl hHeld ?_)
            (refine tk (i := 1) rfl rfl hHeld ?_)
            (refine tk (i := 2) rfl rfl hHeld ?_)
            first | (refine tq (i := 3) rfl rfl hHeld ?_) | (refine tk (i := 3) rfl rfl hHeld ?_)
            first | (refine tq (i := 4) rfl rfl hHeld ?_) | (refine tk (i := 4) rfl rfl hHeld ?_)
            (refine tk (i := 5) rfl rfl hHeld ?_)
            (refine tk (i := 6) rfl rfl hHeld ?_)
            first | (refine tq (i := 7) rfl rfl hHeld ?_) | (refine tk (i := 7) rfl rfl hHeld ?_)
            first | (refine tq (i := 8) rfl rfl hHeld ?_) | (refine tk (i := 8) rfl rfl hHeld ?_)
            first | (refine tq (i := 9) rfl rfl hHeld ?_) | (refine callH (i := 9) rfl hHeld (fun W hW K hK => ?_); clear hHeld; (try dsimp only at hW); obtain ⟨h_hbk, h_hka, h_kc0, h_p0, h_p1, h_p2, h_p3, h_p4, h_p5, h_B⟩ := hW; go_simp; refine (H_HVR.out _ h_hbk).mono ?_; rintro e w9 ⟨rfl, hb⟩; go_wp2_with fail; refine hK.out _ _ ?_ (fun hHeld => ?_); (focus ((try dsimp only); exact ⟨book_bl h_hbk hb, keysat_bl h_hka hb, bl_cell hb h_kc0, bl_cell hb h_p0, bl_cell hb h_p1, bl_cell hb h_p2, bl_cell hb h_p3, bl_cell hb h_p4, bl_cell hb h_p5, bl_then h_B hb⟩)); clear hK K; clear h_hbk h_hka h_kc0 h_p0 h_p1 h_p2 h_p3 h_p4 h_p5 h_B; try simp only [Act.put, List.setIfInBounds_toArray, List.set_cons_zero, List.set_cons_succ])
            first | (refine tq (i := 10) rfl rfl hHeld ?_) | (refine tk (i := 10) rfl rfl hHeld ?_)
            (refine tk (i := 11) rfl rfl hHeld ?_)
            (refine tk (i := 12) rfl rfl hHeld ?_)
            first | (refine tq (i := 13) rfl rfl hHeld ?_) | (refine tk (i := 13) rfl rfl hHeld ?_)
            first | (refine tq (i := 14) rfl rfl hHeld ?_) | (refine tk (i := 14) rfl rfl hHeld ?_)
            first | (refine tq (i := 15) rfl rfl hHeld ?_) | (refine tk (i := 15) rfl rfl hHeld ?_)
            first | (refine tq (i := 16) rfl rfl hHeld ?_) | (refine tk (i := 16) rfl rfl hHeld ?_)
            first | (refine tq (i := 17) rfl rfl hHeld ?_) | (refine callH (i := 17) rfl hHeld (fun W hW K hK => ?_); clear hHeld; (try dsimp only at hW); obtain ⟨h_hbk, h_hka, h_kc0, h_p0, h_p1, h_p2, h_p3, h_p4, h_p5, h_B⟩ := hW; go_simp; refine (H2_HND.out _).mono ?_; rintro e w9 ⟨rfl, hb⟩; go_wp2_with fail; refine hK.out _ _ ?_ (fun hHeld => ?_); (focus ((try dsimp only); exact ⟨book_bl h_hbk hb, keysat_bl h_hka hb, bl_cell hb h_kc0, bl_cell hb h_p0, bl_cell hb h_p1, bl_cell hb h_p2, bl_cell hb h_p3, bl_cell hb h_p4, bl_cell hb h_p5, bl_then h_B hb⟩)); clear hK K; clear h_hbk h_hka h_kc0 h_p0 h_p1 h_p2 h_p3 h_p4 h_p5 h_B; try simp only [Act.put, List.setIfInBounds_toArray, List.set_cons_zero, List.set_cons_succ])
            first | (refine tq (i := 18) rfl rfl hHeld ?_) | (refine tk (i := 18) rfl rfl hHeld ?_)
            (refine tk (i := 19) rfl rfl hHeld ?_)
            (refine tk (i := 20) rfl rfl hHeld ?_)
            first | (refine tq (i := 21) rfl rfl hHeld ?_) | (refine tk (i := 21) rfl rfl hHeld ?_)
            first | (refine tq (i := 22) rfl rfl hHeld ?_) | (refine tk (i := 22) rfl rfl hHeld ?_)
            (refine tk (i := 23) rfl rfl hHeld ?_)
            (refine tk (i := 24) rfl rfl hHeld ?_)
            first | (refine tq (i := 25) rfl rfl hHeld ?_) | (refine tk (i := 25) rfl rfl hHeld ?_)
            first | (refine tq (i := 26) rfl rfl hHeld ?_) | (refine tk (i := 26) rfl rfl hHeld ?_)
            first | (refine tq (i := 27) rfl rfl hHeld ?_) | (refine tk (i := 27) rfl rfl hHeld ?_)
            first | (refine tq (i := 28) rfl rfl hHeld ?_) | (refine tk (i := 28) rfl rfl hHeld ?_)
            first | (refine tq (i := 29) rfl rfl hHeld ?_) | (refine tk (i := 29) rfl rfl hHeld ?_)
            first | (refine tq (i := 30) rfl rfl hHeld ?_) | (refine tk (i := 30) rfl rfl hHeld ?_)
            first | (refine tq (i := 31) rfl rfl hHeld ?_) | (refine tk (i := 31) rfl rfl hHeld ?_)
            first | (refine tq (i := 32) rfl rfl hHeld ?_) | (refine tk (i := 32) rfl rfl hHeld ?_)
            first | (refine tq (i := 33) rfl rfl hHeld ?_) | (refine tk (i := 33) rfl rfl hHeld ?_)
            first | (refine tq (i := 34) rfl rfl hHeld ?_) | (refine tk (i := 34) rfl rfl hHeld ?_)
            first | (refine tq (i := 35) rfl rfl hHeld ?_) | (refine tk (i := 35) rfl rfl hHeld ?_)
            first | (refine tq (i := 36) rfl rfl hHeld ?_) | (refine tk (i := 36) rfl rfl hHeld ?_)
            first | (refine tq (i := 37) rfl rfl hHeld ?_) | (refine tk (i := 37) rfl rfl hHeld ?_)
            first | (refine tq (i := 38) rfl rfl hHeld ?_) | (refine tk (i := 38) rfl rfl hHeld ?_)
            (refine tk (i := 39) rfl rfl hHeld ?_)
            refine wpAnyH_done (by kernel_rfl) ?_ _
            refine then_abs (F := fun w' => BookAt w' v mb B ∧ KeysAt w' W1.heap.size (some ⟨g, 0, none⟩) (bKs B) ∧ w'.cell? ⟨g, 0, none⟩ = some (.string T) ∧ w'.cell? ⟨w2.heap.size, 0, none⟩ = some (.int .i64 p.kind) ∧ w'.cell? ⟨w2.heap.size, 1, none⟩ = some (.int .i64 p.limit) ∧ w'.cell? ⟨w2.heap.size, 2, none⟩ = some (.int .i64 p.period) ∧ w'.cell? ⟨w2.heap.size, 3, none⟩ = some (.int .i64 p.burst) ∧ w'.cell? ⟨w2.heap.size, 4, none⟩ = some (.int .i64 p.cap) ∧ w'.cell? ⟨w2.heap.size, 5, none⟩ = some (.bool p.opn) ∧ Below w.heap.size w w') hHeld ?_
            clear hHeld hB hbk hka kc0 p0 p1 p2 p3 p4 p5
            rintro w5 ⟨hbk, hka, kc0, p0, p1, p2, p3, p4, p5, hB⟩
            replace lb_kc := World.block_lt_of_cell? w5 _ kc0
            dsimp only at lb_kc
            replace lb_p := World.block_lt_of_cell? w5 _ p0
            dsimp only at lb_p
            go_wp2_with fail
            go_loopw [12] (fun s12 wz => ∃ j : Nat, s12 = .int .i64 j ∧ j ≤ 0 ∧ Hid (BookAt wz v mb B ∧ KeysAt wz W1.heap.size (some ⟨g, 0, none⟩) (bKs B) ∧ Below w.heap.size w wz)) (fun s12 _ => 0 - (intOf s12).toNat)
            case atStart => exact ⟨0, rfl, Nat.zero_le _, ⟨hbk, hka, hB⟩⟩
            case round =>
              clear hbk hka kc0 p0 p1 p2 p3 p4 p5 hB
              obtain ⟨j, rfl, hj, H⟩ := hrel
              obtain ⟨hbk, hka, hB⟩ := H.out
              clear H
              have hj0 : j = 0 := by omega
              subst hj0
              go_wp2_with fail
              go_roundw
              case rel => exact ⟨0 + 1, by go_num, hi1, ⟨hbk, hka, hB⟩⟩
              case measure => (simp [intOf]; omega)
          | succ i =>
            obtain ⟨hs2, -, hl2⟩ := H2_HLQ.out i rfl
            obtain ⟨g', hg', -, hcs⟩ := hka (by omega)
            injection hg' with hg'
            injection hg' with hg'
            subst hg'
            have km0 := (hcs i (by omega)).2
            generalize txt ((bKs B).getD i []) = T2 at *
            have j0 : (0 : Int) ≤ (i : Int) := by omega
            have j1 : (i : Int) < (n : Int) := by omega
            have j2 : (0 : Int) < (i : Int) + 1 := by omega
            have j3 : (i : Int) + 1 < (n : Int) := by omega
            have j4 : (0 : Int) ≤ (i : Int) + 1 := by omega
            have j5 : ((i : Int) + 1).toNat = i + 1 := by omega
            have wb : IntKind.i64.wrap (i : Int) = (i : Int) := IntWalk.i64_in _ (by omega)
            have wc : IntKind.i64.wrap ((i : Int) + 1 - 1) = (i : Int) := by rw [show (i : Int) + 1 - 1 = (i : Int) by omega]; exact wb
            have j6 : decide ((0 : Int) < (i : Int) + 1) = true := decide_eq_true (by omega)
            clear hcs
            clear H2_HLQ
            refine wp_region_held_drew (S := fun w' => BookAt w' v mb B ∧ KeysAt w' W1.heap.size (some ⟨g, 0, none⟩) (bKs B) ∧ w'.cell? ⟨g, i + 1, none⟩ = some (.string T) ∧ w'.cell? ⟨w2.heap.size, 0, none⟩ = some (.int .i64 p.kind) ∧ w'.cell? ⟨w2.heap.size, 1, none⟩ = some (.int .i64 p.limit) ∧ w'.cell? ⟨w2.heap.size, 2, none⟩ = some (.int .i64 p.period) ∧ w'.cell? ⟨w2.heap.size, 3, none⟩ = some (.int .i64 p.burst) ∧ w'.cell? ⟨w2.heap.size, 4, none⟩ = some (.int .i64 p.cap) ∧ w'.cell? ⟨w2.heap.size, 5, none⟩ = some (.bool p.opn) ∧ w'.cell? ⟨g, i, none⟩ = some (.string T2) ∧ Below w.heap.size w w') (by kernel_rfl) ?_ (fun hHeld => ?_)
            · exact ⟨book_bl hbk (bl_drew (bl_refl _)), keysat_bl hka (bl_drew (bl_refl _)), kc0, p0, p1, p2, p3, p4, p5, km0, bl_drew hB⟩
            try simp only [Act.put, List.setIfInBounds_toArray, List.set_cons_zero, List.set_cons_succ]
            (refine tk (i := 0) rfl rfl hHeld ?_)
            (refine tk (i := 1) rfl rfl hHeld ?_)
            (refine tk (i := 2) rfl rfl hHeld ?_)
            first | (refine tq (i := 3) rfl rfl hHeld ?_) | (refine tk (i := 3) rfl rfl hHeld ?_)
            first | (refine tq (i := 4) rfl rfl hHeld ?_) | (refine tk (i := 4) rfl rfl hHeld ?_)
            (refine tk (i := 5) rfl rfl hHeld ?_)
            (refine tk (i := 6) rfl rfl hHeld ?_)
            first | (refine tq (i := 7) rfl rfl hHeld ?_) | (refine tk (i := 7) rfl rfl hHeld ?_)
            first | (refine tq (i := 8) rfl rfl hHeld ?_) | (refine tk (i := 8) rfl rfl hHeld ?_)
            first | (refine tq (i := 9) rfl rfl hHeld ?_) | (refine callH (i := 9) rfl hHeld (fun W hW K hK => ?_); clear hHeld; (try dsimp only at hW); obtain ⟨h_hbk, h_hka, h_kc0, h_p0, h_p1, h_p2, h_p3, h_p4, h_p5, h_km0, h_B⟩ := hW; go_simp; refine (H_HVR.out _ h_hbk).mono ?_; rintro e w9 ⟨rfl, hb⟩; go_wp2_with fail; refine hK.out _ _ ?_ (fun hHeld => ?_); (focus ((try dsimp only); exact ⟨book_bl h_hbk hb, keysat_bl h_hka hb, bl_cell hb h_kc0, bl_cell hb h_p0, bl_cell hb h_p1, bl_cell hb h_p2, bl_cell hb h_p3, bl_cell hb h_p4, bl_cell hb h_p5, bl_cell hb h_km0, bl_then h_B hb⟩)); clear hK K; clear h_hbk h_hka h_kc0 h_p0 h_p1 h_p2 h_p3 h_p4 h_p5 h_km0 h_B; try simp only [Act.put, List.setIfInBounds_toArray, List.set_cons_zero, List.set_cons_succ])
            first | (refine tq (i := 10) rfl rfl hHeld ?_) | (refine tk (i := 10) rfl rfl hHeld ?_)
            (refine tk (i := 11) rfl rfl hHeld ?_)
            (refine tk (i := 12) rfl rfl hHeld ?_)
            first | (refine tq (i := 13) rfl rfl hHeld ?_) | (refine tk (i := 13) rfl rfl hHeld ?_)
            first | (refine tq (i := 14) rfl rfl hHeld ?_) | (refine tk (i := 14) rfl rfl hHeld ?_)
            first | (refine tq (i := 15) rfl rfl hHeld ?_) | (refine tk (i := 15) rfl rfl hHeld ?_)
            first | (refine tq (i := 16) rfl rfl hHeld ?_) | (refine tk (i := 16) rfl rfl hHeld ?_)
            first | (refine tq (i := 17) rfl rfl hHeld ?_) | (refine callH (i := 17) rfl hHeld (fun W hW K hK => ?_); clear hHeld; (try dsimp only at hW); obtain ⟨h_hbk, h_hka, h_kc0, h_p0, h_p1, h_p2, h_p3, h_p4, h_p5, h_km0, h_B⟩ := hW; go_simp; refine (H2_HND.out _).mono ?_; rintro e w9 ⟨rfl, hb⟩; go_wp2_with fail; refine hK.out _ _ ?_ (fun hHeld => ?_); (focus ((try dsimp only); exact ⟨book_bl h_hbk hb, keysat_bl h_hka hb, bl_cell hb h_kc0, bl_cell hb h_p0, bl_cell hb h_p1, bl_cell hb h_p2, bl_cell hb h_p3, bl_cell hb h_p4, bl_cell hb h_p5, bl_cell hb h_km0, bl_then h_B hb⟩)); clear hK K; clear h_hbk h_hka h_kc0 h_p0 h_p1 h_p2 h_p3 h_p4 h_p5 h_km0 h_B; try simp only [Act.put, List.setIfInBounds_toArray, List.set_cons_zero, List.set_cons_succ])
            first | (refine tq (i := 18) rfl rfl hHeld ?_) | (refine tk (i := 18) rfl rfl hHeld ?_)
            (refine tk (i := 19) rfl rfl hHeld ?_)
            (refine tk (i := 20) rfl rfl hHeld ?_)
            first | (refine tq (i := 21) rfl rfl hHeld ?_) | (refine tk (i := 21) rfl rfl hHeld ?_)
            first | (refine tq (i := 22) rfl rfl hHeld ?_) | (refine tk (i := 22) rfl rfl hHeld ?_)
            (refine tk (i := 23) rfl rfl hHeld ?_)
            (refine tk (i := 24) rfl rfl hHeld ?_)
            first | (refine tq (i := 25) rfl rfl hHeld ?_) | (refine tk (i := 25) rfl rfl hHeld ?_)
            first | (refine tq (i := 26) rfl rfl hHeld ?_) | (refine tk (i := 26) rfl rfl hHeld ?_)
            first | (refine tq (i := 27) rfl rfl hHeld ?_) | (refine tk (i := 27) rfl rfl hHeld ?_)
            first | (refine tq (i := 28) rfl rfl hHeld ?_) | (refine tk (i := 28) rfl rfl hHeld ?_)
            first | (refine tq (i := 29) rfl rfl hHeld ?_) | (refine tk (i := 29) rfl rfl hHeld ?_)
            first | (refine tq (i := 30) rfl rfl hHeld ?_) | (refine tk (i := 30) rfl rfl hHeld ?_)
            first | (refine tq (i := 31) rfl rfl hHeld ?_) | (refine tk (i := 31) rfl rfl hHeld ?_)
            first | (refine tq (i := 32) rfl rfl hHeld ?_) | (refine tk (i := 32) rfl rfl hHeld ?_)
            first | (refine tq (i := 33) rfl rfl hHeld ?_) | (refine tk (i := 33) rfl rfl hHeld ?_)
            first | (refine tq (i := 34) rfl rfl hHeld ?_) | (refine tk (i := 34) rfl rfl hHeld ?_)
            first | (refine tq (i := 35) rfl rfl hHeld ?_) | (refine tk (i := 35) rfl rfl hHeld ?_)
            first | (refine tq (i := 36) rfl rfl hHeld ?_) | (refine tk (i := 36) rfl rfl hHeld ?_)
            first | (refine tq (i := 37) rfl rfl hHeld ?_) | (refine tk (i := 37) rfl rfl hHeld ?_)
            first | (refine tq (i := 38) rfl rfl hHeld ?_) | (refine tk (i := 38) rfl rfl hHeld ?_)
            (refine tk (i := 39) rfl rfl hHeld ?_)
            refine wpAnyH_done (by kernel_rfl) ?_ _
            refine then_abs (F := fun w' => BookAt w' v mb B ∧ KeysAt w' W1.heap.size (some ⟨g, 0, none⟩) (bKs B) ∧ w'.cell? ⟨g, i + 1, none⟩ = some (.string T) ∧ w'.cell? ⟨w2.heap.size, 0, none⟩ = some (.int .i64 p.kind) ∧ w'.cell? ⟨w2.heap.size, 1, none⟩ = some (.int .i64 p.limit) ∧ w'.cell? ⟨w2.heap.size, 2, none⟩ = some (.int .i64 p.period) ∧ w'.cell? ⟨w2.heap.size, 3, none⟩ = some (.int .i64 p.burst) ∧ w'.cell? ⟨w2.heap.size, 4, none⟩ = some (.int .i64 p.cap) ∧ w'.cell? ⟨w2.heap.size, 5, none⟩ = some (.bool p.opn) ∧ w'.cell? ⟨g, i, none⟩ = some (.string T2) ∧ Below w.heap.size w w') hHeld ?_
            clear hHeld hB hbk hka kc0 p0 p1 p2 p3 p4 p5 km0
            rintro w5 ⟨hbk, hka, kc0, p0, p1, p2, p3, p4, p5, km0, hB⟩
            replace lb_kc := World.block_lt_of_cell? w5 _ kc0
            dsimp only at lb_kc
            replace lb_p := World.block_lt_of_cell? w5 _ p0
            dsimp only at lb_p
            have lb_km := World.block_lt_of_cell? w5 _ km0
            dsimp only at lb_km
            go_wp2_with fail
            go_loopw [12] (fun s12 wz => ∃ j : Nat, s12 = .int .i64 j ∧ j ≤ (i + 1) ∧ Hid (BookAt wz v mb B ∧ KeysAt wz W1.heap.size (some ⟨g, 0, none⟩) (bKs B) ∧ Below w.heap.size w wz)) (fun s12 _ => (i + 1) - (intOf s12).toNat)
            case atStart => exact ⟨0, rfl, Nat.zero_le _, ⟨hbk, hka, hB⟩⟩
            case round =>
              clear hbk hka kc0 p0 p1 p2 p3 p4 p5 km0 hB
              obtain ⟨j, rfl, hj, H⟩ := hrel
              obtain ⟨hbk, hka, hB⟩ := H.out
              clear H
              by_cases hjn : j < i + 1
              · skip
                obtain ⟨g', hg', -, hcs⟩ := hka (by omega)
                injection hg' with hg'
                injection hg' with hg'
                subst hg'
                obtain ⟨hsz, kj0⟩ := hcs j (by omega)
                have hI := H_HNI.out j (by omega)
                have hts : (txt ((bKs B).getD j [])).size ≤ maxLen := by rw [txt_size]; exact hsz
                have hgt := fun w h => H_HGT.out (txt ((bKs B).getD j [])) hts w h
                have hne := H2_HAP.out j hjn
                rw [txt_list] at hgt
                rw [hI] at hgt
                generalize bGet B ((bKs B).getD j []) = G at *
                generalize txt ((bKs B).getD j []) = T3 at *
                obtain ⟨p3, gn3⟩ := G
                unfold Pol.v at hgt
                dsimp only at *
                have H3 := Go.Lib.hid hgt
                clear hgt hcs hI hsz hts
                have q0 : (0 : Int) ≤ (j : Int) := by omega
                have q1 : (j : Int) < (n : Int) := by omega
                have q2 : (j : Int) < (i : Int) + 1 := by omega
                have wj : IntKind.i64.wrap ((j : Int) + 1) = (j : Int) + 1 := IntWalk.i64_in _ (by omega)
                have lb_kj := World.block_lt_of_cell? wr _ kj0
                dsimp only at lb_kj
                go_wp2_with fail
                refine (H3.out _ hbk).mono ?_
                rintro e w6 ⟨rfl, hb⟩
                have hsz4 : wr.heap.size + 0 ≤ w6.heap.size := by have h := hb.size; (try simp at h); omega
                replace hbk := book_bl hbk hb
                replace hka := keysat_bl hka hb
                replace kj0 := bl_cell hb kj0
                replace hB : Below w.heap.size w w6 := bl_then hB hb
                replace lb_kj := World.block_lt_of_cell? w6 _ kj0
                dsimp only at lb_kj
                clear hb
                go_wp2_with fail
                go_roundw
                case rel => exact ⟨j + 1, by go_num, by omega, ⟨book_bl hbk (bl_alloc (bl_refl _) _), keysat_bl hka (bl_alloc (bl_refl _) _), bl_alloc hB _⟩⟩
                case measure => (simp [intOf]; omega)
              · have hje : j = i + 1 := by omega
                subst hje
                go_wp2_with fail
                go_roundw
                case rel => exact ⟨(i + 1) + 1, by go_num, hi1, ⟨hbk, hka, hB⟩⟩
                case measure => (simp [intOf]; omega)
        · have hie : n = i := by omega
          subst hie
          have hss := fun A2 B2 c2 w h1 h2 => same_keys A2 A B2 W1.heap.size c2 c (bKs B) (by omega) w h1 h2
          rw [hkl] at hss
          have H_HSS := Go.Lib.hid hss
          clear hss
          go_wp2_with fail
          refine (H_HNM.out _ hbk).mono ?_
          rintro e w2 ⟨A2, c2, rfl, hka2, hb⟩
          have hsz2 : wr.heap.size + 0 ≤ w2.heap.size := by have h := hb.size; (try simp at h); omega
          replace hbk := book_bl hbk hb
          replace hka := keysat_bl hka hb
          replace hB : Below w.heap.size w w2 := bl_then hB hb
          clear hb
          go_wp2_with fail
          refine (H_HSS.out _ _ _ _ hka2 hka).mono ?_
          rintro e w3 ⟨rfl, hb⟩
          have hsz3 : w2.heap.size + 0 ≤ w3.heap.size := by have h := hb.size; (try simp at h); omega
          replace hbk := book_bl hbk hb
          replace hka := keysat_bl hka hb
          replace hka2 := keysat_bl hka2 hb
          replace hB : Below w.heap.size w w3 := bl_then hB hb
          clear hb
          go_wp2_with fail
          refine (HKN.out _).mono ?_
          rintro e w4 ⟨rfl, hb⟩
          have hsz4 : w3.heap.size + 0 ≤ w4.heap.size := by have h := hb.size; (try simp at h); omega
          replace hbk := book_bl hbk hb
          replace hka := keysat_bl hka hb
          replace hka2 := keysat_bl hka2 hb
          replace hB : Below w.heap.size w w4 := bl_then hB hb
          clear hb
          go_wp2_with fail
          go_ret
          exact ⟨rfl, hB⟩

theorem names_walk (la : Option Addr) (m lc : Nat) (ds : Nat → BD) (w : World) (hA : BDsIn w la m ds) : Calls Tryz.prog 4 #[.slice la m lc] w fun e w' => e = .returned (.bool true) ∧ Below w.heap.size w w' := by
  by_cases hm : (60 : Int) < m
  · exact names_long la m lc ds w hA hm
  · exact names_run la m lc ds w hA hm
end Go.Proofs.YtmndkhklhfnjhaaGreat

namespace Go.Proofs.YtmndkhklhfnjhaaGreat.bookNames
open Go.ChangeShapes Go.WideShapes Go.ChangeAt Go.RowKit
open Go.ChangeMaps (open_string shut_string)
set_option linter.unusedVariables false
set_option linter.unusedSimpArgs false

theorem own : ownKnob Tryz.prog.godebug = none := by kernel_rfl
theorem laidOut : laidOutB Tryz.prog = true := by kernel_rfl

set_option maxHeartbeats 1000000 in
set_option maxRecDepth 100000 in
theorem lifted (os : Os) (started : os.Started) (H : Type) (enc : TypeId × Value → H) :
    ReturnsInHanded {} Tryz.checked os 4 .any (Rows.bookNamesSpec.pre6 enc Tryz.prog Tryz.f4 Rows.bookNamesRow.domain false) (Rows.bookNamesSpec.post enc Tryz.prog Tryz.f4 false true false false) := by
  refine returnsInHanded_of_change (C := Tryz.checked) own started (by kernel_rfl) Tryz.func4
    (ChangeSpec.witness6 (enc := enc) (C := Tryz.checked) false ⟨#[], #[.slice none 0 0], []⟩ 8 (by kernel_rfl) (by kernel_rfl) (by kernel_rfl) (by kernel_rfl)) ?_
  intro W base args ds gs before hval0 hW hcnd _
  have hval : ∀ (j : Nat) t v, Tryz.f4.params[j]? = some t → args[j]? = some v → Value.okWide Tryz.prog W .any base t v := hval0
  have hW' := hW
  obtain ⟨p, q, hA0, hV, rfl, hfz, hnd⟩ := hW
  have hA : DataW.TrodAll enc Tryz.prog W 0 (fun _ => true) true Tryz.f4.params.toList args.toList ds p := hA0
  rw [Tryz.params4] at hA hval
  obtain ⟨v0, vs0, d0, ds0', p0, q0, hargs, rfl, rfl, h0, r0⟩ := trodAll_cons hA
  obtain ⟨rfl, rfl, rfl⟩ := trodAll_nil r0
  obtain rfl : args = #[v0] := by cases args; simp_all
  obtain ⟨rfl, rfl⟩ := trodVars_none hV
  obtain ⟨a0, len0, cap0, rfl⟩ := okWide_slice Tryz.underlying22 (hval 0 22 v0 rfl rfl)
  have k0 := h0
  have lt0 : ∀ x ∈ p0, x.block < W.heap.size := by obtain ⟨m, hm⟩ := k0; exact DataW.trod_lt m _ _ _ hm
  obtain ⟨ds0, w0⟩ : ∃ ds, BDsIn W a0 len0 ds := by obtain ⟨fuel, hf⟩ := h0; exact open_bds (by simpa [Value.cells] using hf)
  clear hA0 hval0
  refine (names_walk a0 len0 cap0 ds0 W w0).mono fun e W' ⟨he, bel⟩ => ?_
  subst he
  exact ⟨_, rfl, _, _, _, [], _, [], hW', trodAll_mk1 (shut_bool Tryz.underlying4 _), (trodAll_cons_mk (Below.trod laidOut (by kernel_rfl) (of_decide_eq_true (by kernel_rfl)) k0 bel lt0) trodAll_mk0), rfl, bel.frame _, fun h => by cases h⟩

theorem over : Rows.bookNamesRow.holds Tryz.pinned (OpenSpec.ofChange Rows.bookNamesSpec) :=
  OpenClaim.holds_of_wide 4 Tryz.f4 rfl rfl rfl rfl rfl rfl rfl ⟨rfl, rfl, rfl, rfl, rfl⟩ rfl rfl rfl rfl rfl (by kernel_rfl) Tryz.func4 (by kernel_rfl)
    (of_decide_eq_true (by kernel_rfl)) (by unfold Func.isWrapper; first | (rw [if_pos (by decide +kernel)]; kernel_rfl) | (rw [if_neg (by decide +kernel)]; exact ⟨rfl, rfl⟩))
    (fun os started H enc _ => lifted os started H enc)

/-- The statement. -/
theorem proved : Rows.BookNamesSaid := over
end Go.Proofs.YtmndkhklhfnjhaaGreat.bookNames
