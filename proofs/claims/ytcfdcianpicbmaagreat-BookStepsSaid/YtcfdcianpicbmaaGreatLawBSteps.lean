/-
  The statement BookSteps of this seat: for every input the law returns true, and each argument reads afterwards as it read before. No condition.
-/
import Derived.Test.YtcfdcianpicbmaaGreatM1
import Derived.Test.YtcfdcianpicbmaaGreatM2
import Derived.Test.YtcfdcianpicbmaaGreatM3
import Derived.Test.YtcfdcianpicbmaaGreatM4
import Derived.Test.YtcfdcianpicbmaaGreatRows
import Derived.WalkKit
import Derived.ProofKit
import Derived.OpenShut
import Derived.ShutString
import Derived.ChangeOld
import Derived.Below
namespace Go.Proofs.YtcfdcianpicbmaaGreat
open Go.RowKit Go.Maps
set_option linter.unusedVariables false
set_option linter.unusedSimpArgs false

theorem res2_only {F : Nat → Prop} {w w' : World} {b : Nat} (h : Res2 w b) (ho : Only F w w') (hf : ¬ F b) : Res2 w' b := fun i hi => by
  have hb := res2_lt h
  have hh := h i hi
  simp only [World.cell?, World.frozen?, ho.block b hb hf] at hh ⊢
  exact hh
theorem es_only {F : Nat → Prop} {w w' : World} {a : Option Addr} {n c : Nat} {l : List (Key × EV)} (h : EsAt w a n c l) (ho : Only F w w') (hne : ∀ ad, a = some ad → n ≠ 0 → ¬ F ad.block) : EsAt w' a n c l :=
  ⟨h.1, h.2.1, h.2.2.1, fun i hi => by
    obtain ⟨b, off, e, hk, h0, h1, h2, h3, h4, h5, h6, h7⟩ := h.2.2.2 i hi
    have hb : ¬ F b := fun e2 => hne _ e (by omega) e2
    exact ⟨b, off, e, hk, only_cell ho h0 hb, only_cell ho h1 hb, only_cell ho h2 hb, only_cell ho h3 hb, only_cell ho h4 hb, only_cell ho h5 hb, only_cell ho h6 hb, only_cell ho h7 hb⟩⟩
theorem book_set {w : World} {v mb : Nat} {b : Bk} (h : BookAt w v mb b) (x : Addr) (u : Value) (h1 : x.block ≠ v) (h2 : x.block ≠ mb) : BookAt (w.setCell x u) v mb b :=
  h.frame (Below.heap_setCell _ _ _ _ (by omega)) (Below.heap_setCell _ _ _ _ (by omega))
set_option maxHeartbeats 2000000 in
set_option maxRecDepth 100000 in
theorem bsteps_long (la : Option Addr) (m lc : Nat) (ds : Nat → BD) (s : ByteArray) (w : World) (hA : BDsIn w la m ds) (hs : s.size ≤ maxLen) (hm : (60 : Int) < m) : Calls Tryz.prog 3 #[.slice la m lc, .string s] w fun e w' => e = .returned (.bool true) ∧ Below w.heap.size w w' := by
  have hkn := bknown
  have h61 : 60 < m := by omega
  clear hA
  have HKN := Go.Lib.hid hkn
  clear hkn
  go_enter Tryz.func3, Tryz.ntmps3
  go_wp2_with fail
  refine (HKN.out _).mono ?_
  rintro e w1 ⟨rfl, hb⟩
  have hsz1 : w.heap.size + 0 ≤ w1.heap.size := by have h := hb.size; first | omega | (simp at h; omega) | (simp at h ⊢; omega)
  have hB : Below w.heap.size w w1 := hb
  clear hb
  go_wp2_with fail
  go_ret
  exact ⟨rfl, hB⟩
set_option maxHeartbeats 8000000 in
set_option maxRecDepth 100000 in
theorem bsteps_run (la : Option Addr) (m lc : Nat) (ds : Nat → BD) (s : ByteArray) (w : World) (hA : BDsIn w la m ds) (hs : s.size ≤ maxLen) (hm : ¬ (60 : Int) < m) : Calls Tryz.prog 3 #[.slice la m lc, .string s] w fun e w' => e = .returned (.bool true) ∧ Below w.heap.size w w' := by
  have HKN := Go.Lib.hid bknown
  have HNW := Go.Lib.hid bnew_book
  have HLG := Go.Lib.hid (blong_any la m lc ds w hA)
  have HA := Go.Lib.hid hA
  have h61 : ¬ 60 < m := by omega
  have hnb := fun w => named_any s hs w
  have hnr := fun w => rnamed_any s hs w
  have hnn : nameR s = namedB s.data.toList := by rw [namedB_s, named_same]
  rw [hnn] at hnr
  generalize namedB s.data.toList = NB at *
  have HNB := Go.Lib.hid hnb
  have HNR := Go.Lib.hid hnr
  clear hnb hnr
  clear hA hnn
  go_enter Tryz.func3, Tryz.ntmps3
  go_wp2_with fail
  refine (HLG.out).mono ?_
  rintro e w1 ⟨q, rfl, rfl⟩
  by_cases hq : 1500 < q
  · skip
    go_wp2_with fail
    refine (HKN.out _).mono ?_
    rintro e w1 ⟨rfl, hb⟩
    have hsz1 : w.heap.size + 0 ≤ w1.heap.size := by have h := hb.size; first | omega | (simp at h; omega) | (simp at h ⊢; omega)
    have hB : Below w.heap.size w w1 := hb
    clear hb
    go_wp2_with fail
    go_ret
    exact ⟨rfl, hB⟩
  by_cases hsl : 100 < s.size
  · have hsi : (100 : Int) < s.size := by omega
    go_wp2_with fail
    refine (HKN.out _).mono ?_
    rintro e w1 ⟨rfl, hb⟩
    have hsz1 : w.heap.size + 0 ≤ w1.heap.size := by have h := hb.size; first | omega | (simp at h; omega) | (simp at h ⊢; omega)
    have hB : Below w.heap.size w w1 := hb
    clear hb
    go_wp2_with fail
    go_ret
    exact ⟨rfl, hB⟩
  have hsi : ¬ (100 : Int) < s.size := by omega
  go_wp2_with fail
  refine (HNW.out _).mono ?_
  rintro e w1 ⟨v, mb, rfl, hbk, hv1, hm1, hB⟩
  clear hsi hsl hq
  have hbl := hbk.lt
  go_wp2_with fail
  go_loopw [7] (fun s7 wr => ∃ j : Nat, s7 = .int .i64 j ∧ j ≤ m ∧ Hid (∃ (b : Bk) (a : Option Addr) (n c : Nat), BookAt wr v mb b ∧ OkB namedB b ∧ b.2 ≤ j ∧ wr.cell? ⟨w1.heap.size, 0, none⟩ = some (.slice a n c) ∧ wr.cell? ⟨w1.heap.size, 1, none⟩ = some (.int .i64 b.2) ∧ Res2 wr w1.heap.size ∧ EsAt wr a n c b.1 ∧ (∀ ad, a = some ad → n ≠ 0 → ad.block ≠ v ∧ ad.block ≠ mb ∧ ad.block ≠ w1.heap.size) ∧ Below w.heap.size w wr)) (fun s7 _ => m - (intOf s7).toNat)
  case atStart => exact ⟨0, rfl, Nat.zero_le _, ⟨([], 0), none, 0, 0, book_bl hbk (bl_alloc (bl_refl _) _), okB_nil, Int.le_refl _, by go_simp, by go_simp, res2_new _ _ _ _ rfl, es_nil _ _ _ (by omega), (fun ad e => by cases e), bl_alloc hB _⟩⟩
  case round =>
    clear hbk hB
    obtain ⟨j, rfl, hj, H⟩ := hrel
    obtain ⟨⟨L, V⟩, a, n, c, hbk, hok, hver, t0, t1, tR, hEs, hNe, hB⟩ := H.out
    clear H
    dsimp only at *
    by_cases hjn : j < m
    · obtain ⟨hds, xb, xo, hla, y0, y1, y2, y3, y4, y5, y6, y7⟩ := HA.out.2 j hjn
      subst hla
      have lb_a := World.block_lt_of_cell? w _ y0
      dsimp only at lb_a
      have x0 := bl_cell hB y0
      have x1 := bl_cell hB y1
      have x2 := bl_cell hB y2
      have x3 := bl_cell hB y3
      have x4 := bl_cell hB y4
      have x5 := bl_cell hB y5
      have x6 := bl_cell hB y6
      have x7 := bl_cell hB y7
      clear y0 y1 y2 y3 y4 y5 y6 y7
      have hlt := hbk.lt
      have hlen := hok.len
      have hv := hok.ver
      have hok2 := okB_did hok (ds j)
      have hver2 := ver_did (L, V) (ds j)
      have hms : m - (j + 1) < m - j := by omega
      have hj1 : j + 1 ≤ m := hjn
      have hm2 : (m : Int) ≤ 60 := by omega
      have k0 : (0 : Int) ≤ (j : Int) := by omega
      have k1 : (j : Int) < (m : Int) := by omega
      have wj : IntKind.i64.wrap ((j : Int) + 1) = (j : Int) + 1 := IntWalk.i64_in _ (by omega)
      dsimp only at hlen hv hver2
      have hn9 : n ≤ 900 := by have := hEs.1; omega
      have hdd := fun w h => did_book (v := v) (mb := mb) (b := (L, V)) (ds j) hds (by dsimp only; omega) hlen w h
      have hst := fun w h => rstep_any a n c L V (ds j) w h hn9 hds (by omega)
      generalize didB (L, V) (ds j) = B2 at *
      generalize didV (L, V) (ds j) = DV at *
      obtain ⟨L2, V2⟩ := B2
      obtain ⟨dv, de⟩ := DV
      dsimp only at *
      have hlen2 := hok2.len
      dsimp only at hlen2
      have hvr := fun w h => ver_book (v := v) (mb := mb) (b := (L2, V2)) w h
      have hgt := fun w h => get_book (v := v) (mb := mb) (b := (L2, V2)) s hs w h
      have hrg := fun a n c w h => rget_any a n c L2 V2 s w h
      have hnm := fun w h => names_book (v := v) (mb := mb) (b := (L2, V2)) w h hlen2
      have hrn := fun a n c w h hn => rnames_any a n c L2 V2 w h hn
      have hss := fun A1 A2 B1 B2 c1 c2 w h1 h2 => same_keys A1 A2 B1 B2 c1 c2 (L2.map (·.1)) (by rw [List.length_map]; omega) w h1 h2
      simp only [List.length_map] at hss
      generalize bGet (L2, V2) s.data.toList = G at *
      generalize bIs (L2, V2) s.data.toList = I at *
      obtain ⟨g, gv⟩ := G
      generalize ds j = d at *
      obtain ⟨dk, dn, p⟩ := d
      unfold BD.v at hdd hst
      unfold Pol.v at hgt hrg
      dsimp only at *
      have hne := fun w => pol_neq g g w
      rw [decide_eq_true rfl] at hne
      have HVR := Go.Lib.hid hvr
      have HGT := Go.Lib.hid hgt
      have HDD := Go.Lib.hid hdd
      have HST := Go.Lib.hid hst
      have HRG := Go.Lib.hid hrg
      have HNM := Go.Lib.hid hnm
      have HRN := Go.Lib.hid hrn
      have HSS := Go.Lib.hid hss
      have HOK2 := Go.Lib.hid hok2
      have HVER2 := Go.Lib.hid hver2
      have HNE := Go.Lib.hid hne
      clear hvr hgt hdd hst hrg hnm hrn hss hok2 hver2 hne
      have HNE0 := Go.Lib.hid hNe
      clear hNe hlen hok
      have lb_x := World.block_lt_of_cell? wr _ x0
      dsimp only at lb_x
      have lb_t := World.block_lt_of_cell? wr _ t0
      dsimp only at lb_t
      go_wp2_with fail
      refine (HDD.out _ hbk).mono ?_
      rintro e w21 ⟨rfl, hbk2, hO⟩
      have hsz21 : wr.heap.size + 0 ≤ w21.heap.size := by have h := hO.size; (try simp at h); omega
      replace x0 := only_cell hO (x0) (fun hi => by rcases hi with hi | hi <;> omega)
      replace x1 := only_cell hO (x1) (fun hi => by rcases hi with hi | hi <;> omega)
      replace x2 := only_cell hO (x2) (fun hi => by rcases hi with hi | hi <;> omega)
      replace x3 := only_cell hO (x3) (fun hi => by rcases hi with hi | hi <;> omega)
      replace x4 := only_cell hO (x4) (fun hi => by rcases hi with hi | hi <;> omega)
      replace x5 := only_cell hO (x5) (fun hi => by rcases hi with hi | hi <;> omega)
      replace x6 := only_cell hO (x6) (fun hi => by rcases hi with hi | hi <;> omega)
      replace x7 := only_cell hO (x7) (fun hi => by rcases hi with hi | hi <;> omega)
      replace t0 := only_cell hO (t0) (fun hi => by rcases hi with hi | hi <;> omega)
      replace t1 := only_cell hO (t1) (fun hi => by rcases hi with hi | hi <;> omega)
      replace tR := res2_only (tR) hO (fun hi => by rcases hi with hi | hi <;> omega)
      replace hEs := es_only (hEs) hO (fun ad e hn hi => by have := HNE0.out ad e hn; rcases hi with hi | hi <;> omega)
      replace hB : Below w.heap.size w w21 := only_then (hB) hO (fun i hi => by rcases hi with hi | hi <;> omega)
      clear hO
      replace lb_x := World.block_lt_of_cell? w21 _ x0
      dsimp only at lb_x
      replace lb_t := World.block_lt_of_cell? w21 _ t0
      dsimp only at lb_t
      replace hbk := hbk2
      clear hbk2
      go_wp2_with fail
      refine wp_region_held_drew (S := fun w' => w'.cell? ⟨xb, xo + j * 8, none⟩ = some (.int .i64 dk) ∧ w'.cell? ⟨xb, xo + j * 8 + 1, none⟩ = some (.string dn) ∧ w'.cell? ⟨xb, xo + j * 8 + 2, none⟩ = some (.int .i64 p.kind) ∧ w'.cell? ⟨xb, xo + j * 8 + 3, none⟩ = some (.int .i64 p.limit) ∧ w'.cell? ⟨xb, xo + j * 8 + 4, none⟩ = some (.int .i64 p.period) ∧ w'.cell? ⟨xb, xo + j * 8 + 5, none⟩ = some (.int .i64 p.burst) ∧ w'.cell? ⟨xb, xo + j * 8 + 6, none⟩ = some (.int .i64 p.cap) ∧ w'.cell? ⟨xb, xo + j * 8 + 7, none⟩ = some (.bool p.opn) ∧ BookAt w' v mb (L2, V2) ∧ w'.cell? ⟨w1.heap.size, 0, none⟩ = some (.slice a n c) ∧ w'.cell? ⟨w1.heap.size, 1, none⟩ = some (.int .i64 V) ∧ Res2 w' w1.heap.size ∧ EsAt w' a n c L ∧ Below w.heap.size w w') (by kernel_rfl) ?_ (fun hHeld => ?_)
      · exact ⟨x0, x1, x2, x3, x4, x5, x6, x7, book_bl hbk (bl_drew (bl_refl _)), t0, t1, tR, es_bl hEs (bl_drew (bl_refl _)), bl_drew hB⟩
      try simp only [Act.put, List.setIfInBounds_toArray, List.set_cons_zero, List.set_cons_succ]
      clear hB x0 x1 x2 x3 x4 x5 x6 x7 hbk t0 t1 tR hEs
      refine wpAnyH_abs (F := fun _ => True) hHeld trivial ?_
      clear hHeld
      rintro X0 hHeld -
      (refine tk (i := 0) rfl rfl hHeld ?_)
      (refine tk (i := 1) rfl rfl hHeld ?_)
      (refine tk (i := 2) rfl rfl hHeld ?_)
      (refine tk (i := 3) rfl rfl hHeld ?_)
      (refine tk (i := 4) rfl rfl hHeld ?_)
      refine callC2 (i := 5) (j := 10) rfl rfl ?_ ?_
      case' refine_1 =>
        intro K hK
        obtain ⟨h_x0, h_x1, h_x2, h_x3, h_x4, h_x5, h_x6, h_x7, h_hbk, h_t0, h_t1, h_tR, h_hEs, h_B⟩ := (id hHeld)
        go_simp
        refine (HST.out _ h_hEs).mono ?_
        rintro e X5 ⟨a3, n3, c3, rfl, hEn, hSr, hb⟩
        have hbq := h_hbk.lt
        have htq := World.block_lt_of_cell? _ _ h_t0
        dsimp only at htq
        have hNe3 : ∀ ad, a3 = some ad → n3 ≠ 0 → ad.block ≠ v ∧ ad.block ≠ mb ∧ ad.block ≠ w1.heap.size := fun ad e hn => by rcases hSr with ⟨rfl, rfl⟩ | h; exact HNE0.out ad e hn; have := h ad e; omega
        have HNE3 := Go.Lib.hid hNe3
        clear hNe3 hbq htq
        go_wp2_with fail
        refine hK.out _ _ ?_ (fun hHeld2 => ?_)
        · (try dsimp only); exact ⟨bl_cell hb h_x0, bl_cell hb h_x1, bl_cell hb h_x2, bl_cell hb h_x3, bl_cell hb h_x4, bl_cell hb h_x5, bl_cell hb h_x6, bl_cell hb h_x7, book_bl h_hbk hb, bl_cell hb h_t0, bl_cell hb h_t1, res2_bl h_tR hb, es_bl h_hEs hb, bl_then h_B hb⟩
        clear hSr
        clear hHeld hK K h_x0 h_x1 h_x2 h_x3 h_x4 h_x5 h_x6 h_x7 h_hbk h_t0 h_t1 h_tR h_hEs h_B hb
        have hHeld := hHeld2
        clear hHeld2
        try simp only [Act.put, List.setIfInBounds_toArray, List.set_cons_zero, List.set_cons_succ]
        (refine tk (i := 6) rfl rfl hHeld ?_)
        (refine tk (i := 7) rfl rfl hHeld ?_)
        (refine tk (i := 8) rfl rfl hHeld ?_)
        (refine tk (i := 9) rfl rfl hHeld ?_)
        refine callC (i := 10) rfl (fun K hK => ?_)
        obtain ⟨h_x0, h_x1, h_x2, h_x3, h_x4, h_x5, h_x6, h_x7, h_hbk, h_t0, h_t1, h_tR, h_hEs, h_B⟩ := (id hHeld)
        go_simp
        refine hK.out _ _ ?_ (fun hHeld2 => ?_)
        · (try dsimp only); exact ⟨bl_cell (bl_alloc (bl_refl _) _) h_x0, bl_cell (bl_alloc (bl_refl _) _) h_x1, bl_cell (bl_alloc (bl_refl _) _) h_x2, bl_cell (bl_alloc (bl_refl _) _) h_x3, bl_cell (bl_alloc (bl_refl _) _) h_x4, bl_cell (bl_alloc (bl_refl _) _) h_x5, bl_cell (bl_alloc (bl_refl _) _) h_x6, bl_cell (bl_alloc (bl_refl _) _) h_x7, book_bl h_hbk (bl_alloc (bl_refl _) _), bl_cell (bl_alloc (bl_refl _) _) h_t0, bl_cell (bl_alloc (bl_refl _) _) h_t1, res2_bl h_tR (bl_alloc (bl_refl _) _), es_bl h_hEs (bl_alloc (bl_refl _) _), bl_alloc h_B _⟩
        have rn0 := World.block_lt_of_cell? _ _ h_t0
        have rn1 := World.block_lt_of_cell? _ _ h_x0
        have LT_hEs := es_lt h_hEs
        have LB_hbk := h_hbk.lt
        dsimp only at rn0 rn1
        have rB := h_B.size
        have hne : ∀ ad, a3 = some ad → n3 ≠ 0 → ad.block ≠ X5.heap.size := fun ad e hn => Nat.ne_of_lt (es_lt hEn ad e hn)
        replace hEn := es_bl hEn (bl_alloc (bl_refl _) (.cells #[.slice none 0 0, .int .i64 0] 29))
        clear hHeld hK K h_x0 h_x1 h_x2 h_x3 h_x4 h_x5 h_x6 h_x7 h_hbk h_t0 h_t1 h_tR h_hEs h_B
        have hHeld := hHeld2
        clear hHeld2
        try simp only [Act.put, List.setIfInBounds_toArray, List.set_cons_zero, List.set_cons_succ]
        refine wpAnyH_abs (F := fun X => Res2 X X5.heap.size ∧ EsAt X a3 n3 c3 L2) hHeld ⟨res2_new _ _ _ _ rfl, hEn⟩ ?_
        clear hHeld hEn
        generalize X5.heap.size = rt at *
        rintro X10 hHeld ⟨hRes, hEn⟩
        refine callC (i := 11) rfl (fun K hK => ?_)
        obtain ⟨h_x0, h_x1, h_x2, h_x3, h_x4, h_x5, h_x6, h_x7, h_hbk, h_t0, h_t1, h_tR, h_hEs, h_B⟩ := (id hHeld)
        obtain ⟨f0, f1, u0, u1, i0, i1⟩ := res2_all hRes
        go_simp
        refine hK.out _ _ ?_ (fun hHeld2 => ?_)
        · (try dsimp only); exact ⟨far_set (far_set h_x0 _ _ (by dsimp only; omega)) _ _ (by dsimp only; omega), far_set (far_set h_x1 _ _ (by dsimp only; omega)) _ _ (by dsimp only; omega), far_set (far_set h_x2 _ _ (by dsimp only; omega)) _ _ (by dsimp only; omega), far_set (far_set h_x3 _ _ (by dsimp only; omega)) _ _ (by dsimp only; omega), far_set (far_set h_x4 _ _ (by dsimp only; omega)) _ _ (by dsimp only; omega), far_set (far_set h_x5 _ _ (by dsimp only; omega)) _ _ (by dsimp only; omega), far_set (far_set h_x6 _ _ (by dsimp only; omega)) _ _ (by dsimp only; omega), far_set (far_set h_x7 _ _ (by dsimp only; omega)) _ _ (by dsimp only; omega), book_set (book_set h_hbk _ _ (by dsimp only; omega) (by dsimp only; omega)) _ _ (by dsimp only; omega) (by dsimp only; omega), far_set (far_set h_t0 _ _ (by dsimp only; omega)) _ _ (by dsimp only; omega), far_set (far_set h_t1 _ _ (by dsimp only; omega)) _ _ (by dsimp only; omega), res2_set (res2_set h_tR _ _) _ _, es_set (es_set h_hEs _ _ (fun ad e hn => by have := LT_hEs ad e hn; dsimp only; omega)) _ _ (fun ad e hn => by have := LT_hEs ad e hn; dsimp only; omega), bl_set (bl_set h_B (by dsimp only; omega) _) (by dsimp only; omega) _⟩
        obtain ⟨z0, z1⟩ := set2r (v0 := .slice a3 n3 c3) (v1 := .int .i64 V2) hRes
        replace hEn := es_set (es_set hEn ⟨rt, 0, none⟩ (.slice a3 n3 c3) hne) ⟨rt, 1, none⟩ (.int .i64 V2) hne
        replace hRes := res2_set (res2_set hRes ⟨rt, 0, none⟩ (.slice a3 n3 c3)) ⟨rt, 1, none⟩ (.int .i64 V2)
        clear hHeld hK K h_x0 h_x1 h_x2 h_x3 h_x4 h_x5 h_x6 h_x7 h_hbk h_t0 h_t1 h_tR h_hEs h_B f0 f1 i0 i1 u0 u1
        have hHeld := hHeld2
        clear hHeld2
        try simp only [Act.put, List.setIfInBounds_toArray, List.set_cons_zero, List.set_cons_succ]
        (refine tk (i := 12) rfl rfl hHeld ?_)
        (refine tk (i := 13) rfl rfl hHeld ?_)
        refine wpAnyH_done (by kernel_rfl) ?_ _
        refine then_abs (F := fun X => (fun w' => w'.cell? ⟨xb, xo + j * 8, none⟩ = some (.int .i64 dk) ∧ w'.cell? ⟨xb, xo + j * 8 + 1, none⟩ = some (.string dn) ∧ w'.cell? ⟨xb, xo + j * 8 + 2, none⟩ = some (.int .i64 p.kind) ∧ w'.cell? ⟨xb, xo + j * 8 + 3, none⟩ = some (.int .i64 p.limit) ∧ w'.cell? ⟨xb, xo + j * 8 + 4, none⟩ = some (.int .i64 p.period) ∧ w'.cell? ⟨xb, xo + j * 8 + 5, none⟩ = some (.int .i64 p.burst) ∧ w'.cell? ⟨xb, xo + j * 8 + 6, none⟩ = some (.int .i64 p.cap) ∧ w'.cell? ⟨xb, xo + j * 8 + 7, none⟩ = some (.bool p.opn) ∧ BookAt w' v mb (L2, V2) ∧ w'.cell? ⟨w1.heap.size, 0, none⟩ = some (.slice a n c) ∧ w'.cell? ⟨w1.heap.size, 1, none⟩ = some (.int .i64 V) ∧ Res2 w' w1.heap.size ∧ EsAt w' a n c L ∧ Below w.heap.size w w') X ∧ X.cell? ⟨rt, 0, none⟩ = some (.slice a3 n3 c3) ∧ X.cell? ⟨rt, 1, none⟩ = some (.int .i64 V2) ∧ Res2 X rt ∧ EsAt X a3 n3 c3 L2) ⟨hHeld, z0, z1, hRes, hEn⟩ ?_
        clear hHeld z0 z1 hRes hEn
      case' refine_2 =>
        intro K hK
        obtain ⟨h_x0, h_x1, h_x2, h_x3, h_x4, h_x5, h_x6, h_x7, h_hbk, h_t0, h_t1, h_tR, h_hEs, h_B⟩ := (id hHeld)
        go_simp
        refine hK.out _ _ ?_ (fun hHeld2 => ?_)
        · (try dsimp only); exact ⟨bl_cell (bl_alloc (bl_refl _) _) h_x0, bl_cell (bl_alloc (bl_refl _) _) h_x1, bl_cell (bl_alloc (bl_refl _) _) h_x2, bl_cell (bl_alloc (bl_refl _) _) h_x3, bl_cell (bl_alloc (bl_refl _) _) h_x4, bl_cell (bl_alloc (bl_refl _) _) h_x5, bl_cell (bl_alloc (bl_refl _) _) h_x6, bl_cell (bl_alloc (bl_refl _) _) h_x7, book_bl h_hbk (bl_alloc (bl_refl _) _), bl_cell (bl_alloc (bl_refl _) _) h_t0, bl_cell (bl_alloc (bl_refl _) _) h_t1, res2_bl h_tR (bl_alloc (bl_refl _) _), es_bl h_hEs (bl_alloc (bl_refl _) _), bl_alloc h_B _⟩
        have rn0 := World.block_lt_of_cell? _ _ h_t0
        have rn1 := World.block_lt_of_cell? _ _ h_x0
        have LT_hEs := es_lt h_hEs
        have LB_hbk := h_hbk.lt
        dsimp only at rn0 rn1
        have rB := h_B.size
        clear hHeld hK K h_x0 h_x1 h_x2 h_x3 h_x4 h_x5 h_x6 h_x7 h_hbk h_t0 h_t1 h_tR h_hEs h_B
        have hHeld := hHeld2
        clear hHeld2
        try simp only [Act.put, List.setIfInBounds_toArray, List.set_cons_zero, List.set_cons_succ]
        refine wpAnyH_abs (F := fun X => Res2 X X0.heap.size) hHeld (res2_new _ _ _ _ rfl) ?_
        clear hHeld
        generalize X0.heap.size = rt at *
        rintro X5 hHeld hRes
        refine callC (i := 5) rfl (fun K hK => ?_)
        obtain ⟨h_x0, h_x1, h_x2, h_x3, h_x4, h_x5, h_x6, h_x7, h_hbk, h_t0, h_t1, h_tR, h_hEs, h_B⟩ := (id hHeld)
        go_simp
        refine (HST.out _ h_hEs).mono ?_
        rintro e X6 ⟨a3, n3, c3, rfl, hEn, hSr, hb⟩
        have hbq := h_hbk.lt
        have htq := World.block_lt_of_cell? _ _ h_t0
        dsimp only at htq
        have hNe3 : ∀ ad, a3 = some ad → n3 ≠ 0 → ad.block ≠ v ∧ ad.block ≠ mb ∧ ad.block ≠ w1.heap.size := fun ad e hn => by rcases hSr with ⟨rfl, rfl⟩ | h; exact HNE0.out ad e hn; have := h ad e; omega
        have HNE3 := Go.Lib.hid hNe3
        clear hNe3 hbq htq
        go_wp2_with fail
        refine hK.out _ _ ?_ (fun hHeld2 => ?_)
        · (try dsimp only); exact ⟨bl_cell hb h_x0, bl_cell hb h_x1, bl_cell hb h_x2, bl_cell hb h_x3, bl_cell hb h_x4, bl_cell hb h_x5, bl_cell hb h_x6, bl_cell hb h_x7, book_bl h_hbk hb, bl_cell hb h_t0, bl_cell hb h_t1, res2_bl h_tR hb, es_bl h_hEs hb, bl_then h_B hb⟩
        have hrl := res2_lt hRes
        have hne : ∀ ad, a3 = some ad → n3 ≠ 0 → ad.block ≠ rt := fun ad e hn => by rcases hSr with ⟨rfl, rfl⟩ | h; exact Nat.ne_of_lt (LT_hEs ad e hn); have := h ad e; omega
        clear hrl
        replace hRes := res2_bl hRes hb
        clear hSr
        clear hHeld hK K h_x0 h_x1 h_x2 h_x3 h_x4 h_x5 h_x6 h_x7 h_hbk h_t0 h_t1 h_tR h_hEs h_B hb
        have hHeld := hHeld2
        clear hHeld2
        try simp only [Act.put, List.setIfInBounds_toArray, List.set_cons_zero, List.set_cons_succ]
        (refine tk (i := 6) rfl rfl hHeld ?_)
        (refine tk (i := 7) rfl rfl hHeld ?_)
        (refine tk (i := 8) rfl rfl hHeld ?_)
        (refine tk (i := 9) rfl rfl hHeld ?_)
        refine callC (i := 11) rfl (fun K hK => ?_)
        obtain ⟨h_x0, h_x1, h_x2, h_x3, h_x4, h_x5, h_x6, h_x7, h_hbk, h_t0, h_t1, h_tR, h_hEs, h_B⟩ := (id hHeld)
        obtain ⟨f0, f1, u0, u1, i0, i1⟩ := res2_all hRes
        go_simp
        refine hK.out _ _ ?_ (fun hHeld2 => ?_)
        · (try dsimp only); exact ⟨far_set (far_set h_x0 _ _ (by dsimp only; omega)) _ _ (by dsimp only; omega), far_set (far_set h_x1 _ _ (by dsimp only; omega)) _ _ (by dsimp only; omega), far_set (far_set h_x2 _ _ (by dsimp only; omega)) _ _ (by dsimp only; omega), far_set (far_set h_x3 _ _ (by dsimp only; omega)) _ _ (by dsimp only; omega), far_set (far_set h_x4 _ _ (by dsimp only; omega)) _ _ (by dsimp only; omega), far_set (far_set h_x5 _ _ (by dsimp only; omega)) _ _ (by dsimp only; omega), far_set (far_set h_x6 _ _ (by dsimp only; omega)) _ _ (by dsimp only; omega), far_set (far_set h_x7 _ _ (by dsimp only; omega)) _ _ (by dsimp only; omega), book_set (book_set h_hbk _ _ (by dsimp only; omega) (by dsimp only; omega)) _ _ (by dsimp only; omega) (by dsimp only; omega), far_set (far_set h_t0 _ _ (by dsimp only; omega)) _ _ (by dsimp only; omega), far_set (far_set h_t1 _ _ (by dsimp only; omega)) _ _ (by dsimp only; omega), res2_set (res2_set h_tR _ _) _ _, es_set (es_set h_hEs _ _ (fun ad e hn => by have := LT_hEs ad e hn; dsimp only; omega)) _ _ (fun ad e hn => by have := LT_hEs ad e hn; dsimp only; omega), bl_set (bl_set h_B (by dsimp only; omega) _) (by dsimp only; omega) _⟩
        obtain ⟨z0, z1⟩ := set2r (v0 := .slice a3 n3 c3) (v1 := .int .i64 V2) hRes
        replace hEn := es_set (es_set hEn ⟨rt, 0, none⟩ (.slice a3 n3 c3) hne) ⟨rt, 1, none⟩ (.int .i64 V2) hne
        replace hRes := res2_set (res2_set hRes ⟨rt, 0, none⟩ (.slice a3 n3 c3)) ⟨rt, 1, none⟩ (.int .i64 V2)
        clear hHeld hK K h_x0 h_x1 h_x2 h_x3 h_x4 h_x5 h_x6 h_x7 h_hbk h_t0 h_t1 h_tR h_hEs h_B f0 f1 i0 i1 u0 u1
        have hHeld := hHeld2
        clear hHeld2
        try simp only [Act.put, List.setIfInBounds_toArray, List.set_cons_zero, List.set_cons_succ]
        (refine tk (i := 12) rfl rfl hHeld ?_)
        (refine tk (i := 13) rfl rfl hHeld ?_)
        refine wpAnyH_done (by kernel_rfl) ?_ _
        refine then_abs (F := fun X => (fun w' => w'.cell? ⟨xb, xo + j * 8, none⟩ = some (.int .i64 dk) ∧ w'.cell? ⟨xb, xo + j * 8 + 1, none⟩ = some (.string dn) ∧ w'.cell? ⟨xb, xo + j * 8 + 2, none⟩ = some (.int .i64 p.kind) ∧ w'.cell? ⟨xb, xo + j * 8 + 3, none⟩ = some (.int .i64 p.limit) ∧ w'.cell? ⟨xb, xo + j * 8 + 4, none⟩ = some (.int .i64 p.period) ∧ w'.cell? ⟨xb, xo + j * 8 + 5, none⟩ = some (.int .i64 p.burst) ∧ w'.cell? ⟨xb, xo + j * 8 + 6, none⟩ = some (.int .i64 p.cap) ∧ w'.cell? ⟨xb, xo + j * 8 + 7, none⟩ = some (.bool p.opn) ∧ BookAt w' v mb (L2, V2) ∧ w'.cell? ⟨w1.heap.size, 0, none⟩ = some (.slice a n c) ∧ w'.cell? ⟨w1.heap.size, 1, none⟩ = some (.int .i64 V) ∧ Res2 w' w1.heap.size ∧ EsAt w' a n c L ∧ Below w.heap.size w w') X ∧ X.cell? ⟨rt, 0, none⟩ = some (.slice a3 n3 c3) ∧ X.cell? ⟨rt, 1, none⟩ = some (.int .i64 V2) ∧ Res2 X rt ∧ EsAt X a3 n3 c3 L2) ⟨hHeld, z0, z1, hRes, hEn⟩ ?_
        clear hHeld z0 z1 hRes hEn
      all_goals rintro w22 ⟨⟨x0, x1, x2, x3, x4, x5, x6, x7, hbk, t0, t1, tR, hEs, hB⟩, y0, y1, yR, hEn⟩
      all_goals
        have hn3 : n3 = L2.length := hEn.1.symm
        subst hn3
        skip
        clear hEs x0 x1 x2 x3 x4 x5 x6 x7
        have lb_t := World.block_lt_of_cell? w22 _ t0
        dsimp only at lb_t
        have lb_y := World.block_lt_of_cell? w22 _ y0
        dsimp only at lb_y
        have LBB := hbk.lt
        obtain ⟨f0, f1, u0, u1, i0, i1⟩ := res2_all tR
        go_wp2_with fail
        obtain ⟨z0, z1⟩ := set2r (v0 := .slice a3 L2.length c3) (v1 := .int .i64 V2) tR
        replace hbk := book_set (book_set hbk ⟨w1.heap.size, 0, none⟩ (.slice a3 L2.length c3) (by dsimp only; omega) (by dsimp only; omega)) ⟨w1.heap.size, 1, none⟩ (.int .i64 V2) (by dsimp only; omega) (by dsimp only; omega)
        replace t0 := z0
        replace t1 := z1
        replace tR := res2_set (res2_set tR ⟨w1.heap.size, 0, none⟩ (.slice a3 L2.length c3)) ⟨w1.heap.size, 1, none⟩ (.int .i64 V2)
        replace y0 := far_set (far_set y0 ⟨w1.heap.size, 0, none⟩ (.slice a3 L2.length c3) (by dsimp only; omega)) ⟨w1.heap.size, 1, none⟩ (.int .i64 V2) (by dsimp only; omega)
        replace y1 := far_set (far_set y1 ⟨w1.heap.size, 0, none⟩ (.slice a3 L2.length c3) (by dsimp only; omega)) ⟨w1.heap.size, 1, none⟩ (.int .i64 V2) (by dsimp only; omega)
        replace yR := res2_set (res2_set yR ⟨w1.heap.size, 0, none⟩ (.slice a3 L2.length c3)) ⟨w1.heap.size, 1, none⟩ (.int .i64 V2)
        replace hEn := es_set (es_set hEn ⟨w1.heap.size, 0, none⟩ (.slice a3 L2.length c3) (fun ad e hn => (HNE3.out ad e hn).2.2)) ⟨w1.heap.size, 1, none⟩ (.int .i64 V2) (fun ad e hn => (HNE3.out ad e hn).2.2)
        replace hB := bl_set (bl_set hB (a := ⟨w1.heap.size, 0, none⟩) (by dsimp only; omega) (.slice a3 L2.length c3)) (a := ⟨w1.heap.size, 1, none⟩) (by dsimp only; omega) (.int .i64 V2)
        clear z0 z1
        clear y0 y1 yR
        refine (HGT.out _ hbk).mono ?_
        rintro e w23 ⟨rfl, hb⟩
        have hsz22 : w22.heap.size + 0 ≤ w23.heap.size := by have h := hb.size; first | omega | (simp at h; omega) | (simp at h ⊢; omega)
        replace hbk := book_bl hbk hb
        replace t0 := bl_cell hb t0
        replace t1 := bl_cell hb t1
        replace tR := res2_bl tR hb
        replace hEn := es_bl hEn hb
        replace hB : Below w.heap.size w w23 := bl_then hB hb
        replace lb_t := World.block_lt_of_cell? w23 _ t0
        dsimp only at lb_t
        clear hb
        go_wp2_with fail
        refine (HRG.out _ _ _ _ (es_bl hEn (bl_alloc (bl_refl _) _))).mono ?_
        rintro e w24 ⟨rfl, hb⟩
        have hx : Below w23.heap.size w23 w24 := bl_then (bl_alloc (bl_refl _) _) hb
        have hsz23 : w23.heap.size + 1 ≤ w24.heap.size := by have h := hb.size; first | omega | (simp at h; omega) | (simp at h ⊢; omega)
        replace hbk := book_bl hbk hx
        replace t0 := bl_cell hx t0
        replace t1 := bl_cell hx t1
        replace tR := res2_bl tR hx
        replace hEn := es_bl hEn hx
        have o0 := bl_cell (v := .int .i64 g.kind) hb (show World.cell? _ ⟨w23.heap.size, 0, none⟩ = _ by go_simp)
        have o1 := bl_cell (v := .int .i64 g.limit) hb (show World.cell? _ ⟨w23.heap.size, 1, none⟩ = _ by go_simp)
        have o2 := bl_cell (v := .int .i64 g.period) hb (show World.cell? _ ⟨w23.heap.size, 2, none⟩ = _ by go_simp)
        have o3 := bl_cell (v := .int .i64 g.burst) hb (show World.cell? _ ⟨w23.heap.size, 3, none⟩ = _ by go_simp)
        have o4 := bl_cell (v := .int .i64 g.cap) hb (show World.cell? _ ⟨w23.heap.size, 4, none⟩ = _ by go_simp)
        have o5 := bl_cell (v := .bool g.opn) hb (show World.cell? _ ⟨w23.heap.size, 5, none⟩ = _ by go_simp)
        replace hB : Below w.heap.size w w24 := bl_then hB hx
        replace lb_t := World.block_lt_of_cell? w24 _ t0
        dsimp only at lb_t
        have lb_o := World.block_lt_of_cell? w24 _ o0
        dsimp only at lb_o
        clear hb hx
        go_wp2_with fail
        skip
        refine wp_abs (S0 := fun X => (fun w' => BookAt w' v mb (L2, V2) ∧ w'.cell? ⟨w1.heap.size, 0, none⟩ = some (.slice a3 L2.length c3) ∧ w'.cell? ⟨w1.heap.size, 1, none⟩ = some (.int .i64 V2) ∧ Res2 w' w1.heap.size ∧ EsAt w' a3 L2.length c3 L2 ∧ w'.cell? ⟨w23.heap.size, 0, none⟩ = some (.int .i64 g.kind) ∧ w'.cell? ⟨w23.heap.size, 1, none⟩ = some (.int .i64 g.limit) ∧ w'.cell? ⟨w23.heap.size, 2, none⟩ = some (.int .i64 g.period) ∧ w'.cell? ⟨w23.heap.size, 3, none⟩ = some (.int .i64 g.burst) ∧ w'.cell? ⟨w23.heap.size, 4, none⟩ = some (.int .i64 g.cap) ∧ w'.cell? ⟨w23.heap.size, 5, none⟩ = some (.bool g.opn) ∧ w'.cell? ⟨w24.heap.size, 0, none⟩ = some (.int .i64 g.kind) ∧ w'.cell? ⟨w24.heap.size, 1, none⟩ = some (.int .i64 g.limit) ∧ w'.cell? ⟨w24.heap.size, 2, none⟩ = some (.int .i64 g.period) ∧ w'.cell? ⟨w24.heap.size, 3, none⟩ = some (.int .i64 g.burst) ∧ w'.cell? ⟨w24.heap.size, 4, none⟩ = some (.int .i64 g.cap) ∧ w'.cell? ⟨w24.heap.size, 5, none⟩ = some (.bool g.opn) ∧ Below w.heap.size w w') X ∧ w24.heap.size + 1 ≤ X.heap.size) ⟨⟨book_bl hbk (bl_alloc (bl_refl _) _), bl_cell (bl_alloc (bl_refl _) _) t0, bl_cell (bl_alloc (bl_refl _) _) t1, res2_bl tR (bl_alloc (bl_refl _) _), es_bl hEn (bl_alloc (bl_refl _) _), bl_cell (bl_alloc (bl_refl _) _) o0, bl_cell (bl_alloc (bl_refl _) _) o1, bl_cell (bl_alloc (bl_refl _) _) o2, bl_cell (bl_alloc (bl_refl _) _) o3, bl_cell (bl_alloc (bl_refl _) _) o4, bl_cell (bl_alloc (bl_refl _) _) o5, by go_simp, by go_simp, by go_simp, by go_simp, by go_simp, by go_simp, bl_alloc (hB) _⟩, by simp⟩ ?_
        clear hbk t0 t1 tR hEn o0 o1 o2 o3 o4 o5 hB
        rintro w25 ⟨⟨hbk, t0, t1, tR, hEn, o0, o1, o2, o3, o4, o5, q0, q1, q2, q3, q4, q5, hB⟩, hsz24⟩
        replace lb_t := World.block_lt_of_cell? w25 _ t0
        dsimp only at lb_t
        replace lb_o := World.block_lt_of_cell? w25 _ o0
        dsimp only at lb_o
        have lb_q := World.block_lt_of_cell? w25 _ q0
        dsimp only at lb_q
        have hne := HNE.out
        refine wp_region_held_drew (S := fun w' => BookAt w' v mb (L2, V2) ∧ w'.cell? ⟨w1.heap.size, 0, none⟩ = some (.slice a3 L2.length c3) ∧ w'.cell? ⟨w1.heap.size, 1, none⟩ = some (.int .i64 V2) ∧ Res2 w' w1.heap.size ∧ EsAt w' a3 L2.length c3 L2 ∧ w'.cell? ⟨w23.heap.size, 0, none⟩ = some (.int .i64 g.kind) ∧ w'.cell? ⟨w23.heap.size, 1, none⟩ = some (.int .i64 g.limit) ∧ w'.cell? ⟨w23.heap.size, 2, none⟩ = some (.int .i64 g.period) ∧ w'.cell? ⟨w23.heap.size, 3, none⟩ = some (.int .i64 g.burst) ∧ w'.cell? ⟨w23.heap.size, 4, none⟩ = some (.int .i64 g.cap) ∧ w'.cell? ⟨w23.heap.size, 5, none⟩ = some (.bool g.opn) ∧ w'.cell? ⟨w24.heap.size, 0, none⟩ = some (.int .i64 g.kind) ∧ w'.cell? ⟨w24.heap.size, 1, none⟩ = some (.int .i64 g.limit) ∧ w'.cell? ⟨w24.heap.size, 2, none⟩ = some (.int .i64 g.period) ∧ w'.cell? ⟨w24.heap.size, 3, none⟩ = some (.int .i64 g.burst) ∧ w'.cell? ⟨w24.heap.size, 4, none⟩ = some (.int .i64 g.cap) ∧ w'.cell? ⟨w24.heap.size, 5, none⟩ = some (.bool g.opn) ∧ Below w.heap.size w w') (by kernel_rfl) ?_ (fun hHeld => ?_)
        · exact ⟨book_bl hbk (bl_drew (bl_refl _)), t0, t1, tR, hEn, o0, o1, o2, o3, o4, o5, q0, q1, q2, q3, q4, q5, bl_drew hB⟩
        try simp only [Act.put, List.setIfInBounds_toArray, List.set_cons_zero, List.set_cons_succ]
        (refine tk (i := 0) rfl rfl hHeld ?_)
        (refine tk (i := 1) rfl rfl hHeld ?_)
        (refine tk (i := 2) rfl rfl hHeld ?_)
        (refine tk (i := 3) rfl rfl hHeld ?_)
        first | (refine tq (i := 4) rfl rfl hHeld ?_) | (refine tk (i := 4) rfl rfl hHeld ?_)
        first | (refine tq (i := 5) rfl rfl hHeld ?_) | (refine tk (i := 5) rfl rfl hHeld ?_)
        first | (refine tq (i := 6) rfl rfl hHeld ?_) | (refine tk (i := 6) rfl rfl hHeld ?_)
        (refine tk (i := 7) rfl rfl hHeld ?_)
        (refine tk (i := 8) rfl rfl hHeld ?_)
        first | (refine tq (i := 9) rfl rfl hHeld ?_) | (refine tk (i := 9) rfl rfl hHeld ?_)
        first | (refine tq (i := 10) rfl rfl hHeld ?_) | (refine tk (i := 10) rfl rfl hHeld ?_)
        first | (refine tq (i := 11) rfl rfl hHeld ?_) | (refine tk (i := 11) rfl rfl hHeld ?_)
        (refine tk (i := 12) rfl rfl hHeld ?_)
        (refine tk (i := 13) rfl rfl hHeld ?_)
        first | (refine tq (i := 14) rfl rfl hHeld ?_) | (refine tk (i := 14) rfl rfl hHeld ?_)
        first | (refine tq (i := 15) rfl rfl hHeld ?_) | (refine tk (i := 15) rfl rfl hHeld ?_)
        first | (refine tq (i := 16) rfl rfl hHeld ?_) | (refine tk (i := 16) rfl rfl hHeld ?_)
        (refine tk (i := 17) rfl rfl hHeld ?_)
        (refine tk (i := 18) rfl rfl hHeld ?_)
        first | (refine tq (i := 19) rfl rfl hHeld ?_) | (refine tk (i := 19) rfl rfl hHeld ?_)
        first | (refine tq (i := 20) rfl rfl hHeld ?_) | (refine tk (i := 20) rfl rfl hHeld ?_)
        first | (refine tq (i := 21) rfl rfl hHeld ?_) | (refine tk (i := 21) rfl rfl hHeld ?_)
        (refine tk (i := 22) rfl rfl hHeld ?_)
        (refine tk (i := 23) rfl rfl hHeld ?_)
        first | (refine tq (i := 24) rfl rfl hHeld ?_) | (refine tk (i := 24) rfl rfl hHeld ?_)
        first | (refine tq (i := 26) rfl rfl hHeld ?_) | (refine tk (i := 26) rfl rfl hHeld ?_)
        first | (refine tq (i := 27) rfl rfl hHeld ?_) | (refine tk (i := 27) rfl rfl hHeld ?_)
        first | (refine tq (i := 25) rfl rfl hHeld ?_) | (refine callC (i := 25) rfl (fun K hK => ?_); obtain ⟨h_hbk, h_t0, h_t1, h_tR, h_hEn, h_o0, h_o1, h_o2, h_o3, h_o4, h_o5, h_q0, h_q1, h_q2, h_q3, h_q4, h_q5, h_B⟩ := (id hHeld); go_simp; refine (HVR.out _ h_hbk).mono ?_; rintro e w9 ⟨rfl, hb⟩; go_wp2_with fail; refine hK.out _ _ ?_ (fun hHeld2 => ?_); (focus ((try dsimp only); exact ⟨book_bl h_hbk hb, bl_cell hb h_t0, bl_cell hb h_t1, res2_bl h_tR hb, es_bl h_hEn hb, bl_cell hb h_o0, bl_cell hb h_o1, bl_cell hb h_o2, bl_cell hb h_o3, bl_cell hb h_o4, bl_cell hb h_o5, bl_cell hb h_q0, bl_cell hb h_q1, bl_cell hb h_q2, bl_cell hb h_q3, bl_cell hb h_q4, bl_cell hb h_q5, bl_then h_B hb⟩)); clear hHeld hK K; have hHeld := hHeld2; clear hHeld2 h_hbk h_t0 h_t1 h_tR h_hEn h_o0 h_o1 h_o2 h_o3 h_o4 h_o5 h_q0 h_q1 h_q2 h_q3 h_q4 h_q5 h_B; try simp only [Act.put, List.setIfInBounds_toArray, List.set_cons_zero, List.set_cons_succ])
        first | (refine tq (i := 28) rfl rfl hHeld ?_) | (refine tk (i := 28) rfl rfl hHeld ?_)
        (refine tk (i := 29) rfl rfl hHeld ?_)
        (refine tk (i := 30) rfl rfl hHeld ?_)
        first | (refine tq (i := 31) rfl rfl hHeld ?_) | (refine tk (i := 31) rfl rfl hHeld ?_)
        first | (refine tq (i := 33) rfl rfl hHeld ?_) | (refine tk (i := 33) rfl rfl hHeld ?_)
        first | (refine tq (i := 32) rfl rfl hHeld ?_) | (refine callC (i := 32) rfl (fun K hK => ?_); obtain ⟨h_hbk, h_t0, h_t1, h_tR, h_hEn, h_o0, h_o1, h_o2, h_o3, h_o4, h_o5, h_q0, h_q1, h_q2, h_q3, h_q4, h_q5, h_B⟩ := (id hHeld); go_simp; refine (HNM.out _ h_hbk).mono ?_; rintro e w9 ⟨A1, d1, rfl, hk1, hb⟩; go_wp2_with fail; refine hK.out _ _ ?_ (fun hHeld2 => ?_); (focus ((try dsimp only); exact ⟨book_bl h_hbk hb, bl_cell hb h_t0, bl_cell hb h_t1, res2_bl h_tR hb, es_bl h_hEn hb, bl_cell hb h_o0, bl_cell hb h_o1, bl_cell hb h_o2, bl_cell hb h_o3, bl_cell hb h_o4, bl_cell hb h_o5, bl_cell hb h_q0, bl_cell hb h_q1, bl_cell hb h_q2, bl_cell hb h_q3, bl_cell hb h_q4, bl_cell hb h_q5, bl_then h_B hb⟩)); clear hHeld hK K; have hHeld := hHeld2; clear hHeld2 h_hbk h_t0 h_t1 h_tR h_hEn h_o0 h_o1 h_o2 h_o3 h_o4 h_o5 h_q0 h_q1 h_q2 h_q3 h_q4 h_q5 h_B; try simp only [Act.put, List.setIfInBounds_toArray, List.set_cons_zero, List.set_cons_succ])
        first | (refine tq (i := 34) rfl rfl hHeld ?_) | (refine callC (i := 34) rfl (fun K hK => ?_); obtain ⟨h_hbk, h_t0, h_t1, h_tR, h_hEn, h_o0, h_o1, h_o2, h_o3, h_o4, h_o5, h_q0, h_q1, h_q2, h_q3, h_q4, h_q5, h_B⟩ := (id hHeld); go_simp; refine (HRN.out _ _ _ _ h_hEn (by omega)).mono ?_; rintro e w9 ⟨A2, d2, rfl, hk2, hb⟩; replace hk1 := keysat_bl hk1 hb; go_wp2_with fail; refine hK.out _ _ ?_ (fun hHeld2 => ?_); (focus ((try dsimp only); exact ⟨book_bl h_hbk hb, bl_cell hb h_t0, bl_cell hb h_t1, res2_bl h_tR hb, es_bl h_hEn hb, bl_cell hb h_o0, bl_cell hb h_o1, bl_cell hb h_o2, bl_cell hb h_o3, bl_cell hb h_o4, bl_cell hb h_o5, bl_cell hb h_q0, bl_cell hb h_q1, bl_cell hb h_q2, bl_cell hb h_q3, bl_cell hb h_q4, bl_cell hb h_q5, bl_then h_B hb⟩)); clear hHeld hK K; have hHeld := hHeld2; clear hHeld2 h_hbk h_t0 h_t1 h_tR h_hEn h_o0 h_o1 h_o2 h_o3 h_o4 h_o5 h_q0 h_q1 h_q2 h_q3 h_q4 h_q5 h_B; try simp only [Act.put, List.setIfInBounds_toArray, List.set_cons_zero, List.set_cons_succ])
        first | (refine tq (i := 35) rfl rfl hHeld ?_) | (refine callC (i := 35) rfl (fun K hK => ?_); obtain ⟨h_hbk, h_t0, h_t1, h_tR, h_hEn, h_o0, h_o1, h_o2, h_o3, h_o4, h_o5, h_q0, h_q1, h_q2, h_q3, h_q4, h_q5, h_B⟩ := (id hHeld); go_simp; refine (HSS.out _ _ _ _ _ _ _ hk1 hk2).mono ?_; rintro e w9 ⟨rfl, hb⟩; go_wp2_with fail; refine hK.out _ _ ?_ (fun hHeld2 => ?_); (focus ((try dsimp only); exact ⟨book_bl h_hbk hb, bl_cell hb h_t0, bl_cell hb h_t1, res2_bl h_tR hb, es_bl h_hEn hb, bl_cell hb h_o0, bl_cell hb h_o1, bl_cell hb h_o2, bl_cell hb h_o3, bl_cell hb h_o4, bl_cell hb h_o5, bl_cell hb h_q0, bl_cell hb h_q1, bl_cell hb h_q2, bl_cell hb h_q3, bl_cell hb h_q4, bl_cell hb h_q5, bl_then h_B hb⟩)); clear hHeld hK K; have hHeld := hHeld2; clear hHeld2 h_hbk h_t0 h_t1 h_tR h_hEn h_o0 h_o1 h_o2 h_o3 h_o4 h_o5 h_q0 h_q1 h_q2 h_q3 h_q4 h_q5 h_B; try simp only [Act.put, List.setIfInBounds_toArray, List.set_cons_zero, List.set_cons_succ])
        first | (refine tq (i := 36) rfl rfl hHeld ?_) | (refine tk (i := 36) rfl rfl hHeld ?_)
        (refine tk (i := 37) rfl rfl hHeld ?_)
        refine wpAnyH_done (by kernel_rfl) ?_ _
        refine then_abs (F := fun w' => BookAt w' v mb (L2, V2) ∧ w'.cell? ⟨w1.heap.size, 0, none⟩ = some (.slice a3 L2.length c3) ∧ w'.cell? ⟨w1.heap.size, 1, none⟩ = some (.int .i64 V2) ∧ Res2 w' w1.heap.size ∧ EsAt w' a3 L2.length c3 L2 ∧ w'.cell? ⟨w23.heap.size, 0, none⟩ = some (.int .i64 g.kind) ∧ w'.cell? ⟨w23.heap.size, 1, none⟩ = some (.int .i64 g.limit) ∧ w'.cell? ⟨w23.heap.size, 2, none⟩ = some (.int .i64 g.period) ∧ w'.cell? ⟨w23.heap.size, 3, none⟩ = some (.int .i64 g.burst) ∧ w'.cell? ⟨w23.heap.size, 4, none⟩ = some (.int .i64 g.cap) ∧ w'.cell? ⟨w23.heap.size, 5, none⟩ = some (.bool g.opn) ∧ w'.cell? ⟨w24.heap.size, 0, none⟩ = some (.int .i64 g.kind) ∧ w'.cell? ⟨w24.heap.size, 1, none⟩ = some (.int .i64 g.limit) ∧ w'.cell? ⟨w24.heap.size, 2, none⟩ = some (.int .i64 g.period) ∧ w'.cell? ⟨w24.heap.size, 3, none⟩ = some (.int .i64 g.burst) ∧ w'.cell? ⟨w24.heap.size, 4, none⟩ = some (.int .i64 g.cap) ∧ w'.cell? ⟨w24.heap.size, 5, none⟩ = some (.bool g.opn) ∧ Below w.heap.size w w') hHeld ?_
        clear hHeld hB hbk t0 t1 tR hEn o0 o1 o2 o3 o4 o5 q0 q1 q2 q3 q4 q5
        rintro w26 ⟨hbk, t0, t1, tR, hEn, o0, o1, o2, o3, o4, o5, q0, q1, q2, q3, q4, q5, hB⟩
        replace lb_t := World.block_lt_of_cell? w26 _ t0
        dsimp only at lb_t
        replace lb_o := World.block_lt_of_cell? w26 _ o0
        dsimp only at lb_o
        replace lb_q := World.block_lt_of_cell? w26 _ q0
        dsimp only at lb_q
        go_wp2_with fail
        go_roundw
        case rel => exact ⟨j + 1, by go_num, hj1, ⟨(L2, V2), a3, L2.length, c3, hbk, HOK2.out, by have h2 := HVER2.out; dsimp only; omega, t0, t1, tR, hEn, HNE3.out, hB⟩⟩
        case measure => (simp [intOf]; first | exact hms | omega)
    · have hje : m = j := by omega
      subst hje
      clear hbk hok t0 t1 tR hEs hNe
      go_wp2_with fail
      refine (HNB.out _).mono ?_
      rintro e w61 ⟨rfl, hb⟩
      have hsz61 : wr.heap.size + 0 ≤ w61.heap.size := by have h := hb.size; first | omega | (simp at h; omega) | (simp at h ⊢; omega)
      replace hB : Below w.heap.size w w61 := bl_then hB hb
      clear hb
      go_wp2_with fail
      refine (HNR.out _).mono ?_
      rintro e w62 ⟨rfl, hb⟩
      have hsz62 : w61.heap.size + 0 ≤ w62.heap.size := by have h := hb.size; first | omega | (simp at h; omega) | (simp at h ⊢; omega)
      replace hB : Below w.heap.size w w62 := bl_then hB hb
      clear hb
      go_wp2_with fail
      refine (HKN.out _).mono ?_
      rintro e w63 ⟨rfl, hb⟩
      have hsz63 : w62.heap.size + 0 ≤ w63.heap.size := by have h := hb.size; first | omega | (simp at h; omega) | (simp at h ⊢; omega)
      replace hB : Below w.heap.size w w63 := bl_then hB hb
      clear hb
      go_wp2_with fail
      go_ret
      exact ⟨rfl, hB⟩
theorem bsteps_row (la : Option Addr) (m lc : Nat) (ds : Nat → BD) (s : ByteArray) (w : World) (hA : BDsIn w la m ds) (hs : s.size ≤ maxLen) : Calls Tryz.prog 3 #[.slice la m lc, .string s] w fun e w' => e = .returned (.bool true) ∧ Below w.heap.size w w' := by
  by_cases hm : (60 : Int) < m
  · exact bsteps_long la m lc ds s w hA hs hm
  · exact bsteps_run la m lc ds s w hA hs hm
end Go.Proofs.YtcfdcianpicbmaaGreat

namespace Go.Proofs.YtcfdcianpicbmaaGreat.bookSteps
open Go.ChangeShapes Go.WideShapes Go.ChangeAt Go.RowKit
open Go.ChangeMaps (open_string shut_string)
set_option linter.unusedVariables false
set_option linter.unusedSimpArgs false

theorem own : ownKnob Tryz.prog.godebug = none := by kernel_rfl
theorem laidOut : laidOutB Tryz.prog = true := by kernel_rfl

set_option maxHeartbeats 1000000 in
set_option maxRecDepth 100000 in
theorem lifted (os : Os) (started : os.Started) (H : Type) (enc : TypeId × Value → H) :
    ReturnsInHanded {} Tryz.checked os 3 .any (Rows.bookStepsSpec.pre6 enc Tryz.prog Tryz.f3 Rows.bookStepsRow.domain false) (Rows.bookStepsSpec.post enc Tryz.prog Tryz.f3 false true false false) := by
  refine returnsInHanded_of_change (C := Tryz.checked) own started (by kernel_rfl) Tryz.func3
    (ChangeSpec.witness6 (enc := enc) (C := Tryz.checked) false ⟨#[], #[.slice none 0 0, .string ByteArray.empty], []⟩ 8 (by kernel_rfl) (by kernel_rfl) (by kernel_rfl) (by kernel_rfl)) ?_
  intro W base args ds gs before hval0 hW hcnd _
  have hval : ∀ (j : Nat) t v, Tryz.f3.params[j]? = some t → args[j]? = some v → Value.okWide Tryz.prog W .any base t v := hval0
  have hW' := hW
  obtain ⟨p, q, hA0, hV, rfl, hfz, hnd⟩ := hW
  have hA : DataW.TrodAll enc Tryz.prog W 0 (fun _ => true) true Tryz.f3.params.toList args.toList ds p := hA0
  rw [Tryz.params3] at hA hval
  obtain ⟨v0, vs0, d0, ds0', p0, q0, hargs, rfl, rfl, h0, r0⟩ := trodAll_cons hA
  obtain ⟨v1, vs1, d1, ds1', p1, q1, rfl, rfl, rfl, h1, r1⟩ := trodAll_cons r0
  obtain ⟨rfl, rfl, rfl⟩ := trodAll_nil r1
  obtain rfl : args = #[v0, v1] := by cases args; simp_all
  obtain ⟨rfl, rfl⟩ := trodVars_none hV
  obtain ⟨a0, len0, cap0, rfl⟩ := okWide_slice Tryz.underlying22 (hval 0 22 v0 rfl rfl)
  have k0 := h0
  have lt0 : ∀ x ∈ p0, x.block < W.heap.size := by obtain ⟨m, hm⟩ := k0; exact DataW.trod_lt m _ _ _ hm
  obtain ⟨ds0, w0⟩ : ∃ ds, BDsIn W a0 len0 ds := by obtain ⟨fuel, hf⟩ := h0; exact open_bds (by simpa [Value.cells] using hf)
  obtain ⟨a1, rfl, rfl, rfl, w1⟩ := open_string Tryz.underlying9 (hval 1 9 v1 rfl rfl) h1
  clear hA0 hval0
  refine (bsteps_row a0 len0 cap0 ds0 a1 W w0 w1).mono fun e W' ⟨he, bel⟩ => ?_
  subst he
  exact ⟨_, rfl, _, _, _, [], _, [], hW', trodAll_mk1 (shut_bool Tryz.underlying4 _), (trodAll_cons_mk (Below.trod laidOut (by kernel_rfl) (of_decide_eq_true (by kernel_rfl)) k0 bel lt0) (trodAll_cons_mk (shut_string Tryz.underlying9 w1) trodAll_mk0)), rfl, bel.frame _, fun h => by cases h⟩

theorem over : Rows.bookStepsRow.holds Tryz.pinned (OpenSpec.ofChange Rows.bookStepsSpec) :=
  OpenClaim.holds_of_wide 3 Tryz.f3 rfl rfl rfl rfl rfl rfl rfl ⟨rfl, rfl, rfl, rfl, rfl⟩ rfl rfl rfl rfl rfl (by kernel_rfl) Tryz.func3 (by kernel_rfl)
    (of_decide_eq_true (by kernel_rfl)) (by unfold Func.isWrapper; first | (rw [if_pos (by decide +kernel)]; kernel_rfl) | (rw [if_neg (by decide +kernel)]; exact ⟨rfl, rfl⟩))
    (fun os started H enc _ => lifted os started H enc)

/-- The statement. -/
theorem proved : Rows.BookStepsSaid := over
end Go.Proofs.YtcfdcianpicbmaaGreat.bookSteps
