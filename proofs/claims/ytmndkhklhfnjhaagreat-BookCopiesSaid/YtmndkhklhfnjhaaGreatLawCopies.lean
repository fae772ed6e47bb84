/-
  The statement BookCopies of this seat: for every input the law returns true, and each argument reads afterwards as it read before. No condition.
-/
import Derived.Test.YtmndkhklhfnjhaaGreatM1
import Derived.Shelf.SlMaps.Clone
import Derived.Test.YtmndkhklhfnjhaaGreatRows
import Derived.WalkKit
import Derived.ProofKit
import Derived.OpenShut
import Derived.ShutString
import Derived.ChangeOld
import Derived.Below
namespace Go.Proofs.YtmndkhklhfnjhaaGreat
open Go.RowKit Go.Maps
set_option linter.unusedVariables false
set_option linter.unusedSimpArgs false

theorem sDel_twice {β : Type} (k : Key) (l : List (Key × β)) : sDel k (sDel k l) = sDel k l := by unfold sDel; rw [List.filter_filter]; congr 1; funext x; simp
/-- A book whose k was dropped and laid again as it was. -/
def reB (b : Bk) (k : Key) : Bk := (sPut k ((bGet b k).1, b.2 + 1) b.1, b.2 + 1)
theorem re_lay {b : Bk} (hb : OkB namedB b) {k : Key} (hi : bIs b k = true) :
    layV namedB (dropB b k) k (bGet b k).1 = b.2 + 1 ∧ layE namedB (dropB b k) k (bGet b k).1 = 0 ∧ layB namedB (dropB b k) k (bGet b k).1 = reB b k := by
  obtain ⟨h1, h2, -, -⟩ := hb.get hi
  have hd := get_drop b k
  have hl : (dropB b k).1.length < 100 := by
    have := sDel_length hb.nodup (k := k) (by unfold bIs at hi; exact hi)
    have h := hb.len
    show (sDel k b.1).length < 100
    omega
  have he : layE namedB (dropB b k) k (bGet b k).1 = 0 := by
    unfold layE
    rw [if_neg (by rintro (z | z); rw [h1] at z; cases z; exact z h2), if_neg (by rintro ⟨-, z⟩; omega)]
  have hs : bSame (dropB b k) k (bGet b k).1 = false := by unfold bSame; rw [hd]; rfl
  refine ⟨(lay_new he hs).1, he, ?_⟩
  unfold layB
  rw [if_pos (And.intro he hs)]
  unfold reB sPut dropB
  dsimp only
  rw [sDel_twice]
theorem re_is {b : Bk} {k : Key} (hi : bIs b k = true) (k' : Key) (h : bIs b k' = true) : bIs (reB b k) k' = true := by
  unfold bIs reB at *
  by_cases e : k' = k
  · subst e; rw [sGet_put_same]; rfl
  · rw [sGet_put_other e]; exact h
theorem re_ok {b : Bk} (hb : OkB namedB b) {k : Key} (hi : bIs b k = true) : OkB namedB (reB b k) := by
  rw [← (re_lay hb hi).2.2]
  exact (hb.drop k).lay _ _
theorem keysat_far {F : Nat → Prop} {w w' : World} {B S : Nat} {A : Option Addr} {ks : List Key} (h : KeysAt w B A ks) (ho : Only F w w') (hs : 0 < ks.length → ∃ g, A = some ⟨g, 0, none⟩ ∧ g < S) (hf : ∀ i, F i → S ≤ i) : KeysAt w' B A ks := fun h0 => by
  obtain ⟨g, e, hg, hc⟩ := h h0
  obtain ⟨g', e', hl⟩ := hs h0
  rw [e] at e'
  injection e' with e'
  injection e' with e'
  subst e'
  exact ⟨g, e, hg, fun j hj => ⟨(hc j hj).1, only_cell ho (hc j hj).2 (fun hF => by have := hf g hF; omega)⟩⟩
theorem keysat_off {F : Nat → Prop} {w w' : World} {B : Nat} {A : Option Addr} {ks : List Key} (h : KeysAt w B A ks) (ho : Only F w w') (hf : ∀ i, F i → i < B) : KeysAt w' B A ks := fun h0 => by
  obtain ⟨g, e, hg, hc⟩ := h h0
  exact ⟨g, e, hg, fun j hj => ⟨(hc j hj).1, only_cell ho (hc j hj).2 (fun hF => by have := hf g hF; omega)⟩⟩
theorem book_only {F : Nat → Prop} {w w' : World} {v mb : Nat} {b : Bk} (h : BookAt w v mb b) (ho : Only F w w') (h1 : ¬ F v) (h2 : ¬ F mb) : BookAt w' v mb b := h.frame (ho.block v h.lt.1 h1) (ho.block mb h.lt.2 h2)
end Go.Proofs.YtmndkhklhfnjhaaGreat

namespace Go.Proofs
open Go.Shelf
def Tryz.cloneL_ren : Go.Shelf.Ren := ⟨fun | 5 => 31 | 7 => 39 | n => n, fun | 23 => 56 | 25 => 9 | 3 => 63 | 4 => 4 | 20 => 20 | n => n, fun | n => n⟩
theorem Tryz.cloneL : Go.Proofs.SlLaysW.n5 Tryz.prog Tryz.cloneL_ren := {
  mixed := by kernel_rfl
  f5 := ⟨Tryz.f31.name, by decide, Tryz.func31.trans (congrArg some (by kernel_rfl))⟩
  f7 := Tryz.func39.trans (congrArg some (by kernel_rfl))
  t4 := Tryz.underlying4
  a4 := Tryz.isAgg4
  z4 := Tryz.sizeOf4
  v4 := Tryz.zeroValue4
  t20 := Tryz.underlying20
  a20 := Tryz.isAgg20
  z20 := Tryz.sizeOf20
  v20 := Tryz.zeroValue20
  t23 := Tryz.underlying56
  a23 := Tryz.isAgg56
  z23 := Tryz.sizeOf56
  v23 := Tryz.zeroValue56 }
end Go.Proofs

namespace Go.Proofs.YtmndkhklhfnjhaaGreat
open Go.RowKit Go.Maps Go.Shelf
set_option linter.unusedVariables false
set_option linter.unusedSimpArgs false

theorem clone_any {H : Type} (kt : TypeId) (R : Value → Option (DataW H × List MemPlace)) (b n : Nat) (D : DataW H) (w : World) (hown : w.ownsMap Tryz.prog kt R b n D) :
    Calls Tryz.prog 31 #[.map (some b)] w fun e w' => e = .returned (.map (some w.heap.size)) ∧ w'.ownsMap Tryz.prog kt R w.heap.size n D ∧ w'.ownsMap Tryz.prog kt R b n D ∧ Below w.heap.size w w' :=
  AnyW.maps_Clone_owns Tryz.cloneL kt R b n D w hown

set_option maxHeartbeats 2000000 in
set_option maxRecDepth 100000 in
theorem copy_book {v mb : Nat} {b : Bk} (w : World) (h : BookAt w v mb b) : Calls Tryz.prog 21 #[.pointer (some ⟨v, 0, none⟩)] w fun e w' =>
    ∃ v2 mb2, e = .returned (.pointer (some ⟨v2, 0, none⟩)) ∧ BookAt w' v2 mb2 b ∧ w.heap.size ≤ v2 ∧ w.heap.size ≤ mb2 ∧ Below w.heap.size w w' := by
  have hlt := h.lt.1
  have hml := h.lt.2
  obtain ⟨c0, c1⟩ := h.cells
  have HB := Go.Lib.hid h
  clear h
  go_enter Tryz.func21, Tryz.ntmps21
  go_wp2_with fail
  refine wp_region_held_drew (S := fun w' => w'.cell? ⟨v, 0, none⟩ = some (.map (some mb)) ∧ w'.cell? ⟨v, 1, none⟩ = some (.int .i64 b.2) ∧ Below w.heap.size w w') (by kernel_rfl) ?_ (fun hHeld => ?_)
  · exact ⟨c0, c1, bl_drew (bl_refl _)⟩
  try simp only [Act.put, List.setIfInBounds_toArray, List.set_cons_zero, List.set_cons_succ]
  refine wpAnyH_abs (F := fun _ => True) hHeld trivial ?_
  clear hHeld c0 c1
  rintro X0 hHeld -
  (refine tk (i := 0) rfl rfl hHeld ?_)
  (refine tk (i := 1) rfl rfl hHeld ?_)
  (refine tk (i := 2) rfl rfl hHeld ?_)
  (refine tk (i := 3) rfl rfl hHeld ?_)
  (refine tk (i := 5) rfl rfl hHeld ?_)
  (refine tk (i := 6) rfl rfl hHeld ?_)
  (refine tk (i := 7) rfl rfl hHeld ?_)
  (refine tk (i := 8) rfl rfl hHeld ?_)
  refine callC (i := 4) rfl (fun K hK => ?_)
  obtain ⟨h0, h1, hB⟩ := (id hHeld)
  have hbx := book_bl HB.out hB
  have hcl := clone_any _ _ _ _ _ X0 hbx.own
  have HC := Go.Lib.hid hcl
  clear hcl hbx
  go_simp
  refine (HC.out).mono ?_
  rintro e X1 ⟨rfl, hown, -, hb⟩
  go_wp2_with fail
  refine hK.out _ _ ?_ (fun hHeld2 => ?_)
  · exact ⟨bl_cell hb h0, bl_cell hb h1, bl_then hB hb⟩
  have hsz := hB.size
  have hlt2 := hown.lt
  generalize X0.heap.size = r at *
  clear hHeld hK K h0 h1 hB hb HC
  have hHeld := hHeld2
  clear hHeld2
  try simp only [Act.put, List.setIfInBounds_toArray, List.set_cons_zero, List.set_cons_succ]
  refine wpAnyH_abs (F := fun X => X.ownsMap Tryz.prog 9 heldRd r b.1.length (sD eV b.1)) hHeld hown ?_
  clear hHeld hown hlt2 X1
  rintro X1 hHeld hown
  (refine tk (i := 9) rfl rfl hHeld ?_)
  refine callC (i := 10) rfl (fun K hK => ?_)
  obtain ⟨h0, h1, hB⟩ := (id hHeld)
  have hlt2 := hown.lt
  go_simp
  refine hK.out _ _ ?_ (fun hHeld2 => ?_)
  · exact ⟨bl_cell (bl_alloc (bl_refl _) _) h0, bl_cell (bl_alloc (bl_refl _) _) h1, bl_alloc hB _⟩
  have hsz2 := hB.size
  have hhd := heap_alloc_new X1 (.cells #[.map (some r), .int .i64 b.2] 58)
  have hown2 := hown.alloc (.cells #[.map (some r), .int .i64 b.2] 58)
  have HH := Go.Lib.hid hhd
  have HO := Go.Lib.hid hown2
  clear hHeld hK K h0 h1 hB hhd hown2 hown
  have hHeld := hHeld2
  clear hHeld2
  try simp only [Act.put, List.setIfInBounds_toArray, List.set_cons_zero, List.set_cons_succ]
  (refine tk (i := 11) rfl rfl hHeld ?_)
  refine wpAnyH_done (by kernel_rfl) ?_ _
  obtain ⟨-, -, hE⟩ := hHeld
  repeat' (first | go_step3 | go_skip | go_guarded | go_step | go_upon)
  go_ret
  exact ⟨X1.heap.size, r, rfl, ⟨by simpa using HH.out, HO.out⟩, by omega, by omega, hE⟩
end Go.Proofs.YtmndkhklhfnjhaaGreat

namespace Go.Proofs.YtmndkhklhfnjhaaGreat
open Go.RowKit Go.Maps
set_option linter.unusedVariables false
set_option linter.unusedSimpArgs false

set_option maxHeartbeats 2000000 in
set_option maxRecDepth 100000 in
theorem copies_long (la : Option Addr) (m lc : Nat) (ds : Nat → BD) (lb : Option Addr) (m2 lc2 : Nat) (ds2 : Nat → BD) (w : World) (hA : BDsIn w la m ds) (hA2 : BDsIn w lb m2 ds2) (hm : (40 : Int) < m) :
    Calls Tryz.prog 6 #[.slice la m lc, .slice lb m2 lc2] w fun e w' => e = .returned (.bool true) ∧ Below w.heap.size w w' := by
  have HKN := Go.Lib.hid bknown
  clear hA hA2
  go_enter Tryz.func6, Tryz.ntmps6
  go_wp2_with fail
  refine (HKN.out _).mono ?_
  rintro e w1 ⟨rfl, hb⟩
  have hsz1 : w.heap.size + 0 ≤ w1.heap.size := by have h := hb.size; (try simp at h); omega
  have hB : Below w.heap.size w w1 := hb
  clear hb
  go_wp2_with fail
  go_ret
  exact ⟨rfl, hB⟩

set_option maxHeartbeats 2000000 in
set_option maxRecDepth 100000 in
theorem copies_long2 (la : Option Addr) (m lc : Nat) (ds : Nat → BD) (lb : Option Addr) (m2 lc2 : Nat) (ds2 : Nat → BD) (w : World) (hA : BDsIn w la m ds) (hA2 : BDsIn w lb m2 ds2) (hm : ¬ (40 : Int) < m) (hm2 : (40 : Int) < m2) :
    Calls Tryz.prog 6 #[.slice la m lc, .slice lb m2 lc2] w fun e w' => e = .returned (.bool true) ∧ Below w.heap.size w w' := by
  have HKN := Go.Lib.hid bknown
  clear hA hA2
  go_enter Tryz.func6, Tryz.ntmps6
  go_wp2_with fail
  refine (HKN.out _).mono ?_
  rintro e w1 ⟨rfl, hb⟩
  have hsz1 : w.heap.size + 0 ≤ w1.heap.size := by have h := hb.size; (try simp at h); omega
  have hB : Below w.heap.size w w1 := hb
  clear hb
  go_wp2_with fail
  go_ret
  exact ⟨rfl, hB⟩

set_option maxHeartbeats 2000000 in
set_option maxRecDepth 100000 in
theorem copies_run (la : Option Addr) (m lc : Nat) (ds : Nat → BD) (lb : Option Addr) (m2 lc2 : Nat) (ds2 : Nat → BD) (w : World) (hA : BDsIn w la m ds) (hA2 : BDsIn w lb m2 ds2) (hm : ¬ (40 : Int) < m) (hm2 : ¬ (40 : Int) < m2) :
    Calls Tryz.prog 6 #[.slice la m lc, .slice lb m2 lc2] w fun e w' => e = .returned (.bool true) ∧ Below w.heap.size w w' := by
  have HKN := Go.Lib.hid bknown
  have HNW := Go.Lib.hid bnew_book
  have HLG := Go.Lib.hid (blong_any la m lc ds w hA)
  have HLG2 := Go.Lib.hid (blong_any lb m2 lc2 ds2 w hA2)
  have HA := Go.Lib.hid hA
  have HA2 := Go.Lib.hid hA2
  clear hA hA2
  go_enter Tryz.func6, Tryz.ntmps6
  go_wp2_with fail
  refine (HLG.out).mono ?_
  rintro e w1 ⟨q, rfl, rfl⟩
  go_wp2_with fail
  refine (HLG2.out).mono ?_
  rintro e w1 ⟨q2, rfl, rfl⟩
  by_cases hq : 1500 < wrap64 (q + q2)
  · skip
    go_wp2_with fail
    refine (HKN.out _).mono ?_
    rintro e w1 ⟨rfl, hb⟩
    have hsz1 : w.heap.size + 0 ≤ w1.heap.size := by have h := hb.size; (try simp at h); omega
    have hB : Below w.heap.size w w1 := hb
    clear hb
    go_wp2_with fail
    go_ret
    exact ⟨rfl, hB⟩
  go_wp2_with fail
  refine (HNW.out _).mono ?_
  rintro e w1 ⟨v, mb, rfl, hbk, hv1, hm1, hB⟩
  go_wp2_with fail
  go_loopw [6] (fun s4 wr => ∃ j : Nat, s4 = .int .i64 j ∧ j ≤ m ∧ Hid (∃ b : Bk, BookAt wr v mb b ∧ OkB namedB b ∧ b.2 ≤ j ∧ Below w.heap.size w wr)) (fun s4 _ => m - (intOf s4).toNat)
  case atStart => exact ⟨0, rfl, Nat.zero_le _, ⟨([], 0), hbk, okB_nil, Int.le_refl _, hB⟩⟩
  case round =>
    clear hbk hB
    obtain ⟨j, rfl, hj, H⟩ := hrel
    obtain ⟨B, hbk, hok, hver, hB⟩ := H.out
    clear H
    by_cases hjn : j < m
    · skip
      obtain ⟨hs, xb, xo, hla, y0, y1, y2, y3, y4, y5, y6, y7⟩ := HA.out.2 j hjn
      subst hla
      have lb_a := World.block_lt_of_cell? w _ y0
      dsimp only at lb_a
      have x0 := bl_cell hB y0
      have x1 := bl_cell hB y1
      have x2 := bl_cell hB y2
      have x3 := bl_cell hB y3
      have x4 := bl_cell hB y4
      have x5 := bl_cell hB y5
      have x6 := bl_cell hB y6
      have x7 := bl_cell hB y7
      clear y0 y1 y2 y3 y4 y5 y6 y7
      have hlt := hbk.lt
      have hlen := hok.len
      have hv := hok.ver
      have hok2 := okB_did hok (ds j)
      have hver2 := ver_did B (ds j)
      have hms : m - (j + 1) < m - j := by omega
      have hj1 : j + 1 ≤ m := hjn
      have hm2 : (m : Int) ≤ 60 := by omega
      have k0 : (0 : Int) ≤ (j : Int) := by omega
      have k1 : (j : Int) < (m : Int) := by omega
      have wj : IntKind.i64.wrap ((j : Int) + 1) = (j : Int) + 1 := IntWalk.i64_in _ (by omega)
      have hdd := fun w h => did_book (v := v) (mb := mb) (b := B) (ds j) hs (by omega) hlen w h
      generalize didB B (ds j) = B2 at *
      generalize didV B (ds j) = V at *
      generalize ds j = d at *
      obtain ⟨dk, dn, p⟩ := d
      obtain ⟨dv, de⟩ := V
      unfold BD.v at hdd
      dsimp only at *
      have H_HDD := Go.Lib.hid hdd
      have H_HOK2 := Go.Lib.hid hok2
      have H_HVER := Go.Lib.hid (And.intro hver hver2)
      clear hdd hok2 hlen hok hver hver2 hv
      have lb_x := World.block_lt_of_cell? wr _ x0
      dsimp only at lb_x
      go_wp2_with fail
      refine (H_HDD.out _ hbk).mono ?_
      rintro e w1 ⟨rfl, hbk2, hO⟩
      have hsz1 : wr.heap.size + 0 ≤ w1.heap.size := by have h := hO.size; (try simp at h); omega
      replace x0 := only_cell hO (x0) (fun hi => by rcases hi with hi | hi <;> omega)
      replace x1 := only_cell hO (x1) (fun hi => by rcases hi with hi | hi <;> omega)
      replace x2 := only_cell hO (x2) (fun hi => by rcases hi with hi | hi <;> omega)
      replace x3 := only_cell hO (x3) (fun hi => by rcases hi with hi | hi <;> omega)
      replace x4 := only_cell hO (x4) (fun hi => by rcases hi with hi | hi <;> omega)
      replace x5 := only_cell hO (x5) (fun hi => by rcases hi with hi | hi <;> omega)
      replace x6 := only_cell hO (x6) (fun hi => by rcases hi with hi | hi <;> omega)
      replace x7 := only_cell hO (x7) (fun hi => by rcases hi with hi | hi <;> omega)
      replace hB : Below w.heap.size w w1 := only_then (hB) hO (fun i hi => by rcases hi with hi | hi <;> omega)
      clear hO
      replace lb_x := World.block_lt_of_cell? w1 _ x0
      dsimp only at lb_x
      replace hbk := hbk2
      clear hbk2
      go_wp2_with fail
      go_roundw
      case rel => exact ⟨j + 1, by go_num, hj1, ⟨B2, hbk, H_HOK2.out, by have h := H_HVER.out; omega, hB⟩⟩
      case measure => (simp [intOf]; omega)
    · have hje : m = j := by omega
      subst hje
      obtain ⟨W1, hW1⟩ : ∃ W : World, W = wr := ⟨_, rfl⟩
      subst hW1
      have hlt := hbk.lt
      have hlen := hok.len
      have hv := hok.ver
      have hBv : B.2 ≤ 40 := by omega
      have hnm := fun w h => names_book (v := v) (mb := mb) (b := B) w h hlen
      have hvr := fun w h => ver_book (v := v) (mb := mb) (b := B) w h
      have hcp := fun w h => copy_book (v := v) (mb := mb) (b := B) w h
      rw [show B.1.map (·.1) = bKs B from rfl] at hnm
      have hkl := bKs_len B
      have hni := fun i (hi : i < B.1.length) => (nm_is hok hi).1
      generalize hn : B.1.length = n at *
      have H_HNM := Go.Lib.hid hnm
      have H_HVR := Go.Lib.hid hvr
      have H_HCP := Go.Lib.hid hcp
      have H_HNI := Go.Lib.hid hni
      have H_HOK := Go.Lib.hid hok
      clear hnm hvr hcp hni hok hver hn HA HLG HNW HLG2
      go_wp2_with fail
      refine (H_HNM.out _ hbk).mono ?_
      rintro e w1 ⟨A, c, rfl, hka, hb⟩
      have hsz1 : W1.heap.size + 0 ≤ w1.heap.size := by have h := hb.size; (try simp at h); omega
      replace hbk := book_bl hbk hb
      replace hB : Below w.heap.size w w1 := bl_then hB hb
      clear hb
      go_wp2_with fail
      refine (H_HVR.out _ hbk).mono ?_
      rintro e w2 ⟨rfl, hb⟩
      have hsz2 : w1.heap.size + 0 ≤ w2.heap.size := by have h := hb.size; (try simp at h); omega
      replace hbk := book_bl hbk hb
      replace hka := keysat_bl hka hb
      replace hB : Below w.heap.size w w2 := bl_then hB hb
      clear hb
      go_wp2_with fail
      have hAl := hka.lt
      have hlt3 := hbk.lt
      refine (H_HCP.out _ hbk).mono ?_
      rintro e w3 ⟨v2, mb2, rfl, hbc, hv2, hmm2, hb⟩
      have hsz3 : w2.heap.size + 0 ≤ w3.heap.size := by have h := hb.size; (try simp at h); omega
      replace hbk := book_bl hbk hb
      replace hka := keysat_bl hka hb
      replace hB : Below w.heap.size w w3 := bl_then hB hb
      clear hb
      go_wp2_with fail
      go_loopw [10] (fun s4 wr => ∃ j : Nat, s4 = .int .i64 j ∧ j ≤ m2 ∧ Hid (BookAt wr v mb B ∧ KeysAt wr W1.heap.size A (bKs B) ∧ (∃ C : Bk, BookAt wr v2 mb2 C ∧ OkB namedB C ∧ B.2 ≤ C.2 ∧ C.2 ≤ B.2 + j) ∧ Below w.heap.size w wr)) (fun s4 _ => m2 - (intOf s4).toNat)
      case atStart => exact ⟨0, rfl, Nat.zero_le _, ⟨hbk, hka, ⟨B, hbc, H_HOK.out, Int.le_refl _, by omega⟩, hB⟩⟩
      case round =>
        clear hbk hka hbc hB
        obtain ⟨j, rfl, hj, H⟩ := hrel
        obtain ⟨hbk, hka, ⟨C, hbc, hok, hver⟩, hB⟩ := H.out
        clear H
        by_cases hjn : j < m2
        · skip
          obtain ⟨hs, xb, xo, hla, y0, y1, y2, y3, y4, y5, y6, y7⟩ := HA2.out.2 j hjn
          subst hla
          have lb_a := World.block_lt_of_cell? w _ y0
          dsimp only at lb_a
          have x0 := bl_cell hB y0
          have x1 := bl_cell hB y1
          have x2 := bl_cell hB y2
          have x3 := bl_cell hB y3
          have x4 := bl_cell hB y4
          have x5 := bl_cell hB y5
          have x6 := bl_cell hB y6
          have x7 := bl_cell hB y7
          clear y0 y1 y2 y3 y4 y5 y6 y7
          have hlt4 := hbc.lt
          have hlen := hok.len
          have hv := hok.ver
          have hok2 := okB_did hok (ds2 j)
          have hver2 := ver_did C (ds2 j)
          have hms : m2 - (j + 1) < m2 - j := by omega
          have hj1 : j + 1 ≤ m2 := hjn
          have hm2 : (m2 : Int) ≤ 60 := by omega
          have k0 : (0 : Int) ≤ (j : Int) := by omega
          have k1 : (j : Int) < (m2 : Int) := by omega
          have wj : IntKind.i64.wrap ((j : Int) + 1) = (j : Int) + 1 := IntWalk.i64_in _ (by omega)
          have hdd := fun w h => did_book (v := v2) (mb := mb2) (b := C) (ds2 j) hs (by omega) hlen w h
          generalize didB C (ds2 j) = B2 at *
          generalize didV C (ds2 j) = V at *
          generalize ds2 j = d at *
          obtain ⟨dk, dn, p⟩ := d
          obtain ⟨dv, de⟩ := V
          unfold BD.v at hdd
          dsimp only at *
          have H_HDD := Go.Lib.hid hdd
          have H_HOK2 := Go.Lib.hid hok2
          have H_HVER := Go.Lib.hid (And.intro hver hver2)
          clear hdd hok2 hlen hok hver hver2 hv
          have lb_x := World.block_lt_of_cell? wr _ x0
          dsimp only at lb_x
          go_wp2_with fail
          refine (H_HDD.out _ hbc).mono ?_
          rintro e w4 ⟨rfl, hbk2, hO⟩
          have hsz4 : wr.heap.size + 0 ≤ w4.heap.size := by have h := hO.size; (try simp at h); omega
          replace hbk := book_only (hbk) hO (fun hi => by rcases hi with hi | hi <;> omega) (fun hi => by rcases hi with hi | hi <;> omega)
          replace hka := keysat_far (hka) hO hAl (fun i hi => by rcases hi with hi | hi <;> omega)
          replace x0 := only_cell hO (x0) (fun hi => by rcases hi with hi | hi <;> omega)
          replace x1 := only_cell hO (x1) (fun hi => by rcases hi with hi | hi <;> omega)
          replace x2 := only_cell hO (x2) (fun hi => by rcases hi with hi | hi <;> omega)
          replace x3 := only_cell hO (x3) (fun hi => by rcases hi with hi | hi <;> omega)
          replace x4 := only_cell hO (x4) (fun hi => by rcases hi with hi | hi <;> omega)
          replace x5 := only_cell hO (x5) (fun hi => by rcases hi with hi | hi <;> omega)
          replace x6 := only_cell hO (x6) (fun hi => by rcases hi with hi | hi <;> omega)
          replace x7 := only_cell hO (x7) (fun hi => by rcases hi with hi | hi <;> omega)
          replace hB : Below w.heap.size w w4 := only_then (hB) hO (fun i hi => by rcases hi with hi | hi <;> omega)
          clear hO
          replace lb_x := World.block_lt_of_cell? w4 _ x0
          dsimp only at lb_x
          replace hbc := hbk2
          clear hbk2
          go_wp2_with fail
          go_roundw
          case rel => exact ⟨j + 1, by go_num, hj1, ⟨hbk, hka, ⟨B2, hbc, H_HOK2.out, by have h := H_HVER.out; omega, by have h := H_HVER.out; omega⟩, hB⟩⟩
          case measure => (simp [intOf]; omega)
        · have hje : m2 = j := by omega
          subst hje
          have hcv := hok.ver
          have hd : decide (C.2 < B.2) = false := decide_eq_false (by omega)
          have hvc := fun w h => ver_book (v := v2) (mb := mb2) (b := C) w h
          have hss := fun A2 B2 c2 w h1 h2 => same_keys A2 A B2 W1.heap.size c2 c (bKs B) (by omega) w h1 h2
          rw [hkl] at hss
          have H_HSS := Go.Lib.hid hss
          have H_HVC := Go.Lib.hid hvc
          clear hss hvc HA2 hok hcv
          go_wp2_with fail
          refine (H_HNM.out _ hbk).mono ?_
          rintro e w4 ⟨A2, c2, rfl, hka2, hb⟩
          have hsz4 : wr.heap.size + 0 ≤ w4.heap.size := by have h := hb.size; (try simp at h); omega
          replace hbk := book_bl hbk hb
          replace hka := keysat_bl hka hb
          replace hbc := book_bl hbc hb
          replace hB : Below w.heap.size w w4 := bl_then hB hb
          clear hb
          go_wp2_with fail
          refine (H_HSS.out _ _ _ _ hka2 hka).mono ?_
          rintro e w5 ⟨rfl, hb⟩
          have hsz5 : w4.heap.size + 0 ≤ w5.heap.size := by have h := hb.size; (try simp at h); omega
          replace hbk := book_bl hbk hb
          replace hka := keysat_bl hka hb
          replace hbc := book_bl hbc hb
          replace hka2 := keysat_bl hka2 hb
          replace hB : Below w.heap.size w w5 := bl_then hB hb
          clear hb
          clear hka2
          go_wp2_with fail
          refine (H_HVR.out _ hbk).mono ?_
          rintro e w6 ⟨rfl, hb⟩
          have hsz6 : w5.heap.size + 0 ≤ w6.heap.size := by have h := hb.size; (try simp at h); omega
          replace hbk := book_bl hbk hb
          replace hka := keysat_bl hka hb
          replace hbc := book_bl hbc hb
          replace hB : Below w.heap.size w w6 := bl_then hB hb
          clear hb
          go_wp2_with fail
          refine (H_HVC.out _ hbc).mono ?_
          rintro e w7 ⟨rfl, hb⟩
          have hsz7 : w6.heap.size + 0 ≤ w7.heap.size := by have h := hb.size; (try simp at h); omega
          replace hbk := book_bl hbk hb
          replace hka := keysat_bl hka hb
          replace hbc := book_bl hbc hb
          replace hB : Below w.heap.size w w7 := bl_then hB hb
          clear hb
          go_wp2_with fail
          obtain ⟨W2, hW2⟩ : ∃ W : World, W = wr := ⟨_, rfl⟩
          subst hW2
          go_loopw [11] (fun s6 wr => ∃ i : Nat, s6 = .int .i64 i ∧ i ≤ n ∧ Hid (KeysAt wr W1.heap.size A (bKs B) ∧ (∃ D : Bk, BookAt wr v mb D ∧ OkB namedB D ∧ (∀ j, j < n → bIs D ((bKs B).getD j []) = true) ∧ D.2 ≤ 40 + i) ∧ Below w.heap.size w wr)) (fun s6 _ => n - (intOf s6).toNat)
          case atStart => exact ⟨0, rfl, Nat.zero_le _, ⟨hka, ⟨B, hbk, H_HOK.out, H_HNI.out, by omega⟩, hB⟩⟩
          case round =>
            clear hbk hka hbc hB hver
            obtain ⟨i, rfl, hi, H⟩ := hrel
            obtain ⟨hka, ⟨D, hbk, hok, hall, hver⟩, hB⟩ := H.out
            clear H
            by_cases hin : i < n
            · skip
              obtain ⟨g, rfl, hg, hcs⟩ := hka (by omega)
              obtain ⟨hsz, kc0⟩ := hcs i (by omega)
              have hI := hall i hin
              obtain ⟨o1, o2, o3, o4⟩ := hok.get hI
              obtain ⟨l1, l2, l3⟩ := re_lay hok hI
              have hdv := hok.ver
              have hlt2 := hbk.lt
              have hts : (txt ((bKs B).getD i [])).size ≤ maxLen := by rw [txt_size]; exact hsz
              have hgt := fun w h => get_book (v := v) (mb := mb) (b := D) (txt ((bKs B).getD i [])) hts w h
              have hdp := fun w h => drop_book (v := v) (mb := mb) (b := D) (txt ((bKs B).getD i [])) hts w h
              have hly := fun w h => lay_book (v := v) (mb := mb) (b := dropB D ((bKs B).getD i [])) (txt ((bKs B).getD i [])) hts (bGet D ((bKs B).getD i [])).1 ⟨hdv, show D.2 ≤ 1000000 by omega⟩ (hok.drop _).len w h
              have hvr := fun w h => ver_book (v := v) (mb := mb) (b := reB D ((bKs B).getD i [])) w h
              rw [show (reB D ((bKs B).getD i [])).2 = D.2 + 1 from rfl] at hvr
              rw [txt_list] at hgt hdp hly
              rw [hI] at hgt hdp
              rw [l1, l2, l3] at hly
              have ok2 := re_ok hok hI
              have all2 := fun j hj => re_is hI _ (hall j hj)
              have ver2 : (reB D ((bKs B).getD i [])).2 = D.2 + 1 := rfl
              generalize reB D ((bKs B).getD i []) = D2 at *
              generalize dropB D ((bKs B).getD i []) = D1 at *
              generalize bGet D ((bKs B).getD i []) = G at *
              generalize txt ((bKs B).getD i []) = T at *
              obtain ⟨p, gn⟩ := G
              unfold Pol.v at hgt hly
              dsimp only at *
              have hms : n - (i + 1) < n - i := by omega
              have hi1 : i + 1 ≤ n := hin
              have k0 : (0 : Int) ≤ (i : Int) := by omega
              have k1 : (i : Int) < (n : Int) := by omega
              have wi : IntKind.i64.wrap ((i : Int) + 1) = (i : Int) + 1 := IntWalk.i64_in _ (by omega)
              have d1 : decide (D.2 + 1 ≤ gn) = false := decide_eq_false (by omega)
              have H2_HGT := Go.Lib.hid hgt
              have H2_HDP := Go.Lib.hid hdp
              have H2_HLY := Go.Lib.hid hly
              have H2_HVR := Go.Lib.hid hvr
              have H2_OK2 := Go.Lib.hid ok2
              have H2_ALL2 := Go.Lib.hid all2
              have H2_VER2 := Go.Lib.hid ver2
              clear hgt hdp hly hvr ok2 all2 ver2 hcs hsz hts hall hok hI o1 o2 o3 l1 l2 l3
              have lb_kc := World.block_lt_of_cell? wr _ kc0
              dsimp only at lb_kc
              go_wp2_with fail
              refine (H2_HGT.out _ hbk).mono ?_
              rintro e w8 ⟨rfl, hb⟩
              have hsz8 : wr.heap.size + 0 ≤ w8.heap.size := by have h := hb.size; (try simp at h); omega
              replace hbk := book_bl hbk hb
              replace hka := keysat_bl hka hb
              replace kc0 := bl_cell hb kc0
              replace hB : Below w.heap.size w w8 := bl_then hB hb
              replace lb_kc := World.block_lt_of_cell? w8 _ kc0
              dsimp only at lb_kc
              clear hb
              go_wp2_with fail
              refine (H2_HDP.out _ (book_bl hbk (bl_alloc (bl_refl _) _))).mono ?_
              rintro e w9 ⟨rfl, hbk2, hO⟩
              have hsz9 : w8.heap.size + 1 ≤ w9.heap.size := by have h := hO.size; (try simp at h); omega
              replace hka := keysat_off (keysat_bl hka (bl_alloc (bl_refl _) _)) hO (fun i hi => by rcases hi with hi | hi <;> omega)
              replace kc0 := only_cell hO (bl_cell (bl_alloc (bl_refl _) _) kc0) (fun hi => by rcases hi with hi | hi <;> omega)
              have p0 := only_cell (v := .int .i64 p.kind) hO (show World.cell? _ ⟨w8.heap.size, 0, none⟩ = _ by go_simp) (fun hi => by rcases hi with hi | hi <;> omega)
              have p1 := only_cell (v := .int .i64 p.limit) hO (show World.cell? _ ⟨w8.heap.size, 1, none⟩ = _ by go_simp) (fun hi => by rcases hi with hi | hi <;> omega)
              have p2 := only_cell (v := .int .i64 p.period) hO (show World.cell? _ ⟨w8.heap.size, 2, none⟩ = _ by go_simp) (fun hi => by rcases hi with hi | hi <;> omega)
              have p3 := only_cell (v := .int .i64 p.burst) hO (show World.cell? _ ⟨w8.heap.size, 3, none⟩ = _ by go_simp) (fun hi => by rcases hi with hi | hi <;> omega)
              have p4 := only_cell (v := .int .i64 p.cap) hO (show World.cell? _ ⟨w8.heap.size, 4, none⟩ = _ by go_simp) (fun hi => by rcases hi with hi | hi <;> omega)
              have p5 := only_cell (v := .bool p.opn) hO (show World.cell? _ ⟨w8.heap.size, 5, none⟩ = _ by go_simp) (fun hi => by rcases hi with hi | hi <;> omega)
              replace hB : Below w.heap.size w w9 := only_then (bl_alloc (hB) _) hO (fun i hi => by rcases hi with hi | hi <;> omega)
              clear hO
              replace lb_kc := World.block_lt_of_cell? w9 _ kc0
              dsimp only at lb_kc
              have lb_p := World.block_lt_of_cell? w9 _ p0
              dsimp only at lb_p
              replace hbk := hbk2
              clear hbk2
              go_wp2_with fail
              refine wp_region_held_drew (S := fun w' => KeysAt w' W1.heap.size (some ⟨g, 0, none⟩) (bKs B) ∧ w'.cell? ⟨g, i, none⟩ = some (.string T) ∧ w'.cell? ⟨w8.heap.size, 0, none⟩ = some (.int .i64 p.kind) ∧ w'.cell? ⟨w8.heap.size, 1, none⟩ = some (.int .i64 p.limit) ∧ w'.cell? ⟨w8.heap.size, 2, none⟩ = some (.int .i64 p.period) ∧ w'.cell? ⟨w8.heap.size, 3, none⟩ = some (.int .i64 p.burst) ∧ w'.cell? ⟨w8.heap.size, 4, none⟩ = some (.int .i64 p.cap) ∧ w'.cell? ⟨w8.heap.size, 5, none⟩ = some (.bool p.opn) ∧ Below w.heap.size w w') (by kernel_rfl) ?_ (fun hHeld => ?_)
              · exact ⟨keysat_bl hka (bl_drew (bl_refl _)), kc0, p0, p1, p2, p3, p4, p5, bl_drew hB⟩
              try simp only [Act.put, List.setIfInBounds_toArray, List.set_cons_zero, List.set_cons_succ]
              refine wpAnyH_abs (F := fun X => BookAt X v mb D1) hHeld (book_bl hbk (bl_drew (bl_refl _))) ?_
              clear hHeld hB hbk hka kc0 p0 p1 p2 p3 p4 p5
              rintro X0 hHeld hbk
              (refine tk (i := 0) rfl rfl hHeld ?_)
              (refine tk (i := 1) rfl rfl hHeld ?_)
              (refine tk (i := 2) rfl rfl hHeld ?_)
              (refine tk (i := 3) rfl rfl hHeld ?_)
              (refine tk (i := 4) rfl rfl hHeld ?_)
              (refine tk (i := 5) rfl rfl hHeld ?_)
              refine callC (i := 6) rfl (fun K hK => ?_)
              obtain ⟨h_hka, h_kc0, h_p0, h_p1, h_p2, h_p3, h_p4, h_p5, h_B⟩ := (id hHeld)
              go_simp
              refine (H2_HLY.out _ hbk).mono ?_
              rintro e X1 ⟨rfl, hbk2, hO⟩
              go_wp2_with fail
              refine hK.out _ _ ?_ (fun hHeld2 => ?_)
              · (try dsimp only); exact ⟨keysat_off h_hka hO (fun i hi => by rcases hi with hi | hi <;> omega), only_cell hO h_kc0 (fun hi => by rcases hi with hi | hi <;> omega), only_cell hO h_p0 (fun hi => by rcases hi with hi | hi <;> omega), only_cell hO h_p1 (fun hi => by rcases hi with hi | hi <;> omega), only_cell hO h_p2 (fun hi => by rcases hi with hi | hi <;> omega), only_cell hO h_p3 (fun hi => by rcases hi with hi | hi <;> omega), only_cell hO h_p4 (fun hi => by rcases hi with hi | hi <;> omega), only_cell hO h_p5 (fun hi => by rcases hi with hi | hi <;> omega), only_then h_B hO (fun i hi => by rcases hi with hi | hi <;> omega)⟩
              clear hHeld hK K hO hbk h_hka h_kc0 h_p0 h_p1 h_p2 h_p3 h_p4 h_p5 h_B
              have hHeld := hHeld2
              clear hHeld2
              try simp only [Act.put, List.setIfInBounds_toArray, List.set_cons_zero, List.set_cons_succ]
              rename BookAt X1 v mb D2 => hbk
              (refine tk (i := 7) rfl rfl hHeld ?_)
              (refine tk (i := 8) rfl rfl hHeld ?_)
              (refine tk (i := 9) rfl rfl hHeld ?_)
              (refine tk (i := 10) rfl rfl hHeld ?_)
              (refine tk (i := 11) rfl rfl hHeld ?_)
              refine wpAnyH_done (by kernel_rfl) ?_ _
              refine then_abs (F := fun X => (fun w' => KeysAt w' W1.heap.size (some ⟨g, 0, none⟩) (bKs B) ∧ w'.cell? ⟨g, i, none⟩ = some (.string T) ∧ w'.cell? ⟨w8.heap.size, 0, none⟩ = some (.int .i64 p.kind) ∧ w'.cell? ⟨w8.heap.size, 1, none⟩ = some (.int .i64 p.limit) ∧ w'.cell? ⟨w8.heap.size, 2, none⟩ = some (.int .i64 p.period) ∧ w'.cell? ⟨w8.heap.size, 3, none⟩ = some (.int .i64 p.burst) ∧ w'.cell? ⟨w8.heap.size, 4, none⟩ = some (.int .i64 p.cap) ∧ w'.cell? ⟨w8.heap.size, 5, none⟩ = some (.bool p.opn) ∧ Below w.heap.size w w') X ∧ BookAt X v mb D2) ⟨hHeld, hbk⟩ ?_
              clear hHeld hbk
              rintro w10 ⟨⟨hka, kc0, p0, p1, p2, p3, p4, p5, hB⟩, hbk⟩
              replace lb_kc := World.block_lt_of_cell? w10 _ kc0
              dsimp only at lb_kc
              replace lb_p := World.block_lt_of_cell? w10 _ p0
              dsimp only at lb_p
              go_wp2_with fail
              refine (H2_HVR.out _ hbk).mono ?_
              rintro e w11 ⟨rfl, hb⟩
              have hsz10 : w10.heap.size + 0 ≤ w11.heap.size := by have h := hb.size; (try simp at h); omega
              replace hka := keysat_bl hka hb
              replace kc0 := bl_cell hb kc0
              replace p0 := bl_cell hb p0
              replace p1 := bl_cell hb p1
              replace p2 := bl_cell hb p2
              replace p3 := bl_cell hb p3
              replace p4 := bl_cell hb p4
              replace p5 := bl_cell hb p5
              replace hbk := book_bl hbk hb
              replace hB : Below w.heap.size w w11 := bl_then hB hb
              replace lb_kc := World.block_lt_of_cell? w11 _ kc0
              dsimp only at lb_kc
              replace lb_p := World.block_lt_of_cell? w11 _ p0
              dsimp only at lb_p
              clear hb
              go_wp2_with fail
              go_roundw
              case rel => exact ⟨i + 1, by go_num, hi1, ⟨hka, ⟨D2, hbk, H2_OK2.out, H2_ALL2.out, by have h := H2_VER2.out; omega⟩, hB⟩⟩
              case measure => (simp [intOf]; omega)
            · have hie : n = i := by omega
              subst hie
              go_wp2_with fail
              refine (HKN.out _).mono ?_
              rintro e w8 ⟨rfl, hb⟩
              have hsz8 : wr.heap.size + 0 ≤ w8.heap.size := by have h := hb.size; (try simp at h); omega
              replace hB : Below w.heap.size w w8 := bl_then hB hb
              clear hb
              go_wp2_with fail
              go_ret
              exact ⟨rfl, hB⟩

theorem copies_walk (la : Option Addr) (m lc : Nat) (ds : Nat → BD) (lb : Option Addr) (m2 lc2 : Nat) (ds2 : Nat → BD) (w : World) (hA : BDsIn w la m ds) (hA2 : BDsIn w lb m2 ds2) : Calls Tryz.prog 6 #[.slice la m lc, .slice lb m2 lc2] w fun e w' => e = .returned (.bool true) ∧ Below w.heap.size w w' := by
  by_cases hm : (40 : Int) < m
  · exact copies_long la m lc ds lb m2 lc2 ds2 w hA hA2 hm
  by_cases hm2 : (40 : Int) < m2
  · exact copies_long2 la m lc ds lb m2 lc2 ds2 w hA hA2 hm hm2
  · exact copies_run la m lc ds lb m2 lc2 ds2 w hA hA2 hm hm2
end Go.Proofs.YtmndkhklhfnjhaaGreat

namespace Go.Proofs.YtmndkhklhfnjhaaGreat.bookCopies
open Go.ChangeShapes Go.WideShapes Go.ChangeAt Go.RowKit
open Go.ChangeMaps (open_string shut_string)
set_option linter.unusedVariables false
set_option linter.unusedSimpArgs false

theorem own : ownKnob Tryz.prog.godebug = none := by kernel_rfl
theorem laidOut : laidOutB Tryz.prog = true := by kernel_rfl

set_option maxHeartbeats 1000000 in
set_option maxRecDepth 100000 in
theorem lifted (os : Os) (started : os.Started) (H : Type) (enc : TypeId × Value → H) :
    ReturnsInHanded {} Tryz.checked os 6 .any (Rows.bookCopiesSpec.pre6 enc Tryz.prog Tryz.f6 Rows.bookCopiesRow.domain false) (Rows.bookCopiesSpec.post enc Tryz.prog Tryz.f6 false true false false) := by
  refine returnsInHanded_of_change (C := Tryz.checked) own started (by kernel_rfl) Tryz.func6
    (ChangeSpec.witness6 (enc := enc) (C := Tryz.checked) false ⟨#[], #[.slice none 0 0, .slice none 0 0], []⟩ 8 (by kernel_rfl) (by kernel_rfl) (by kernel_rfl) (by kernel_rfl)) ?_
  intro W base args ds gs before hval0 hW hcnd _
  have hval : ∀ (j : Nat) t v, Tryz.f6.params[j]? = some t → args[j]? = some v → Value.okWide Tryz.prog W .any base t v := hval0
  have hW' := hW
  obtain ⟨p, q, hA0, hV, rfl, hfz, hnd⟩ := hW
  have hA : DataW.TrodAll enc Tryz.prog W 0 (fun _ => true) true Tryz.f6.params.toList args.toList ds p := hA0
  rw [Tryz.params6] at hA hval
  obtain ⟨v0, vs0, d0, ds0', p0, q0, hargs, rfl, rfl, h0, r0⟩ := trodAll_cons hA
  obtain ⟨v1, vs1, d1, ds1', p1, q1, rfl, rfl, rfl, h1, r1⟩ := trodAll_cons r0
  obtain ⟨rfl, rfl, rfl⟩ := trodAll_nil r1
  obtain rfl : args = #[v0, v1] := by cases args; simp_all
  obtain ⟨rfl, rfl⟩ := trodVars_none hV
  obtain ⟨a0, len0, cap0, rfl⟩ := okWide_slice Tryz.underlying22 (hval 0 22 v0 rfl rfl)
  have k0 := h0
  have lt0 : ∀ x ∈ p0, x.block < W.heap.size := by obtain ⟨m, hm⟩ := k0; exact DataW.trod_lt m _ _ _ hm
  obtain ⟨ds0, w0⟩ : ∃ ds, BDsIn W a0 len0 ds := by obtain ⟨fuel, hf⟩ := h0; exact open_bds (by simpa [Value.cells] using hf)
  obtain ⟨a1, len1, cap1, rfl⟩ := okWide_slice Tryz.underlying22 (hval 1 22 v1 rfl rfl)
  have k1 := h1
  have lt1 : ∀ x ∈ p1, x.block < W.heap.size := by obtain ⟨m, hm⟩ := k1; exact DataW.trod_lt m _ _ _ hm
  obtain ⟨ds1, w1⟩ : ∃ ds, BDsIn W a1 len1 ds := by obtain ⟨fuel, hf⟩ := h1; exact open_bds (by simpa [Value.cells] using hf)
  clear hA0 hval0
  refine (copies_walk a0 len0 cap0 ds0 a1 len1 cap1 ds1 W w0 w1).mono fun e W' ⟨he, bel⟩ => ?_
  subst he
  exact ⟨_, rfl, _, _, _, [], _, [], hW', trodAll_mk1 (shut_bool Tryz.underlying4 _), (trodAll_cons_mk (Below.trod laidOut (by kernel_rfl) (of_decide_eq_true (by kernel_rfl)) k0 bel lt0) (trodAll_cons_mk (Below.trod laidOut (by kernel_rfl) (of_decide_eq_true (by kernel_rfl)) k1 bel lt1) trodAll_mk0)), rfl, bel.frame _, fun h => by cases h⟩

theorem over : Rows.bookCopiesRow.holds Tryz.pinned (OpenSpec.ofChange Rows.bookCopiesSpec) :=
  OpenClaim.holds_of_wide 6 Tryz.f6 rfl rfl rfl rfl rfl rfl rfl ⟨rfl, rfl, rfl, rfl, rfl⟩ rfl rfl rfl rfl rfl (by kernel_rfl) Tryz.func6 (by kernel_rfl)
    (of_decide_eq_true (by kernel_rfl)) (by unfold Func.isWrapper; first | (rw [if_pos (by decide +kernel)]; kernel_rfl) | (rw [if_neg (by decide +kernel)]; exact ⟨rfl, rfl⟩))
    (fun os started H enc _ => lifted os started H enc)

/-- The statement. -/
theorem proved : Rows.BookCopiesSaid := over
end Go.Proofs.YtmndkhklhfnjhaaGreat.bookCopies
