/-
  The statement BookFull of this seat: for every input the law returns true, and each argument reads afterwards as it read before. No condition.
-/
import Derived.Test.YtmndkhklhfnjhaaGreatM1
import Derived.Shelf.SlMaps.Clone
import Derived.Laws.IdiomStrings
import Derived.Test.YtmndkhklhfnjhaaGreatRows
import Derived.WalkKit
import Derived.ProofKit
import Derived.OpenShut
import Derived.ShutString
import Derived.ChangeOld
import Derived.Below
namespace Go.Proofs.YtmndkhklhfnjhaaGreat
open Go.RowKit Go.Maps
set_option linter.unusedVariables false
set_option linter.unusedSimpArgs false

theorem sDel_twice {β : Type} (k : Key) (l : List (Key × β)) : sDel k (sDel k l) = sDel k l := by unfold sDel; rw [List.filter_filter]; congr 1; funext x; simp
/-- A book whose k was dropped and laid again as it was. -/
def reB (b : Bk) (k : Key) : Bk := (sPut k ((bGet b k).1, b.2 + 1) b.1, b.2 + 1)
theorem re_lay {b : Bk} (hb : OkB namedB b) {k : Key} (hi : bIs b k = true) :
    layV namedB (dropB b k) k (bGet b k).1 = b.2 + 1 ∧ layE namedB (dropB b k) k (bGet b k).1 = 0 ∧ layB namedB (dropB b k) k (bGet b k).1 = reB b k := by
  obtain ⟨h1, h2, -, -⟩ := hb.get hi
  have hd := get_drop b k
  have hl : (dropB b k).1.length < 100 := by
    have := sDel_length hb.nodup (k := k) (by unfold bIs at hi; exact hi)
    have h := hb.len
    show (sDel k b.1).length < 100
    omega
  have he : layE namedB (dropB b k) k (bGet b k).1 = 0 := by
    unfold layE
    rw [if_neg (by rintro (z | z); rw [h1] at z; cases z; exact z h2), if_neg (by rintro ⟨-, z⟩; omega)]
  have hs : bSame (dropB b k) k (bGet b k).1 = false := by unfold bSame; rw [hd]; rfl
  refine ⟨(lay_new he hs).1, he, ?_⟩
  unfold layB
  rw [if_pos (And.intro he hs)]
  unfold reB sPut dropB
  dsimp only
  rw [sDel_twice]
theorem re_is {b : Bk} {k : Key} (hi : bIs b k = true) (k' : Key) (h : bIs b k' = true) : bIs (reB b k) k' = true := by
  unfold bIs reB at *
  by_cases e : k' = k
  · subst e; rw [sGet_put_same]; rfl
  · rw [sGet_put_other e]; exact h
theorem re_ok {b : Bk} (hb : OkB namedB b) {k : Key} (hi : bIs b k = true) : OkB namedB (reB b k) := by
  rw [← (re_lay hb hi).2.2]
  exact (hb.drop k).lay _ _
theorem keysat_far {F : Nat → Prop} {w w' : World} {B S : Nat} {A : Option Addr} {ks : List Key} (h : KeysAt w B A ks) (ho : Only F w w') (hs : 0 < ks.length → ∃ g, A = some ⟨g, 0, none⟩ ∧ g < S) (hf : ∀ i, F i → S ≤ i) : KeysAt w' B A ks := fun h0 => by
  obtain ⟨g, e, hg, hc⟩ := h h0
  obtain ⟨g', e', hl⟩ := hs h0
  rw [e] at e'
  injection e' with e'
  injection e' with e'
  subst e'
  exact ⟨g, e, hg, fun j hj => ⟨(hc j hj).1, only_cell ho (hc j hj).2 (fun hF => by have := hf g hF; omega)⟩⟩
theorem keysat_off {F : Nat → Prop} {w w' : World} {B : Nat} {A : Option Addr} {ks : List Key} (h : KeysAt w B A ks) (ho : Only F w w') (hf : ∀ i, F i → i < B) : KeysAt w' B A ks := fun h0 => by
  obtain ⟨g, e, hg, hc⟩ := h h0
  exact ⟨g, e, hg, fun j hj => ⟨(hc j hj).1, only_cell ho (hc j hj).2 (fun hF => by have := hf g hF; omega)⟩⟩
theorem book_only {F : Nat → Prop} {w w' : World} {v mb : Nat} {b : Bk} (h : BookAt w v mb b) (ho : Only F w w') (h1 : ¬ F v) (h2 : ¬ F mb) : BookAt w' v mb b := h.frame (ho.block v h.lt.1 h1) (ho.block mb h.lt.2 h2)
end Go.Proofs.YtmndkhklhfnjhaaGreat

namespace Go.Proofs
open Go.Shelf
def Tryz.cloneL_ren : Go.Shelf.Ren := ⟨fun | 5 => 31 | 7 => 39 | n => n, fun | 23 => 56 | 25 => 9 | 3 => 63 | 4 => 4 | 20 => 20 | n => n, fun | n => n⟩
theorem Tryz.cloneL : Go.Proofs.SlLaysW.n5 Tryz.prog Tryz.cloneL_ren := {
  mixed := by kernel_rfl
  f5 := ⟨Tryz.f31.name, by decide, Tryz.func31.trans (congrArg some (by kernel_rfl))⟩
  f7 := Tryz.func39.trans (congrArg some (by kernel_rfl))
  t4 := Tryz.underlying4
  a4 := Tryz.isAgg4
  z4 := Tryz.sizeOf4
  v4 := Tryz.zeroValue4
  t20 := Tryz.underlying20
  a20 := Tryz.isAgg20
  z20 := Tryz.sizeOf20
  v20 := Tryz.zeroValue20
  t23 := Tryz.underlying56
  a23 := Tryz.isAgg56
  z23 := Tryz.sizeOf56
  v23 := Tryz.zeroValue56 }
end Go.Proofs

namespace Go.Proofs.YtmndkhklhfnjhaaGreat
open Go.RowKit Go.Maps Go.Shelf
set_option linter.unusedVariables false
set_option linter.unusedSimpArgs false

theorem clone_any {H : Type} (kt : TypeId) (R : Value → Option (DataW H × List MemPlace)) (b n : Nat) (D : DataW H) (w : World) (hown : w.ownsMap Tryz.prog kt R b n D) :
    Calls Tryz.prog 31 #[.map (some b)] w fun e w' => e = .returned (.map (some w.heap.size)) ∧ w'.ownsMap Tryz.prog kt R w.heap.size n D ∧ w'.ownsMap Tryz.prog kt R b n D ∧ Below w.heap.size w w' :=
  AnyW.maps_Clone_owns Tryz.cloneL kt R b n D w hown

set_option maxHeartbeats 2000000 in
set_option maxRecDepth 100000 in
theorem copy_book {v mb : Nat} {b : Bk} (w : World) (h : BookAt w v mb b) : Calls Tryz.prog 21 #[.pointer (some ⟨v, 0, none⟩)] w fun e w' =>
    ∃ v2 mb2, e = .returned (.pointer (some ⟨v2, 0, none⟩)) ∧ BookAt w' v2 mb2 b ∧ w.heap.size ≤ v2 ∧ w.heap.size ≤ mb2 ∧ Below w.heap.size w w' := by
  have hlt := h.lt.1
  have hml := h.lt.2
  obtain ⟨c0, c1⟩ := h.cells
  have HB := Go.Lib.hid h
  clear h
  go_enter Tryz.func21, Tryz.ntmps21
  go_wp2_with fail
  refine wp_region_held_drew (S := fun w' => w'.cell? ⟨v, 0, none⟩ = some (.map (some mb)) ∧ w'.cell? ⟨v, 1, none⟩ = some (.int .i64 b.2) ∧ Below w.heap.size w w') (by kernel_rfl) ?_ (fun hHeld => ?_)
  · exact ⟨c0, c1, bl_drew (bl_refl _)⟩
  try simp only [Act.put, List.setIfInBounds_toArray, List.set_cons_zero, List.set_cons_succ]
  refine wpAnyH_abs (F := fun _ => True) hHeld trivial ?_
  clear hHeld c0 c1
  rintro X0 hHeld -
  (refine tk (i := 0) rfl rfl hHeld ?_)
  (refine tk (i := 1) rfl rfl hHeld ?_)
  (refine tk (i := 2) rfl rfl hHeld ?_)
  (refine tk (i := 3) rfl rfl hHeld ?_)
  (refine tk (i := 5) rfl rfl hHeld ?_)
  (refine tk (i := 6) rfl rfl hHeld ?_)
  (refine tk (i := 7) rfl rfl hHeld ?_)
  (refine tk (i := 8) rfl rfl hHeld ?_)
  refine callC (i := 4) rfl (fun K hK => ?_)
  obtain ⟨h0, h1, hB⟩ := (id hHeld)
  have hbx := book_bl HB.out hB
  have hcl := clone_any _ _ _ _ _ X0 hbx.own
  have HC := Go.Lib.hid hcl
  clear hcl hbx
  go_simp
  refine (HC.out).mono ?_
  rintro e X1 ⟨rfl, hown, -, hb⟩
  go_wp2_with fail
  refine hK.out _ _ ?_ (fun hHeld2 => ?_)
  · exact ⟨bl_cell hb h0, bl_cell hb h1, bl_then hB hb⟩
  have hsz := hB.size
  have hlt2 := hown.lt
  generalize X0.heap.size = r at *
  clear hHeld hK K h0 h1 hB hb HC
  have hHeld := hHeld2
  clear hHeld2
  try simp only [Act.put, List.setIfInBounds_toArray, List.set_cons_zero, List.set_cons_succ]
  refine wpAnyH_abs (F := fun X => X.ownsMap Tryz.prog 9 heldRd r b.1.length (sD eV b.1)) hHeld hown ?_
  clear hHeld hown hlt2 X1
  rintro X1 hHeld hown
  (refine tk (i := 9) rfl rfl hHeld ?_)
  refine callC (i := 10) rfl (fun K hK => ?_)
  obtain ⟨h0, h1, hB⟩ := (id hHeld)
  have hlt2 := hown.lt
  go_simp
  refine hK.out _ _ ?_ (fun hHeld2 => ?_)
  · exact ⟨bl_cell (bl_alloc (bl_refl _) _) h0, bl_cell (bl_alloc (bl_refl _) _) h1, bl_alloc hB _⟩
  have hsz2 := hB.size
  have hhd := heap_alloc_new X1 (.cells #[.map (some r), .int .i64 b.2] 58)
  have hown2 := hown.alloc (.cells #[.map (some r), .int .i64 b.2] 58)
  have HH := Go.Lib.hid hhd
  have HO := Go.Lib.hid hown2
  clear hHeld hK K h0 h1 hB hhd hown2 hown
  have hHeld := hHeld2
  clear hHeld2
  try simp only [Act.put, List.setIfInBounds_toArray, List.set_cons_zero, List.set_cons_succ]
  (refine tk (i := 11) rfl rfl hHeld ?_)
  refine wpAnyH_done (by kernel_rfl) ?_ _
  obtain ⟨-, -, hE⟩ := hHeld
  repeat' (first | go_step3 | go_skip | go_guarded | go_step | go_upon)
  go_ret
  exact ⟨X1.heap.size, r, rfl, ⟨by simpa using HH.out, HO.out⟩, by omega, by omega, hE⟩
end Go.Proofs.YtmndkhklhfnjhaaGreat

namespace Go.Proofs.YtmndkhklhfnjhaaGreat
open Go.RowKit Go.Maps
set_option linter.unusedVariables false
set_option linter.unusedSimpArgs false

/-- The name of a number below a hundred. -/
def nmK (i : Nat) : Key := [110, UInt8.ofNat (48 + i / 10), UInt8.ofNat (48 + i % 10)]
def moreK : Key := [109, 111, 114, 101]
theorem nmK_named : ∀ i, i < 100 → namedB (nmK i) = true := by decide +kernel
theorem more_named : namedB moreK = true := by decide +kernel
theorem nmK_inj : ∀ i, i < 100 → ∀ j, j < 100 → nmK i = nmK j → i = j := by
  intro i hi j hj h
  unfold nmK at h
  injection h with _ h
  injection h with h1 h
  injection h with h2 _
  have e1 := congrArg UInt8.toNat h1
  have e2 := congrArg UInt8.toNat h2
  simp only [UInt8.toNat_ofNat'] at e1 e2
  omega
theorem nmK_more (i : Nat) : moreK ≠ nmK i := by unfold moreK nmK; simp
/-- The first i names are laid, with one policy. -/
structure FullAt (p : Pol) (b : Bk) (i : Nat) : Prop where
  ok : OkB namedB b
  ver : b.2 = i
  len : b.1.length = i
  has : ∀ j, j < i → bIs b (nmK j) = true
  only : ∀ k, bIs b k = true → (bGet b k).1 = p ∧ ∃ j, j < i ∧ k = nmK j
theorem full_nil (p : Pol) : FullAt p ([], 0) 0 := ⟨okB_nil, rfl, rfl, fun j h => by omega, fun k h => by unfold bIs sGet at h; simp at h⟩
theorem is_put {b : Bk} {k : Key} {v : EV} (k' : Key) (n : Int) (h : k' ≠ k) : bIs (sPut k v b.1, n) k' = bIs b k' ∧ bGet (sPut k v b.1, n) k' = bGet b k' := by
  unfold bIs bGet
  rw [sGet_put_other h]
  exact ⟨rfl, rfl⟩
theorem lay_put {b : Bk} {k : Key} {p : Pol} (he : layE namedB b k p = 0) (hs : bSame b k p = false) : layB namedB b k p = (sPut k (p, b.2 + 1) b.1, b.2 + 1) := by unfold layB; rw [if_pos (And.intro he hs)]
theorem no_same {b : Bk} {k : Key} {p : Pol} (h : bIs b k = false) : bSame b k p = false := by unfold bSame; rw [h]; rfl
theorem lay_room {b : Bk} {k : Key} {p : Pol} (hn : namedB k = true) (hc : chkP p = 0) (h : bIs b k = true ∨ b.1.length < 100) : layE namedB b k p = 0 := by
  unfold layE
  rw [if_neg (by rintro (z | z); rw [hn] at z; cases z; exact z hc), if_neg (by rintro ⟨z, z2⟩; rcases h with h | h; rw [h] at z; cases z; omega)]
theorem full_step {p : Pol} {b : Bk} {i : Nat} (h : FullAt p b i) (hi : i < 100) (hc : chkP p = 0) :
    layE namedB b (nmK i) p = 0 ∧ layV namedB b (nmK i) p = (i : Int) + 1 ∧ FullAt p (layB namedB b (nmK i) p) (i + 1) := by
  have hno : bIs b (nmK i) = false := by
    cases z : bIs b (nmK i)
    · rfl
    · obtain ⟨-, j, hj, e⟩ := h.only _ z
      have := nmK_inj i hi j (by omega) e
      omega
  have he := lay_room (nmK_named i hi) hc (b := b) (.inr (by rw [h.len]; exact hi))
  have hs := no_same (p := p) hno
  obtain ⟨e1, e2, e3, e4⟩ := lay_new he hs
  have ep := lay_put he hs
  refine ⟨he, by rw [e1, h.ver], h.ok.lay _ _, by rw [e2, h.ver]; omega, ?_, fun j hj => ?_, fun k hk => ?_⟩
  · rw [ep]
    show (sPut _ _ b.1).length = _
    rw [sPut_length _ _ h.ok.nodup, if_neg (by unfold bIs at hno; rw [hno]; exact Bool.false_ne_true), h.len]
  · by_cases z : j = i
    · subst z; exact e3
    · rw [ep, (is_put _ _ (fun e => z (nmK_inj j (by omega) i hi e))).1]
      exact h.has j (by omega)
  · by_cases z : k = nmK i
    · subst z; rw [e4]; exact ⟨rfl, i, by omega, rfl⟩
    · rw [ep] at hk ⊢
      obtain ⟨q1, q2⟩ := is_put (b := b) (v := (p, b.2 + 1)) k (b.2 + 1) z
      rw [q1] at hk
      rw [q2]
      obtain ⟨a1, j, a2, a3⟩ := h.only k hk
      exact ⟨a1, j, by omega, a3⟩
/-- What comes behind the hundredth. -/
theorem full_end {p q : Pol} {b : Bk} (h : FullAt p b 100) (hc : chkP p = 0) (hq : chkP q = 0) (hne : p ≠ q) {k : Nat} (hk : k < 100) :
    layE namedB b moreK p = 5 ∧ layB namedB b moreK p = b ∧ layE namedB b (nmK k) q = 0 ∧ layV namedB b (nmK k) q = 101 ∧
    ∃ B1, layB namedB b (nmK k) q = B1 ∧ B1.2 = 101 ∧ OkB namedB B1 ∧ bIs B1 (nmK k) = true ∧
    ∃ B2, dropB B1 (nmK k) = B2 ∧ B2.2 = 101 ∧ OkB namedB B2 ∧ layE namedB B2 moreK q = 0 ∧
    ∃ B3, layB namedB B2 moreK q = B3 ∧ B3.1.length = 100 := by
  have hmore : bIs b moreK = false := by
    cases z : bIs b moreK
    · rfl
    · obtain ⟨-, j, -, e⟩ := h.only _ z
      exact absurd e (nmK_more j)
  have e5 : layE namedB b moreK p = 5 := by
    unfold layE
    rw [if_neg (by rintro (z | z); rw [more_named] at z; cases z; exact z hc), if_pos ⟨hmore, by rw [h.len]; omega⟩]
  have hi := h.has k hk
  have he := lay_room (nmK_named k hk) hq (b := b) (.inl hi)
  have hs : bSame b (nmK k) q = false := by
    unfold bSame
    rw [hi, decide_eq_false (by rw [(h.only _ hi).1]; exact hne)]
    rfl
  obtain ⟨f1, f2, f3, f4⟩ := lay_new he hs
  have ep := lay_put he hs
  have ok1 := h.ok.lay (nmK k) q
  have l1 : (layB namedB b (nmK k) q).1.length = 100 := by
    rw [ep]
    show (sPut _ _ b.1).length = _
    rw [sPut_length _ _ h.ok.nodup, if_pos (by unfold bIs at hi; exact hi), h.len]
  have m1 : bIs (layB namedB b (nmK k) q) moreK = false := by rw [ep, (is_put _ _ (nmK_more k)).1]; exact hmore
  refine ⟨e5, (lay_no (by rw [e5]; omega)).2, he, by rw [f1, h.ver]; rfl, _, rfl, by rw [f2, h.ver]; rfl, ok1, f3, _, rfl, by show (layB namedB b (nmK k) q).2 = _; rw [f2, h.ver]; rfl, ok1.drop _, ?_⟩
  generalize layB namedB b (nmK k) q = B1 at *
  have ok2 := ok1.drop (nmK k)
  have l2 : (dropB B1 (nmK k)).1.length + 1 = 100 := by
    have := sDel_length ok1.nodup (k := nmK k) (by unfold bIs at f3; exact f3)
    show (sDel (nmK k) B1.1).length + 1 = 100
    omega
  have m2 : bIs (dropB B1 (nmK k)) moreK = false := by
    unfold bIs at m1 ⊢
    have m1' : sGet moreK B1.1 = none := by simpa using m1
    have := sGet_none.1 m1'
    have : sGet moreK (dropB B1 (nmK k)).1 = none := sGet_none.2 fun x hx => this x (mem_sDel.1 hx).1
    rw [this]; rfl
  have he2 := lay_room more_named hq (b := dropB B1 (nmK k)) (.inr (by omega))
  refine ⟨he2, _, rfl, ?_⟩
  rw [lay_put he2 (no_same m2)]
  show (sPut _ _ _).length = _
  rw [sPut_length _ _ ok2.nodup, if_neg (by unfold bIs at m2; rw [m2]; exact Bool.false_ne_true)]
  omega
end Go.Proofs.YtmndkhklhfnjhaaGreat

namespace Go.Proofs.YtmndkhklhfnjhaaGreat
open Go.RowKit Go.Maps
set_option linter.unusedVariables false
set_option linter.unusedSimpArgs false

theorem res6_only {F : Nat → Prop} {w w' : World} {b : Nat} (h : Res6 w b) (ho : Only F w w') (hf : ¬ F b) : Res6 w' b := fun i hi => by
  obtain ⟨h1, h2⟩ := h i hi
  obtain ⟨u, hu⟩ := Option.isSome_iff_exists.1 h2
  have hlt : b < w.heap.size := World.block_lt_of_cell? w _ hu
  have hb := ho.block b hlt hf
  exact ⟨by unfold World.frozen? at h1 ⊢; dsimp only at h1 ⊢; rw [hb]; exact h1, by rw [World.cell?_of_block hb]; exact h2⟩
theorem chk4 {l : Int} (h0 : 1 ≤ l) (h1 : l ≤ 100000) : chkP ⟨4, l, 10, 0, 0, false⟩ = 0 := by
  unfold chkP
  dsimp only
  rw [if_neg (by decide), if_neg (by decide), if_pos rfl]
  exact (chkC_ok (by unfold okC; dsimp only; omega)).symm
theorem conv2 (i : Nat) (hi : i < 100) (X : World) : (convert 53 9 (.slice (some ⟨X.heap.size, 0, none⟩) 2 2)).run Tryz.prog (X.alloc (.cells #[.int .u8 (48 + (i : Int) / 10), .int .u8 (48 + (i : Int) % 10)] 5)) =
    .ok (.string ⟨#[UInt8.ofNat (48 + i / 10), UInt8.ofNat (48 + i % 10)]⟩) (X.alloc (.cells #[.int .u8 (48 + (i : Int) / 10), .int .u8 (48 + (i : Int) % 10)] 5)) := by
  have e1 : ((UInt8.ofNat (48 + i / 10)).toNat : Int) = 48 + (i : Int) / 10 := by rw [UInt8.toNat_ofNat']; omega
  have e2 : ((UInt8.ofNat (48 + i % 10)).toNat : Int) = 48 + (i : Int) % 10 := by rw [UInt8.toNat_ofNat']; omega
  exact run_convert_bytes_back (P := Tryz.prog) _ 53 9 5 ⟨X.heap.size, 0, none⟩ 2 [UInt8.ofNat (48 + i / 10), UInt8.ofNat (48 + i % 10)] Tryz.underlying53 Tryz.underlying5 Tryz.underlying9 (fun j hj => by
    have : j = 0 ∨ j = 1 := by simp at hj; omega
    rcases this with rfl | rfl
    · show World.cell? _ ⟨X.heap.size, 0, none⟩ = some (.int .u8 ((UInt8.ofNat (48 + i / 10)).toNat : Int)); rw [e1]; simp
    · show World.cell? _ ⟨X.heap.size, 1, none⟩ = some (.int .u8 ((UInt8.ofNat (48 + i % 10)).toNat : Int)); rw [e2]; simp)
set_option maxHeartbeats 2000000 in
set_option maxRecDepth 100000 in
theorem full_walk (n lim : Int) (w : World) (hn0 : 0 ≤ n) (hn1 : n ≤ 255) (hl0 : 0 ≤ lim) (hl1 : lim ≤ 65535) :
    Calls Tryz.prog 5 #[.int .u8 n, .int .u16 lim] w fun e w' => e = .returned (.bool true) ∧ Below w.heap.size w w' := by
  have HKN := Go.Lib.hid bknown
  have HNW := Go.Lib.hid bnew_book
  have ww1 : IntKind.i64.wrap lim = lim := IntWalk.i64_in _ (by omega)
  have ww2 : IntKind.i64.wrap (1 + lim) = 1 + lim := IntWalk.i64_in _ (by omega)
  have ww3 : IntKind.i64.wrap (1 + lim + 1) = 1 + lim + 1 := IntWalk.i64_in _ (by omega)
  have ww4 : IntKind.i64.wrap n = n := IntWalk.i64_in _ (by omega)
  go_enter Tryz.func5, Tryz.ntmps5
  go_wp2_with fail
  refine (HNW.out _).mono ?_
  rintro e w1 ⟨v, mb, rfl, hbk, hv1, hm1, hb⟩
  have hsz1 : w.heap.size + 0 ≤ w1.heap.size := by have h := hb.size; (try simp at h); omega
  have hB : Below w.heap.size w w1 := hb
  clear hb
  go_wp2_with fail
  refine wp_abs (S0 := fun X => BookAt X v mb ([], 0) ∧ Cells6 X w1.heap.size (.int .i64 4) (.int .i64 (1 + lim)) (.int .i64 10) (.int .i64 0) (.int .i64 0) (.bool false) ∧ Res6 X w1.heap.size ∧ Below w.heap.size w X) ⟨book_bl hbk (bl_alloc (bl_refl _) _), ⟨by go_simp, by go_simp, by go_simp, by go_simp, by go_simp, by go_simp⟩, res6_new _ _ _ _ _ _ _ _ rfl, bl_alloc hB _⟩ ?_
  have hlt := hbk.lt
  have hpb : w.heap.size ≤ w1.heap.size := hB.size
  generalize w1.heap.size = pb at *
  clear hbk hB
  rintro W0 ⟨hbk, hpc, hR, hB⟩
  go_loopw [7] (fun s7 wr => ∃ i : Nat, s7 = .int .i64 i ∧ i ≤ 100 ∧ Hid (∃ b : Bk, BookAt wr v mb b ∧ FullAt ⟨4, 1 + lim, 10, 0, 0, false⟩ b i ∧ Cells6 wr pb (.int .i64 4) (.int .i64 (1 + lim)) (.int .i64 10) (.int .i64 0) (.int .i64 0) (.bool false) ∧ Res6 wr pb ∧ Below w.heap.size w wr)) (fun s7 _ => 100 - (intOf s7).toNat)
  case atStart => exact ⟨0, rfl, by omega, ⟨([], 0), hbk, full_nil _, hpc, hR, hB⟩⟩
  case round =>
    clear hbk hpc hR hB
    obtain ⟨i, rfl, hi, H⟩ := hrel
    obtain ⟨b, hbk, hfu, hpc, hR, hB⟩ := H.out
    clear H
    by_cases hin : i < 100
    · have k1 : (i : Int) < 100 := by omega
      obtain ⟨p0, p1, p2, p3, p4, p5⟩ := hpc
      have hcv := fun X => conv2 i hin X
      have hT : ((⟨#[110]⟩ : ByteArray) ++ (⟨#[UInt8.ofNat (48 + i / 10), UInt8.ofNat (48 + i % 10)]⟩ : ByteArray)).data.toList = nmK i := by simp [nmK]
      have hTs : ((⟨#[110]⟩ : ByteArray) ++ (⟨#[UInt8.ofNat (48 + i / 10), UInt8.ofNat (48 + i % 10)]⟩ : ByteArray)).size ≤ maxLen := by unfold maxLen; simp [ByteArray.size]
      have hlt2 := hbk.lt
      obtain ⟨q1, q2, q3⟩ := full_step hfu hin (chk4 (l := 1 + lim) (by omega) (by omega))
      have hbv := hfu.ver
      have hbl := hfu.ok.len
      have hly := fun w h => lay_book (v := v) (mb := mb) (b := b) ((⟨#[110]⟩ : ByteArray) ++ (⟨#[UInt8.ofNat (48 + i / 10), UInt8.ofNat (48 + i % 10)]⟩ : ByteArray)) hTs ⟨4, 1 + lim, 10, 0, 0, false⟩ (by omega) hbl w h
      rw [hT, q1, q2] at hly
      generalize layB namedB b (nmK i) ⟨4, 1 + lim, 10, 0, 0, false⟩ = b2 at *
      clear hT hTs
      have hSs : (⟨#[UInt8.ofNat (48 + i / 10), UInt8.ofNat (48 + i % 10)]⟩ : ByteArray).size = 2 := rfl
      generalize (⟨#[UInt8.ofNat (48 + i / 10), UInt8.ofNat (48 + i % 10)]⟩ : ByteArray) = S2 at *
      unfold Pol.v at hly
      dsimp only at hly
      have H_HLY := Go.Lib.hid hly
      have H_FU := Go.Lib.hid q3
      clear hly q1 q2 q3 hfu hbv hbl
      have k0 : (0 : Int) ≤ (i : Int) := by omega
      have wi : IntKind.i64.wrap ((i : Int) + 1) = (i : Int) + 1 := IntWalk.i64_in _ (by omega)
      have hi1 : i + 1 ≤ 100 := hin
      have hms : 100 - (i + 1) < 100 - i := by omega
      have lb_p := World.block_lt_of_cell? wr _ p0
      dsimp only at lb_p
      go_wp2_with fail
      refine (H_HLY.out _ (book_bl hbk (bl_alloc (bl_refl _) _))).mono ?_
      rintro e w2 ⟨rfl, hbk2, hO⟩
      have hsz2 : wr.heap.size + 1 ≤ w2.heap.size := by have h := hO.size; (try simp at h); omega
      replace p0 := only_cell hO (bl_cell (bl_alloc (bl_refl _) _) p0) (fun hi => by rcases hi with hi | hi <;> omega)
      replace p1 := only_cell hO (bl_cell (bl_alloc (bl_refl _) _) p1) (fun hi => by rcases hi with hi | hi <;> omega)
      replace p2 := only_cell hO (bl_cell (bl_alloc (bl_refl _) _) p2) (fun hi => by rcases hi with hi | hi <;> omega)
      replace p3 := only_cell hO (bl_cell (bl_alloc (bl_refl _) _) p3) (fun hi => by rcases hi with hi | hi <;> omega)
      replace p4 := only_cell hO (bl_cell (bl_alloc (bl_refl _) _) p4) (fun hi => by rcases hi with hi | hi <;> omega)
      replace p5 := only_cell hO (bl_cell (bl_alloc (bl_refl _) _) p5) (fun hi => by rcases hi with hi | hi <;> omega)
      replace hR := res6_only (res6_bl hR (bl_alloc (bl_refl _) _)) hO (fun hi => by rcases hi with hi | hi <;> omega)
      replace hB : Below w.heap.size w w2 := only_then (bl_alloc (hB) _) hO (fun i hi => by rcases hi with hi | hi <;> omega)
      clear hO
      replace lb_p := World.block_lt_of_cell? w2 _ p0
      dsimp only at lb_p
      replace hbk := hbk2
      clear hbk2
      go_wp2_with fail
      go_roundw
      case rel => exact ⟨i + 1, by go_num, hi1, ⟨b2, hbk, H_FU.out, ⟨p0, p1, p2, p3, p4, p5⟩, hR, hB⟩⟩
      case measure => (simp [intOf]; omega)
    · have hie : i = 100 := by omega
      subst hie
      obtain ⟨p0, p1, p2, p3, p4, p5⟩ := hpc
      obtain ⟨n, rfl⟩ := Int.eq_ofNat_of_zero_le hn0
      have hk : n % 100 < 100 := Nat.mod_lt _ (by omega)
      have hcv := fun X => conv2 (n % 100) hk X
      rw [show ((n % 100 : Nat) : Int) = (n : Int) % 100 by omega] at hcv
      rw [show ((n : Int) % 100) % 10 = (n : Int) % 10 by omega] at hcv
      have hT : ((⟨#[110]⟩ : ByteArray) ++ (⟨#[UInt8.ofNat (48 + (n % 100) / 10), UInt8.ofNat (48 + (n % 100) % 10)]⟩ : ByteArray)).data.toList = nmK (n % 100) := by simp [nmK]
      have hTs : ((⟨#[110]⟩ : ByteArray) ++ (⟨#[UInt8.ofNat (48 + (n % 100) / 10), UInt8.ofNat (48 + (n % 100) % 10)]⟩ : ByteArray)).size ≤ maxLen := by unfold maxLen; simp [ByteArray.size]
      have hMs : (⟨#[109, 111, 114, 101]⟩ : ByteArray).size ≤ maxLen := by unfold maxLen; decide
      have hSs : (⟨#[UInt8.ofNat (48 + (n % 100) / 10), UInt8.ofNat (48 + (n % 100) % 10)]⟩ : ByteArray).size = 2 := rfl
      generalize hS2 : (⟨#[UInt8.ofNat (48 + (n % 100) / 10), UInt8.ofNat (48 + (n % 100) % 10)]⟩ : ByteArray) = S2 at *
      clear hS2
      have hc1 := chk4 (l := 1 + lim) (by omega) (by omega)
      have hc2 := chk4 (l := 1 + lim + 1) (by omega) (by omega)
      obtain ⟨f1, f2, f3, f4, B1, g1, g2, g3, g4, B2, g5, g6, g7, g8, B3, g9, g10⟩ := full_end hfu hc1 hc2 (fun e => by injection e with _ e; omega) hk
      have hbv := hfu.ver
      have hbl := hfu.ok.len
      have hbn := hfu.len
      have hl1 := fun w h => lay_book (v := v) (mb := mb) (b := b) ⟨#[109, 111, 114, 101]⟩ hMs ⟨4, 1 + lim, 10, 0, 0, false⟩ (by omega) hbl w h
      rw [show (⟨#[109, 111, 114, 101]⟩ : ByteArray).data.toList = moreK from rfl, f1, f2] at hl1
      have hl2 := fun w h => lay_book (v := v) (mb := mb) (b := b) ((⟨#[110]⟩ : ByteArray) ++ S2) hTs ⟨4, 1 + lim + 1, 10, 0, 0, false⟩ (by omega) hbl w h
      rw [hT, f3, f4, g1] at hl2
      have hdp := fun w h => drop_book (v := v) (mb := mb) (b := B1) ((⟨#[110]⟩ : ByteArray) ++ S2) hTs w h
      rw [hT, g4, g5] at hdp
      have hl3 := fun w h => lay_book (v := v) (mb := mb) (b := B2) ⟨#[109, 111, 114, 101]⟩ hMs ⟨4, 1 + lim + 1, 10, 0, 0, false⟩ (by omega) g7.len w h
      rw [show (⟨#[109, 111, 114, 101]⟩ : ByteArray).data.toList = moreK from rfl, g8, g9] at hl3
      have hnb := fun w h => names_book (v := v) (mb := mb) (b := B3) w h (by omega)
      rw [g10] at hnb
      have hcp := fun w h => copy_book (v := v) (mb := mb) (b := b) w h
      have hnc := fun vc mc w h => names_book (v := vc) (mb := mc) (b := b) w h hbl
      rw [hbn] at hnc
      have hvc := fun vc mc w h => ver_book (v := vc) (mb := mc) (b := b) w h
      rw [hbv] at hvc
      generalize layV namedB b moreK ⟨4, 1 + lim, 10, 0, 0, false⟩ = V1 at *
      generalize layV namedB B2 moreK ⟨4, 1 + lim + 1, 10, 0, 0, false⟩ = V3 at *
      have hlt2 := hbk.lt
      have lb_0 := World.block_lt_of_cell? wr _ p0
      dsimp only at lb_0
      unfold Pol.v at hl1 hl2 hl3
      dsimp only at hl1 hl2 hl3
      have H_HL1 := Go.Lib.hid hl1
      have H_HL2 := Go.Lib.hid hl2
      have H_HDP := Go.Lib.hid hdp
      have H_HL3 := Go.Lib.hid hl3
      have H_HNB := Go.Lib.hid hnb
      have H_HCP := Go.Lib.hid hcp
      have H_HNC := Go.Lib.hid hnc
      have H_HVC := Go.Lib.hid hvc
      clear hl1 hl2 hdp hl3 hnb hcp hnc hvc hT hTs hMs hc1 hc2 f1 f2 f3 f4 g1 g2 g3 g4 g5 g6 g7 g8 g9 g10 hbv hbl hbn hfu hk
      have lb_p := World.block_lt_of_cell? wr _ p0
      dsimp only at lb_p
      go_wp2_with fail
      refine (H_HCP.out _ hbk).mono ?_
      rintro e w3 ⟨vc, mc, rfl, hbc, hvc, hmc, hb⟩
      have hsz3 : wr.heap.size + 0 ≤ w3.heap.size := by have h := hb.size; (try simp at h); omega
      replace hbk := book_bl hbk hb
      replace p0 := bl_cell hb p0
      replace p1 := bl_cell hb p1
      replace p2 := bl_cell hb p2
      replace p3 := bl_cell hb p3
      replace p4 := bl_cell hb p4
      replace p5 := bl_cell hb p5
      replace hR := res6_bl hR hb
      replace hB : Below w.heap.size w w3 := bl_then hB hb
      replace lb_p := World.block_lt_of_cell? w3 _ p0
      dsimp only at lb_p
      clear hb
      go_wp2_with fail
      refine (H_HL1.out _ (book_bl hbk (bl_alloc (bl_refl _) _))).mono ?_
      rintro e w4 ⟨rfl, hbk2, hO⟩
      have hsz4 : w3.heap.size + 1 ≤ w4.heap.size := by have h := hO.size; (try simp at h); omega
      replace p0 := only_cell hO (bl_cell (bl_alloc (bl_refl _) _) p0) (fun hi => by rcases hi with hi | hi <;> omega)
      replace p1 := only_cell hO (bl_cell (bl_alloc (bl_refl _) _) p1) (fun hi => by rcases hi with hi | hi <;> omega)
      replace p2 := only_cell hO (bl_cell (bl_alloc (bl_refl _) _) p2) (fun hi => by rcases hi with hi | hi <;> omega)
      replace p3 := only_cell hO (bl_cell (bl_alloc (bl_refl _) _) p3) (fun hi => by rcases hi with hi | hi <;> omega)
      replace p4 := only_cell hO (bl_cell (bl_alloc (bl_refl _) _) p4) (fun hi => by rcases hi with hi | hi <;> omega)
      replace p5 := only_cell hO (bl_cell (bl_alloc (bl_refl _) _) p5) (fun hi => by rcases hi with hi | hi <;> omega)
      replace hR := res6_only (res6_bl hR (bl_alloc (bl_refl _) _)) hO (fun hi => by rcases hi with hi | hi <;> omega)
      replace hbc := book_only (book_bl hbc (bl_alloc (bl_refl _) _)) hO (fun hi => by rcases hi with hi | hi <;> omega) (fun hi => by rcases hi with hi | hi <;> omega)
      replace hB : Below w.heap.size w w4 := only_then (bl_alloc (hB) _) hO (fun i hi => by rcases hi with hi | hi <;> omega)
      clear hO
      replace lb_p := World.block_lt_of_cell? w4 _ p0
      dsimp only at lb_p
      replace hbk := hbk2
      clear hbk2
      have fr1 := (hR 1 (by omega)).1
      have hlc := hbc.lt
      go_wp2_with fail
      replace p0 : World.cell? (w4.setCell ⟨pb, 1, none⟩ (.int .i64 (1 + lim + 1))) ⟨pb, 0, none⟩ = _ := (World.cell?_setCell_other _ _ _ _ (by simp)).trans p0
      replace p2 : World.cell? (w4.setCell ⟨pb, 1, none⟩ (.int .i64 (1 + lim + 1))) ⟨pb, 2, none⟩ = _ := (World.cell?_setCell_other _ _ _ _ (by simp)).trans p2
      replace p3 : World.cell? (w4.setCell ⟨pb, 1, none⟩ (.int .i64 (1 + lim + 1))) ⟨pb, 3, none⟩ = _ := (World.cell?_setCell_other _ _ _ _ (by simp)).trans p3
      replace p4 : World.cell? (w4.setCell ⟨pb, 1, none⟩ (.int .i64 (1 + lim + 1))) ⟨pb, 4, none⟩ = _ := (World.cell?_setCell_other _ _ _ _ (by simp)).trans p4
      replace p5 : World.cell? (w4.setCell ⟨pb, 1, none⟩ (.int .i64 (1 + lim + 1))) ⟨pb, 5, none⟩ = _ := (World.cell?_setCell_other _ _ _ _ (by simp)).trans p5
      replace p1 : World.cell? (w4.setCell ⟨pb, 1, none⟩ (.int .i64 (1 + lim + 1))) ⟨pb, 1, none⟩ = some (.int .i64 (1 + lim + 1)) := by rw [World.cell?_setCell_same' _ _ _ (by rw [p1]; rfl)]
      replace hbk : BookAt (w4.setCell ⟨pb, 1, none⟩ (.int .i64 (1 + lim + 1))) v mb b := hbk.frame (heap_set_other (show pb ≠ v by omega)) (heap_set_other (show pb ≠ mb by omega))
      replace hbc : BookAt (w4.setCell ⟨pb, 1, none⟩ (.int .i64 (1 + lim + 1))) vc mc b := hbc.frame (heap_set_other (show pb ≠ vc by omega)) (heap_set_other (show pb ≠ mc by omega))
      replace hB : Below w.heap.size w (w4.setCell ⟨pb, 1, none⟩ (.int .i64 (1 + lim + 1))) := bl_set hB hpb _
      clear hR fr1
      have hst := World.size_setCell w4 ⟨pb, 1, none⟩ (.int .i64 (1 + lim + 1))
      refine (H_HL2.out _ hbk).mono ?_
      rintro e w5 ⟨rfl, hbk2, hO⟩
      have hsz5 : (w4.setCell ⟨pb, 1, none⟩ (.int .i64 (1 + lim + 1))).heap.size + 0 ≤ w5.heap.size := by have h := hO.size; (try simp at h); omega
      replace p0 := only_cell hO (p0) (fun hi => by rcases hi with hi | hi <;> omega)
      replace p1 := only_cell hO (p1) (fun hi => by rcases hi with hi | hi <;> omega)
      replace p2 := only_cell hO (p2) (fun hi => by rcases hi with hi | hi <;> omega)
      replace p3 := only_cell hO (p3) (fun hi => by rcases hi with hi | hi <;> omega)
      replace p4 := only_cell hO (p4) (fun hi => by rcases hi with hi | hi <;> omega)
      replace p5 := only_cell hO (p5) (fun hi => by rcases hi with hi | hi <;> omega)
      replace hbc := book_only (hbc) hO (fun hi => by rcases hi with hi | hi <;> omega) (fun hi => by rcases hi with hi | hi <;> omega)
      replace hB : Below w.heap.size w w5 := only_then (hB) hO (fun i hi => by rcases hi with hi | hi <;> omega)
      clear hO
      replace lb_p := World.block_lt_of_cell? w5 _ p0
      dsimp only at lb_p
      replace hbk := hbk2
      clear hbk2
      go_wp2_with fail
      refine (H_HDP.out _ hbk).mono ?_
      rintro e w6 ⟨rfl, hbk2, hO⟩
      have hsz6 : w5.heap.size + 0 ≤ w6.heap.size := by have h := hO.size; (try simp at h); omega
      replace p0 := only_cell hO (p0) (fun hi => by rcases hi with hi | hi <;> omega)
      replace p1 := only_cell hO (p1) (fun hi => by rcases hi with hi | hi <;> omega)
      replace p2 := only_cell hO (p2) (fun hi => by rcases hi with hi | hi <;> omega)
      replace p3 := only_cell hO (p3) (fun hi => by rcases hi with hi | hi <;> omega)
      replace p4 := only_cell hO (p4) (fun hi => by rcases hi with hi | hi <;> omega)
      replace p5 := only_cell hO (p5) (fun hi => by rcases hi with hi | hi <;> omega)
      replace hbc := book_only (hbc) hO (fun hi => by rcases hi with hi | hi <;> omega) (fun hi => by rcases hi with hi | hi <;> omega)
      replace hB : Below w.heap.size w w6 := only_then (hB) hO (fun i hi => by rcases hi with hi | hi <;> omega)
      clear hO
      replace lb_p := World.block_lt_of_cell? w6 _ p0
      dsimp only at lb_p
      replace hbk := hbk2
      clear hbk2
      go_wp2_with fail
      refine (H_HL3.out _ hbk).mono ?_
      rintro e w7 ⟨rfl, hbk2, hO⟩
      have hsz7 : w6.heap.size + 0 ≤ w7.heap.size := by have h := hO.size; (try simp at h); omega
      replace p0 := only_cell hO (p0) (fun hi => by rcases hi with hi | hi <;> omega)
      replace p1 := only_cell hO (p1) (fun hi => by rcases hi with hi | hi <;> omega)
      replace p2 := only_cell hO (p2) (fun hi => by rcases hi with hi | hi <;> omega)
      replace p3 := only_cell hO (p3) (fun hi => by rcases hi with hi | hi <;> omega)
      replace p4 := only_cell hO (p4) (fun hi => by rcases hi with hi | hi <;> omega)
      replace p5 := only_cell hO (p5) (fun hi => by rcases hi with hi | hi <;> omega)
      replace hbc := book_only (hbc) hO (fun hi => by rcases hi with hi | hi <;> omega) (fun hi => by rcases hi with hi | hi <;> omega)
      replace hB : Below w.heap.size w w7 := only_then (hB) hO (fun i hi => by rcases hi with hi | hi <;> omega)
      clear hO
      replace lb_p := World.block_lt_of_cell? w7 _ p0
      dsimp only at lb_p
      replace hbk := hbk2
      clear hbk2
      go_wp2_with fail
      refine (H_HNB.out _ hbk).mono ?_
      rintro e w8 ⟨A, c, rfl, -, hb⟩
      have hsz8 : w7.heap.size + 0 ≤ w8.heap.size := by have h := hb.size; (try simp at h); omega
      replace hbk := book_bl hbk hb
      replace p0 := bl_cell hb p0
      replace p1 := bl_cell hb p1
      replace p2 := bl_cell hb p2
      replace p3 := bl_cell hb p3
      replace p4 := bl_cell hb p4
      replace p5 := bl_cell hb p5
      replace hbc := book_bl hbc hb
      replace hB : Below w.heap.size w w8 := bl_then hB hb
      replace lb_p := World.block_lt_of_cell? w8 _ p0
      dsimp only at lb_p
      clear hb
      go_wp2_with fail
      refine (H_HNC.out vc mc _ hbc).mono ?_
      rintro e w9 ⟨A2, c2, rfl, -, hb⟩
      have hsz9 : w8.heap.size + 0 ≤ w9.heap.size := by have h := hb.size; (try simp at h); omega
      replace hbk := book_bl hbk hb
      replace p0 := bl_cell hb p0
      replace p1 := bl_cell hb p1
      replace p2 := bl_cell hb p2
      replace p3 := bl_cell hb p3
      replace p4 := bl_cell hb p4
      replace p5 := bl_cell hb p5
      replace hbc := book_bl hbc hb
      replace hB : Below w.heap.size w w9 := bl_then hB hb
      replace lb_p := World.block_lt_of_cell? w9 _ p0
      dsimp only at lb_p
      clear hb
      go_wp2_with fail
      refine (H_HVC.out vc mc _ hbc).mono ?_
      rintro e w10 ⟨rfl, hb⟩
      have hsz10 : w9.heap.size + 0 ≤ w10.heap.size := by have h := hb.size; (try simp at h); omega
      replace hbk := book_bl hbk hb
      replace p0 := bl_cell hb p0
      replace p1 := bl_cell hb p1
      replace p2 := bl_cell hb p2
      replace p3 := bl_cell hb p3
      replace p4 := bl_cell hb p4
      replace p5 := bl_cell hb p5
      replace hbc := book_bl hbc hb
      replace hB : Below w.heap.size w w10 := bl_then hB hb
      replace lb_p := World.block_lt_of_cell? w10 _ p0
      dsimp only at lb_p
      clear hb
      go_wp2_with fail
      refine (HKN.out _).mono ?_
      rintro e w11 ⟨rfl, hb⟩
      have hsz11 : w10.heap.size + 0 ≤ w11.heap.size := by have h := hb.size; (try simp at h); omega
      replace hbk := book_bl hbk hb
      replace p0 := bl_cell hb p0
      replace p1 := bl_cell hb p1
      replace p2 := bl_cell hb p2
      replace p3 := bl_cell hb p3
      replace p4 := bl_cell hb p4
      replace p5 := bl_cell hb p5
      replace hbc := book_bl hbc hb
      replace hB : Below w.heap.size w w11 := bl_then hB hb
      replace lb_p := World.block_lt_of_cell? w11 _ p0
      dsimp only at lb_p
      clear hb
      go_wp2_with fail
      go_ret
      exact ⟨rfl, hB⟩
end Go.Proofs.YtmndkhklhfnjhaaGreat

namespace Go.Proofs.YtmndkhklhfnjhaaGreat.bookFull
open Go.ChangeShapes Go.WideShapes Go.ChangeAt Go.RowKit
open Go.ChangeMaps (open_string shut_string)
set_option linter.unusedVariables false
set_option linter.unusedSimpArgs false

theorem own : ownKnob Tryz.prog.godebug = none := by kernel_rfl
theorem laidOut : laidOutB Tryz.prog = true := by kernel_rfl

set_option maxHeartbeats 1000000 in
set_option maxRecDepth 100000 in
theorem lifted (os : Os) (started : os.Started) (H : Type) (enc : TypeId × Value → H) :
    ReturnsInHanded {} Tryz.checked os 5 .any (Rows.bookFullSpec.pre6 enc Tryz.prog Tryz.f5 Rows.bookFullRow.domain false) (Rows.bookFullSpec.post enc Tryz.prog Tryz.f5 false true false false) := by
  refine returnsInHanded_of_change (C := Tryz.checked) own started (by kernel_rfl) Tryz.func5
    (ChangeSpec.witness6 (enc := enc) (C := Tryz.checked) false ⟨#[], #[.int .u8 0, .int .u16 0], []⟩ 8 (by kernel_rfl) (by kernel_rfl) (by kernel_rfl) (by kernel_rfl)) ?_
  intro W base args ds gs before hval0 hW hcnd _
  have hval : ∀ (j : Nat) t v, Tryz.f5.params[j]? = some t → args[j]? = some v → Value.okWide Tryz.prog W .any base t v := hval0
  have hW' := hW
  obtain ⟨p, q, hA0, hV, rfl, hfz, hnd⟩ := hW
  have hA : DataW.TrodAll enc Tryz.prog W 0 (fun _ => true) true Tryz.f5.params.toList args.toList ds p := hA0
  rw [Tryz.params5] at hA hval
  obtain ⟨v0, vs0, d0, ds0', p0, q0, hargs, rfl, rfl, h0, r0⟩ := trodAll_cons hA
  obtain ⟨v1, vs1, d1, ds1', p1, q1, rfl, rfl, rfl, h1, r1⟩ := trodAll_cons r0
  obtain ⟨rfl, rfl, rfl⟩ := trodAll_nil r1
  obtain rfl : args = #[v0, v1] := by cases args; simp_all
  obtain ⟨rfl, rfl⟩ := trodVars_none hV
  obtain ⟨a0, rfl, rfl, rfl, w0⟩ := open_int Tryz.underlying5 (hval 0 5 v0 rfl rfl) h0
  have b0l : 0 ≤ a0 := by have h := w0; simp only [Lit.wf, Bool.and_eq_true, decide_eq_true_eq] at h; exact h.1
  have b0h : a0 ≤ 255 := by have h := w0; simp only [Lit.wf, Bool.and_eq_true, decide_eq_true_eq] at h; exact h.2
  obtain ⟨a1, rfl, rfl, rfl, w1⟩ := open_int Tryz.underlying52 (hval 1 52 v1 rfl rfl) h1
  have b1l : 0 ≤ a1 := by have h := w1; simp only [Lit.wf, Bool.and_eq_true, decide_eq_true_eq] at h; exact h.1
  have b1h : a1 ≤ 65535 := by have h := w1; simp only [Lit.wf, Bool.and_eq_true, decide_eq_true_eq] at h; exact h.2
  clear hA0 hval0
  refine (full_walk a0 a1 W b0l b0h b1l b1h).mono fun e W' ⟨he, bel⟩ => ?_
  subst he
  exact ⟨_, rfl, _, _, _, [], _, [], hW', trodAll_mk1 (shut_bool Tryz.underlying4 _), (trodAll_cons_mk (shut_int Tryz.underlying5 w0) (trodAll_cons_mk (shut_int Tryz.underlying52 w1) trodAll_mk0)), rfl, bel.frame _, fun h => by cases h⟩

theorem over : Rows.bookFullRow.holds Tryz.pinned (OpenSpec.ofChange Rows.bookFullSpec) :=
  OpenClaim.holds_of_wide 5 Tryz.f5 rfl rfl rfl rfl rfl rfl rfl ⟨rfl, rfl, rfl, rfl, rfl⟩ rfl rfl rfl rfl rfl (by kernel_rfl) Tryz.func5 (by kernel_rfl)
    (of_decide_eq_true (by kernel_rfl)) (by unfold Func.isWrapper; first | (rw [if_pos (by decide +kernel)]; kernel_rfl) | (rw [if_neg (by decide +kernel)]; exact ⟨rfl, rfl⟩))
    (fun os started H enc _ => lifted os started H enc)

/-- The statement. -/
theorem proved : Rows.BookFullSaid := over
end Go.Proofs.YtmndkhklhfnjhaaGreat.bookFull
