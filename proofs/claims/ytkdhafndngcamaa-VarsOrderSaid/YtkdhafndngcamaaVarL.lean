/-
  What (*vars.Vars).Keys answers: the keys that are there, rising, in new memory; and Len: how many they are.
-/
import Derived.Test.YtkdhafndngcamaaVarK
namespace Go.Proofs.Ytkdhafndngcamaa
open Go.RowKit Go.Maps Go.Sort Go.Shelf
open Go (strKeys)

theorem heap_putRow_other {α : Type} [Inhabited α] (enc : α → Value) (w : World) (blk off : Nat) (d : Array α) (b : Nat) (h : b ≠ blk) : (putRow enc w blk off d).heap[b]? = w.heap[b]? := by
  simp [putRow, mapBlock, Array.getElem?_modify, Ne.symm h]

/-- The keys that are there. -/
def liveK (m : List (Key × VC)) (now : Int) : List Key := (m.filter fun x => thereB now x.2.e).map (·.1)

/-- A list of keys lies in memory from an address on. -/
def ReadsK (w : World) (B : Nat) (A : Option Addr) (ks : List Key) : Prop :=
  0 < ks.length → ∃ g, A = some ⟨g, 0, none⟩ ∧ B ≤ g ∧ ∀ j, j < ks.length → w.cell? ⟨g, j, none⟩ = some (encStr (ks.getD j []))

theorem live_filter {m : List (Key × VC)} (hn : (m.map (·.1)).Nodup) (now : Int) (l : List KeyS) (hl : l.map Subtype.val = m.map (·.1)) :
    (l.filter fun x => !goneB m now x).map Subtype.val = liveK m now := by
  have e1 : (l.filter fun x => !goneB m now x).map Subtype.val = (l.map Subtype.val).filter fun k => (vFind m k now).isSome := by
    rw [List.filter_map]
    congr 1
    apply List.filter_congr
    intro x _
    simp [goneB]
  rw [e1, hl, List.filter_map]
  unfold liveK
  congr 1
  apply List.filter_congr
  intro x hx
  have := sGet_of_mem hn (k := x.1) (v := x.2) hx
  simp only [Function.comp_apply, vFind, this]
  cases h : thereB now x.2.e <;> simp [Option.filter, h]

/-- Blocks of a Vars are as they were where a row of another block is written and blocks are added. -/
theorem VarsAt.sortWorld {w : World} {v mb : Nat} {room : Int} {m : List (Key × VC)} (h : VarsAt w v mb room m) (blk off n : Nat) (dk : Array KeyS) (os : Array Obj) (hb : ¬ VFoot v mb m blk) : VarsAt (Go.Proofs.sortWorld encS w blk off n dk os) v mb room m :=
  h.frame fun b hf => by
    have hlt := h.lt hf
    have hne : b ≠ blk := fun e => hb (e ▸ hf)
    unfold Go.Proofs.sortWorld
    rw [heap_grow_old _ _ (by rw [size_putRow]; exact hlt), heap_putRow_other _ _ _ _ _ _ hne]
    rfl

theorem gone_pred {v mb : Nat} {room : Int} {m : List (Key × VC)} (now : Int) (b1 b2 : Nat) (w : World) (h : VarsAt w v mb room m)
    (h1 : w.cell? ⟨b1, 0, none⟩ = some (.pointer (some ⟨v, 0, none⟩))) (h2 : w.cell? ⟨b2, 0, none⟩ = some (.int .i64 now)) :
    PredAt Try.prog 25 #[.pointer (some ⟨b1, 0, none⟩), .pointer (some ⟨b2, 0, none⟩)] encS (goneB m now) w := fun W x hb =>
  gone_any x now b1 b2 W (h.below hb) ((hb.cell (World.block_lt_of_cell? w _ h1)).trans h1) ((hb.cell (World.block_lt_of_cell? w _ h2)).trans h2)

theorem gone_over {v mb : Nat} {room : Int} {m : List (Key × VC)} (now : Int) (b1 b2 blk size : Nat) (w : World) (h : VarsAt w v mb room m) (hb : ¬ VFoot v mb m blk) (n1 : b1 ≠ blk) (n2 : b2 ≠ blk)
    (h1 : w.cell? ⟨b1, 0, none⟩ = some (.pointer (some ⟨v, 0, none⟩))) (h2 : w.cell? ⟨b2, 0, none⟩ = some (.int .i64 now)) :
    PredOver Try.prog 25 #[.pointer (some ⟨b1, 0, none⟩), .pointer (some ⟨b2, 0, none⟩)] encS (goneB m now) blk 0 size w := fun n os dk x _ => by
  have l1 := World.block_lt_of_cell? w _ h1
  have l2 := World.block_lt_of_cell? w _ h2
  refine gone_any x now b1 b2 _ (h.sortWorld blk 0 n dk os hb) ?_ ?_
  · unfold Go.Proofs.sortWorld
    rw [cell?_grow _ _ _ (by rw [size_putRow]; exact l1), cell?_putRow_other _ _ _ _ _ _ (Or.inl n1)]
    exact h1
  · unfold Go.Proofs.sortWorld
    rw [cell?_grow _ _ _ (by rw [size_putRow]; exact l2), cell?_putRow_other _ _ _ _ _ _ (Or.inl n2)]
    exact h2

set_option maxHeartbeats 400000 in
/-- slices.DeleteFunc of nil. -/
theorem delete_nil (fv : Value) (w : World) : Calls Try.prog 22 #[.slice none 0 0, fv] w fun e w' => e = .returned (.slice none 0 0) ∧ w = w' := by
  have hi := fun W => AnyE.slices_IndexFunc_empty (P := Try.prog) (ρ := Try.delL_ren) { Try.delL with } none 0 fv W
  go_enter Try.func22, Try.ntmps22
  go_wp2_with fail
  refine (hi _).mono ?_
  rintro e w' ⟨rfl, rfl⟩
  go_wp2
  go_ret
  exact ⟨rfl, rfl⟩

/-- The list of a map's keys, each with its bound. -/
def ksOf (m : List (Key × VC)) (hk : ∀ x ∈ m, x.1.length ≤ maxLen) : List KeyS := m.attach.map fun x => ⟨x.1.1, hk x.1 x.2⟩
theorem ksOf_val (m : List (Key × VC)) (hk : ∀ x ∈ m, x.1.length ≤ maxLen) : (ksOf m hk).map Subtype.val = m.map (·.1) := by
  unfold ksOf
  rw [List.map_map]
  have e := congrArg (List.map fun x : Key × VC => x.1) (List.attach_map_subtype_val m)
  rw [List.map_map] at e
  exact e

theorem kept_take {l : List Value} {n : Nat} {c : Array Value} (h : c.toList.take (n * 1) = l) (j : Nat) (hj : j < l.length) : c[j]? = some (l.getD j undef) := by
  subst h
  have h1 : j < c.toList.length := by
    have := List.length_take_le (n * 1) c.toList
    have h2 : (c.toList.take (n * 1)).length ≤ c.toList.length := by rw [List.length_take]; omega
    omega
  rw [List.getD_eq_getElem?_getD, List.getElem?_take_of_lt (by rw [List.length_take] at hj; omega), List.getElem?_eq_getElem h1]
  simp

theorem nil_of_perm {m : List (Key × VC)} {ss : List Key} (hp : ss.Perm (m.map (·.1))) (h : ss = []) : m = [] := by
  subst h
  have := hp.nil_eq
  exact List.map_eq_nil_iff.1 this.symm

set_option maxHeartbeats 1000000 in
/-- slices.DeleteFunc, of all keys, by that closure. -/
theorem delete_keys {v mb : Nat} {room : Int} {m : List (Key × VC)} (now : Int) (B b1 b2 : Nat) (u : Value) (ss : List Key) (w : World) (h : VarsAt w v mb room m) (hB : ∀ b, VFoot v mb m b → b < B) (l1 : b1 < B) (l2 : b2 < B)
    (h1 : w.cell? ⟨b1, 0, none⟩ = some (.pointer (some ⟨v, 0, none⟩))) (h2 : w.cell? ⟨b2, 0, none⟩ = some (.int .i64 now)) (hp : ss.Perm (m.map (·.1)))
    (hrow : w.ownsRow B 9 1 u ss.length ((ss.mergeSort fun x y => decide (x ≤ y)).map encStr)) (hnil : u = .slice none 0 0 ↔ ss = []) :
    Calls Try.prog 22 #[u, .func (.func 25) #[] #[.pointer (some ⟨b1, 0, none⟩), .pointer (some ⟨b2, 0, none⟩)]] w fun e w' =>
      ∃ A c, e = .returned (.slice A (liveK m now).length c) ∧ ReadsK w' B A (liveK m now) ∧ Below B w w' := by
  have hk := own_keys h.own Try.underlying9
  have hr := own_rise h.own Try.underlying9
  have hn := hr.nodup
  rw [hr.sorted hp] at hrow
  have hsl : ss.length = m.length := by rw [hp.length_eq]; simp
  by_cases hz : ss = []
  · have hm := nil_of_perm hp hz
    have hu := hnil.2 hz
    subst hu
    refine (delete_nil _ w).mono ?_
    rintro e w' ⟨rfl, rfl⟩
    subst hm
    exact ⟨none, 0, rfl, fun h => absurd h (by simp [liveK]), Below.refl _ _⟩
  · have hu : u ≠ .slice none 0 0 := fun e => hz (hnil.1 e)
    rcases hrow.2 with ⟨e, _⟩ | ⟨g, cap, cur, rfl, hg, hblk, hnc, hcm, hcs, htake⟩
    · exact absurd e hu
    · obtain ⟨l, hl⟩ : ∃ l, l = ksOf m hk := ⟨_, rfl⟩
      have hlv : l.map Subtype.val = m.map (·.1) := by rw [hl]; exact ksOf_val m hk
      have hll : l.length = ss.length := by have := congrArg List.length hlv; simp at this; omega
      have hfl := live_filter hn now l hlv
      have hcell : ∀ j, j < l.length → w.cell? ⟨g, j, none⟩ = some (encS l[j]!) := fun j hj => by
        have e1 := kept_take htake j (by simp; omega)
        have e2 : w.cell? ⟨g, j, none⟩ = cur[j]? := cell_of_row w g j cur _ _ hblk
        rw [e2, e1]
        congr 1
        have e3 : (m.map (·.1)).map encStr = l.map encS := by rw [← hlv, List.map_map]; rfl
        rw [e3, List.getD_eq_getElem?_getD, List.getElem?_map, List.getElem?_eq_getElem hj, getElem!_pos l j hj]
        rfl
      have hfz : ∀ j, w.frozen? ⟨g, j, none⟩ = false := fun j => by simp [World.frozen?, hblk]
      have hH : Holds encS w g 0 l.toArray := fun j hj => by
        have hj' : j < l.length := by simpa using hj
        rw [Nat.zero_add]
        refine ⟨(hcell j hj').trans ?_, hfz j⟩
        congr 2
        rw [getElem!_pos l j hj', getElem!_pos l.toArray j (by simpa using hj')]
        simp
      have hgf : ¬ VFoot v mb m g := fun hf => by have := hB g hf; omega
      have hcon := AnyE.slices_DeleteFunc Try.delL encS encS_one (goneB m now) 25 #[.pointer (some ⟨b1, 0, none⟩), .pointer (some ⟨b2, 0, none⟩)] (enters_of Try.func25 (by kernel_rfl) rfl) ⟨[], Nat.zero_le _⟩ Try.zeroValue9
        g 0 cap l.toArray w (gone_pred now b1 b2 w h h1 h2) (gone_over now b1 b2 g _ w h hgf (by omega) (by omega) h1 h2) hH (by simp [maxLen] at *; omega) (by simp; omega)
      change Calls Try.prog 22 _ _ _ at hcon
      simp only [List.size_toArray, hll] at hcon
      refine hcon.mono ?_
      rintro e w' ⟨rfl, q, rfl⟩
      have e4 : (l.filter fun x => !goneB m now x).length = (liveK m now).length := by rw [← hfl]; simp
      refine ⟨some ⟨g, 0, none⟩, cap, by rw [e4], fun hpos => ⟨g, rfl, hg, fun j hj => ?_⟩, ?_⟩
      · have hfle : (l.filter fun x => !goneB m now x).length ≤ l.length := List.length_filter_le _ _
        have e5 := cell?_putRow encS (Sort.ahead w q) g 0 l.toArray ((l.filter fun x => !goneB m now x) ++ List.replicate (ss.length - (l.filter fun x => !goneB m now x).length) (⟨[], Nat.zero_le _⟩ : KeyS)).toArray (holds_ahead encS w q g 0 _ hH) (by simp; omega) j (by simp; omega)
        rw [Nat.zero_add] at e5
        refine e5.trans ?_
        rw [← hfl]
        have hj2 : j < (l.filter fun x => !goneB m now x).length := by omega
        generalize (l.filter fun x => !goneB m now x) = fl at hj2 ⊢
        rw [List.getD_eq_getElem?_getD, List.getElem?_map, List.getElem?_eq_getElem hj2, getElem!_pos _ j (by simp; omega)]
        simp [List.getElem_append_left hj2, encS]
      · exact ⟨rfl, rfl, rfl, by simp [Sort.ahead], fun b hb => heap_putRow_other _ _ _ _ _ _ (by omega)⟩

set_option maxHeartbeats 1000000 in
theorem keys_any {v mb : Nat} {room : Int} {m : List (Key × VC)} (now : Int) (w : World) (h : VarsAt w v mb room m) :
    Calls Try.prog 13 #[.pointer (some ⟨v, 0, none⟩), .int .i64 now] w fun e w' => ∃ A c, e = .returned (.slice A (liveK m now).length c) ∧ ReadsK w' w.heap.size A (liveK m now) ∧ Below w.heap.size w w' := by
  have hB : ∀ b, VFoot v mb m b → b < w.heap.size := fun b hb => h.lt hb
  have hlt := h.lt (b := v) (.inl rfl)
  have c1 : w.cell? ⟨v, 1, none⟩ = some (.map (some mb)) := by simp [World.cell?, h.head]
  have hlen := h.len
  have hmost := h.most
  have V1 := (h.alloc (.cells #[.pointer (some ⟨v, 0, none⟩)] 24)).alloc (.cells #[.int .i64 now] 3)
  have hso := sorted_keys mb m.length _ _ _ V1.own (by rw [sD_size]; unfold maxLen; omega) (by rw [sD_size]; omega)
  simp only [World.size_alloc] at hso
  rw [sD_keys] at hso
  have HS := Go.Lib.hid hso
  have HB := Go.Lib.hid hB
  have HV := Go.Lib.hid V1
  clear hso hlen hmost hB V1
  go_enter Try.func13, Try.ntmps13
  go_wp2_with fail
  refine (maps_keys _ _).mono ?_
  rintro e w' ⟨rfl, rfl⟩
  go_wp2_with fail
  refine (HS.out).mono ?_
  rintro e w1 ⟨u, ss, rfl, hp, hrow, hnil, hb⟩
  have k1 : (((w.alloc (.cells #[.pointer (some ⟨v, 0, none⟩)] 24)).alloc (.cells #[.int .i64 now] 3)).alloc (.cells #[.map (some mb)] 48)).cell? ⟨w.heap.size, 0, none⟩ = some (.pointer (some ⟨v, 0, none⟩)) := by go_simp
  have k2 : (((w.alloc (.cells #[.pointer (some ⟨v, 0, none⟩)] 24)).alloc (.cells #[.int .i64 now] 3)).alloc (.cells #[.map (some mb)] 48)).cell? ⟨w.heap.size + 1, 0, none⟩ = some (.int .i64 now) := by go_simp
  have hdel := delete_keys now (w.heap.size + 1 + 1 + 1) w.heap.size (w.heap.size + 1) u ss w1
    ((HV.out.alloc (.cells #[.map (some mb)] 48)).below (by simpa using hb)) (fun b hf => by have := HB.out b hf; omega) (by omega) (by omega)
    ((hb.cell (p := ⟨w.heap.size, 0, none⟩) (by show w.heap.size < _; omega)).trans k1) ((hb.cell (p := ⟨w.heap.size + 1, 0, none⟩) (by show w.heap.size + 1 < _; omega)).trans k2) hp hrow hnil
  have HD := Go.Lib.hid hdel
  have H2 := Go.Lib.hid hb
  clear hdel hp hnil hrow hb HS HV HB k1 k2
  go_wp2_with fail
  refine (HD.out).mono ?_
  rintro e w2 ⟨A, c, rfl, hreads, hb2⟩
  have HX := Go.Lib.hid hreads
  have HY := Go.Lib.hid hb2
  clear hreads hb2 HD
  go_wp2
  go_ret
  refine ⟨A, c, rfl, fun hpos => ?_, ?_⟩
  · obtain ⟨g, hg, hge, hcell⟩ := HX.out hpos
    exact ⟨g, hg, by omega, hcell⟩
  · have B1 : Below w.heap.size w (((w.alloc (.cells #[.pointer (some ⟨v, 0, none⟩)] 24)).alloc (.cells #[.int .i64 now] 3)).alloc (.cells #[.map (some mb)] 48)) :=
      (((Below.refl _ _).alloc (Nat.le_refl _) _).alloc (by simp) _).alloc (by simp; omega) _
    exact B1.trans ((H2.out.mono (by omega)).trans (HY.out.mono (by omega)))

set_option maxHeartbeats 400000 in
theorem len_any {v mb : Nat} {room : Int} {m : List (Key × VC)} (now : Int) (w : World) (h : VarsAt w v mb room m) :
    Calls Try.prog 14 #[.pointer (some ⟨v, 0, none⟩), .int .i64 now] w fun e w' => e = .returned (.int .i64 (liveK m now).length) ∧ Below w.heap.size w w' := by
  have hk := keys_any now w h
  have HK := Go.Lib.hid hk
  clear hk
  go_enter Try.func14, Try.ntmps14
  go_wp2_with fail
  refine (HK.out).mono ?_
  rintro e w' ⟨A, c, rfl, _, hb⟩
  have H2 := Go.Lib.hid hb
  clear hb HK
  go_wp2
  go_ret
  exact ⟨rfl, H2.out⟩
end Go.Proofs.Ytkdhafndngcamaa
