/-
  What the law VarsOrder's two loops hold.
-/
import Derived.Test.YtkdhafndngcamaaVarTri
namespace Go.Proofs.Ytkdhafndngcamaa
open Go.RowKit Go.Maps
set_option linter.unusedVariables false

/-- The key of a place. -/
def keyS (l : Key) : ByteArray := ⟨l.toArray⟩
theorem keyS_list (l : Key) : (keyS l).data.toList = l := by simp [keyS]
theorem keyS_toList (l : Key) : (keyS l).toList = l := by simp [keyS]
theorem encStr_keyS (l : Key) : encStr l = .string (keyS l) := rfl

theorem okPM_nil : okPM [] := fun x hx => absurd hx (by simp)

/-- The first loop's relation, behind a name. -/
def OrdRel (w : World) (a b c : Nat) (wr : World) : Prop := ∃ pa pb : PM, okPM pa ∧ okPM pb ∧ Tri w wr 30 a b c pa pb pa

theorem OrdRel.bl {w wr : World} {a b c : Nat} (h : OrdRel w a b c wr) : Below w.heap.size w wr := by
  obtain ⟨pa, pb, _, _, h⟩ := h
  exact h.bl
/-- An act on the second one. -/
def DidB (w : World) (a b c : Nat) (e : Ending) (w' : World) : Prop := ∃ x y : Int, e = .returned (.tuple #[.int .i64 x, .int .i64 y]) ∧ OrdRel w a b c w'
theorem OrdRel.didB {w wr : World} {a b c : Nat} (h : OrdRel w a b c wr) (d : Dd) (hd : d.ok) : Calls Try.prog 15 #[.pointer (some ⟨b, 0, none⟩), d.val] wr (DidB w a b c) := by
  obtain ⟨pa, pb, oa, ob, ht⟩ := h
  exact (ht.turn.did d hd ob).mono fun e w' ⟨he, ht'⟩ => ⟨_, _, he, pa, _, oa, ob.did 30 hd, ht'.turn.turn⟩
/-- The same act on the first one, and on the third. -/
def DidAC (w : World) (a b c : Nat) (d : Dd) (x y : Int) (w' : World) : Prop := ∃ pa pb : PM, okPM pa ∧ okPM pb ∧ (pDid pa 30 d).1 = (x, y) ∧ Tri w w' 30 a b c (pDid pa 30 d).2 pb pa
def DidA (w : World) (a b c : Nat) (d : Dd) (e : Ending) (w' : World) : Prop := ∃ x y : Int, e = .returned (.tuple #[.int .i64 x, .int .i64 y]) ∧ DidAC w a b c d x y w'
theorem OrdRel.didA {w wr : World} {a b c : Nat} (h : OrdRel w a b c wr) (d : Dd) (hd : d.ok) : Calls Try.prog 15 #[.pointer (some ⟨a, 0, none⟩), d.val] wr (DidA w a b c d) := by
  obtain ⟨pa, pb, oa, ob, ht⟩ := h
  exact (ht.did d hd oa).mono fun e w' ⟨he, ht'⟩ => ⟨_, _, he, pa, pb, oa, ob, rfl, ht'⟩
theorem DidAC.bl {w wr : World} {a b c : Nat} {d : Dd} {x y : Int} (h : DidAC w a b c d x y wr) : Below w.heap.size w wr := by
  obtain ⟨pa, pb, _, _, _, h⟩ := h
  exact h.bl
theorem DidAC.didC {w wr : World} {a b c : Nat} {d : Dd} {x y : Int} (h : DidAC w a b c d x y wr) (hd : d.ok) : Calls Try.prog 15 #[.pointer (some ⟨c, 0, none⟩), d.val] wr fun e w' => e = .returned (.tuple #[.int .i64 x, .int .i64 y]) ∧ OrdRel w a b c w' := by
  obtain ⟨pa, pb, oa, ob, hxy, ht⟩ := h
  refine (ht.turn.turn.did d hd oa).mono fun e w' ⟨he, ht'⟩ => ⟨?_, _, pb, oa.did 30 hd, ob, ht'.turn⟩
  rw [he, hxy]

/-- What the second loop holds. -/
def KeyRel (w : World) (va : Nat) (pa : PM) (now : Int) (A : Option Addr) (wr : World) : Prop := NewVars w wr va 30 pa ∧ ReadsK wr w.heap.size A (pLive pa now)
theorem KeyRel.at_ {w wr : World} {va : Nat} {pa : PM} {now : Int} {A : Option Addr} (h : KeyRel w va pa now A wr) {i : Nat} (hi : i < (pLive pa now).length) :
    ∃ g, A = some ⟨g, 0, none⟩ ∧ ∀ j, j < (pLive pa now).length → wr.cell? ⟨g, j, none⟩ = some (.string (keyS ((pLive pa now).getD j []))) := by
  obtain ⟨g, hg, _, hc⟩ := h.2 (by omega)
  exact ⟨g, hg, fun j hj => hc j hj⟩
theorem KeyRel.later {w wr w' : World} {va : Nat} {pa : PM} {now : Int} {A : Option Addr} (h : KeyRel w va pa now A wr) (hn : NewVars w w' va 30 pa) (hb : Below wr.heap.size wr w') : KeyRel w va pa now A w' := by
  refine ⟨hn, fun hp => ?_⟩
  obtain ⟨g, hg, h1, hc⟩ := h.2 hp
  exact ⟨g, hg, h1, fun j hj => (hb.cell (World.block_lt_of_cell? wr _ (hc j hj))).trans (hc j hj)⟩
theorem get_below {w0 w : World} {v : Nat} {room : Int} {pm : PM} (s : ByteArray) (hs : s.size ≤ maxLen) (now : Int) (h : NewVars w0 w v room pm) :
    Calls Try.prog 11 #[.pointer (some ⟨v, 0, none⟩), .string s, .int .i64 now] w fun e w' =>
      e = .returned (.tuple #[.int .i64 (((pFind pm s.data.toList now).map (·.1)).getD 0), .bool (pFind pm s.data.toList now).isSome]) ∧ NewVars w0 w' v room pm ∧ Below w.heap.size w w' := by
  obtain ⟨F, h1, h2⟩ := h.is
  exact (get_any s hs now w h1).mono fun _ _ ⟨he, ht⟩ => ⟨he, h.later ht, ht⟩
theorem KeyRel.get {w wr : World} {va : Nat} {pa : PM} {now : Int} {A : Option Addr} (h : KeyRel w va pa now A wr) {i : Nat} (hi : i < (pLive pa now).length) :
    Calls Try.prog 11 #[.pointer (some ⟨va, 0, none⟩), .string (keyS ((pLive pa now).getD i [])), .int .i64 now] wr fun e w' => (∃ n : Int, e = .returned (.tuple #[.int .i64 n, .bool true])) ∧ KeyRel w va pa now A w' := by
  obtain ⟨hr, hl⟩ := h.1.rise
  have hmem : (pLive pa now).getD i [] ∈ pLive pa now := by rw [List.getD_eq_getElem?_getD, List.getElem?_eq_getElem hi]; exact List.getElem_mem _
  have hsome := (live_iff hr.nodup _ now).1 hmem
  have hs : (keyS ((pLive pa now).getD i [])).size ≤ maxLen := by
    obtain ⟨x, hx, he⟩ := List.mem_map.1 hmem
    have := hl x (List.mem_filter.1 hx).1
    rw [he] at this
    exact this
  refine (get_below _ hs now h.1).mono fun e w' ⟨he, hn, hb⟩ => ⟨⟨((pFind pa ((pLive pa now).getD i []) now).map (·.1)).getD 0, by rw [he, keyS_list, hsome]⟩, h.later hn hb⟩
theorem live_less {pa : PM} (hr : Rising pa) (now : Int) {j : Nat} (hj : j + 1 < (pLive pa now).length) :
    (Op.bytesLess (keyS ((pLive pa now).getD (j + 1) [])).toList (keyS ((pLive pa now).getD j [])).toList || (keyS ((pLive pa now).getD (j + 1) [])).toList == (keyS ((pLive pa now).getD j [])).toList) = false := by
  rw [keyS_toList, keyS_toList]
  apply less_of_before
  have := List.pairwise_iff_getElem.1 (live_rise hr now) j (j + 1) (by omega) hj (by omega)
  rw [List.getD_eq_getElem?_getD, List.getD_eq_getElem?_getD, List.getElem?_eq_getElem hj, List.getElem?_eq_getElem (by omega)]
  exact this
theorem any_step (L : List Key) (k : Key) (i : Nat) (hi : i < L.length) : (L.take (i + 1)).any (· == k) = ((L.take i).any (· == k) || L.getD i [] == k) := by
  rw [List.take_succ_eq_append_getElem hi, List.any_append, List.getD_eq_getElem?_getD, List.getElem?_eq_getElem hi]
  simp
theorem any_live {pa : PM} (hr : Rising pa) (k : Key) (now : Int) : (pLive pa now).any (· == k) = (pFind pa k now).isSome := by
  rw [Bool.eq_iff_iff, List.any_eq_true, ← live_iff hr.nodup k now]
  constructor
  · rintro ⟨x, hx, he⟩
    have : x = k := by simpa using he
    rw [← this]; exact hx
  · intro h
    exact ⟨k, h, by simp⟩


/-- The key at a place; whether one key was among the first ones. -/
def keyAt (L : List Key) (i : Nat) : ByteArray := keyS (L.getD i [])
def seenK (L : List Key) (k : Key) (i : Nat) : Bool := (L.take i).any (· == k)
theorem seen_zero (L : List Key) (k : Key) : seenK L k 0 = false := by simp [seenK]
theorem seen_hit {L : List Key} {key : ByteArray} {i : Nat} (hi : i < L.length) (h : ((keyAt L i).toList == key.toList) = true) : seenK L key.data.toList (i + 1) = true := by
  unfold seenK
  rw [any_step L _ i hi]
  unfold keyAt at h
  rw [keyS_toList, ByteArray.toList_eq] at h
  rw [h]
  simp
theorem seen_miss {L : List Key} {key : ByteArray} {i : Nat} (hi : i < L.length) (h : ((keyAt L i).toList == key.toList) = false) : seenK L key.data.toList (i + 1) = seenK L key.data.toList i := by
  unfold seenK
  rw [any_step L _ i hi]
  unfold keyAt at h
  rw [keyS_toList, ByteArray.toList_eq] at h
  rw [h]
  simp
theorem seen_stays {L : List Key} {k : Key} {i : Nat} (hi : i < L.length) (h : seenK L k i = true) : seenK L k (i + 1) = true := by
  unfold seenK at *
  rw [any_step L _ i hi, h]
  rfl
theorem seen_all {pa : PM} (hr : Rising pa) (k : Key) (now : Int) : seenK (pLive pa now) k (pLive pa now).length = (pFind pa k now).isSome := by
  unfold seenK
  rw [List.take_length]
  exact any_live hr k now
end Go.Proofs.Ytkdhafndngcamaa
