/-
  A map with string keys whose elements are whatever values: as a list of keys and elements, rising by key. Plain words over the kit's 'ownsMap'.
  DERIVED: THE SHELF's CONTRACTS AT THIS DUMP, IN PLAIN WORDS (tools/lay-plain.mjs out of 'YtcfdcianpicbmaaGreatLayMTry.lean', which tools/lay-shelf.mjs wrote): THE SAME DECLARATIONS UNDER THE SAME NAMES: 'import', 'namespace', 'open', 'def', 'theorem' AND NOTHING ELSE: no command of the shelf's: FOR A HAND-IN. Each laying: the table of numbers ('.._ren') and one theorem, a field a fact of the dump's own or the kernel's comparison; each contract: ONE APPLICATION.
  What the functions of package num answer: Clamp, told; the product of two numbers that are not below 0; a product by a number, rounded up, where the product is one of 63 bits.
  What the four limiters reckon: policies, states, and what each act makes of them, in plain Lean.
  Small laws for the walk of a region whose order is drawn: the operation is found by 'drop', the closed conditions pay themselves.
  What package bucket answers.
  A result that is a state: read out of its box.
  What gcra.in, gcra.Check and gcra.Right answer.
  What counter.Check answers.
  What window.Check answers.
  What limiter.of answers; limiter.Check.
  What limiter.Check answers.
  What a book of policies is, and what is done to it, in plain words.
  A book in memory; what New, Version, Get answer.
  DERIVED: THE SHELF's CONTRACTS AT THIS DUMP, IN PLAIN WORDS (tools/lay-plain.mjs out of 'YtcfdcianpicbmaaGreatLayNTry.lean', which tools/lay-shelf.mjs wrote): THE SAME DECLARATIONS UNDER THE SAME NAMES: 'import', 'namespace', 'open', 'def', 'theorem' AND NOTHING ELSE: no command of the shelf's: FOR A HAND-IN. Each laying: the table of numbers ('.._ren') and one theorem, a field a fact of the dump's own or the kernel's comparison; each contract: ONE APPLICATION.
  No condition.
-/
import Derived.Maps.OwnSet
import Derived.Maps.Ext
import Derived.Maps.RangeWalk
import Derived.Sort.KeysCollected
import Derived.WalkKit
import Derived.StringKeys
import Derived.Deep.Draws
import Derived.Shelf.SlGeneric
import Derived.Shelf.Bits.Mul64
import Derived.Ground.NamesProg
import Derived.Test.YtcfdcianpicbmaaGreatProg
import Derived.Deep.QuietTactic
import Derived.BigQuiet
import Derived.OwnWalk
import Derived.LaidEqlPtr
import Derived.WalkSpells
import Derived.WalkLawsBesides
import Derived.Handy
import Derived.Lib.Hide
import Derived.ProofKit
import Derived.Deep.RegionHeld3
import Derived.Deep.MidRow
import Derived.Deep.DeepCutAuto
import Derived.Laws.EntriesVeiled
import Derived.WideLaws
import Derived.Shelf.Strings.FuncGrows
import Derived.Ground.GgwProg
import Derived.Shelf.Small.Strs
import Derived.Shelf.Small.Utf8
namespace Go.Proofs.YtcfdcianpicbmaaGreat
open Go.RowKit Go.Maps
open Go (strKeys)
open Go.WideMaps (keyOf_string_mk)

/-- Whatever value stands in a map's element reads as itself. -/
def heldRd (v : Value) : Option (DataW Value × List MemPlace) := some (.held v, [])

abbrev Key := List UInt8
variable {β : Type}

def sIns (x : Key × β) : List (Key × β) → List (Key × β)
  | [] => [x]
  | y :: r => if bytesBefore x.1 y.1 then x :: y :: r else y :: sIns x r
def sDel (k : Key) (l : List (Key × β)) : List (Key × β) := l.filter fun x => !(x.1 == k)
def sPut (k : Key) (v : β) (l : List (Key × β)) : List (Key × β) := sIns (k, v) (sDel k l)
def sGet (k : Key) (l : List (Key × β)) : Option β := (l.find? fun x => x.1 == k).map (·.2)

/-- What such a map reads as. -/
def sD (f : β → Value) (m : List (Key × β)) : DataW Value := .map (m.map fun x => (.string x.1, .held (f x.2)))

theorem sD_ins (f : β → Value) (x : Key × β) : ∀ m : List (Key × β), (sIns x m).map (fun x => ((.string x.1, .held (f x.2)) : Lit × DataW Value)) = DataW.insert (.string x.1, .held (f x.2)) (m.map fun x => (.string x.1, .held (f x.2)))
  | [] => rfl
  | y :: r => by
    show _ = if bytesBefore x.1 y.1 then _ else _
    unfold sIns
    cases bytesBefore x.1 y.1
    · simp [sD_ins f x r]
    · simp
theorem sD_filter (f : β → Value) (k : Key) (m : List (Key × β)) : (m.map fun x => ((.string x.1, .held (f x.2)) : Lit × DataW Value)).filter (fun p => !p.1.sameKey (.string k)) = (sDel k m).map fun x => (.string x.1, .held (f x.2)) := by
  unfold sDel
  rw [List.filter_map]
  rfl
theorem sD_del (f : β → Value) (k : Key) (m : List (Key × β)) : (sD f m).del (.string k) = sD f (sDel k m) := by
  show DataW.map _ = DataW.map _
  rw [sD_filter]
theorem sD_put (f : β → Value) (k : Key) (v : β) (m : List (Key × β)) : (sD f m).put (.string k) (.held (f v)) = sD f (sPut k v m) := by
  show DataW.map (DataW.insert _ _) = DataW.map _
  rw [sD_filter]
  unfold sPut
  rw [sD_ins]
theorem sD_find (f : β → Value) (k : Key) (m : List (Key × β)) : (m.map fun x => ((.string x.1, .held (f x.2)) : Lit × DataW Value)).find? (fun p => p.1.sameKey (.string k)) = (m.find? fun x => x.1 == k).map fun x => (.string x.1, .held (f x.2)) := by
  rw [List.find?_map]
  rfl
theorem sD_atKey (f : β → Value) (k : Key) (m : List (Key × β)) (z : DataW Value) : (sD f m).atKey (.string k) z = ((sGet k m).map fun v => DataW.held (f v)).getD z := by
  simp only [DataW.atKey, sD]
  rw [sD_find]
  unfold sGet
  cases m.find? fun x => x.1 == k <;> rfl
theorem sD_has (f : β → Value) (k : Key) (m : List (Key × β)) : Maps.has (sD f m) (.string k) = (sGet k m).isSome := by
  show List.any _ _ = _
  rw [List.any_map]
  unfold sGet
  induction m with
  | nil => rfl
  | cons x r ih =>
    simp only [List.any_cons, List.find?_cons]
    show ((x.1 == k) || _) = _
    cases h : x.1 == k
    · simpa using ih
    · simp
theorem sD_size (f : β → Value) (m : List (Key × β)) : Maps.size (sD f m) = m.length := by show List.length _ = _; simp
theorem sD_keys (f : β → Value) (m : List (Key × β)) : strKeys (sD f m) = m.map (·.1) := by
  show List.map _ (List.map _ _) = _
  rw [List.map_map]
  rfl

/-- Rising by key. -/
def Rising (m : List (Key × β)) : Prop := m.Pairwise fun p q => bytesBefore p.1 q.1 = true
theorem Rising.of_canon {f : β → Value} {m : List (Key × β)} (h : Maps.Canon (sD f m)) : Rising m := by
  obtain ⟨es, he, hp, _⟩ := h
  have : (m.map fun x => ((.string x.1, .held (f x.2)) : Lit × DataW Value)) = es := by injection he
  subst this
  exact List.pairwise_map.1 hp
theorem Rising.nodup {m : List (Key × β)} (h : Rising m) : (m.map (·.1)).Nodup :=
  List.pairwise_map.2 (h.imp fun {p q} hb e => by
    have := WideAt.bytes_irrefl q.1
    rw [e] at hb
    rw [this] at hb
    cases hb)
theorem before_le : ∀ {a b : Key}, bytesBefore a b = true → a ≤ b
  | [], b, _ => List.nil_le b
  | x :: r, [], h => by simp [bytesBefore] at h
  | x :: r, y :: s, h => by
    simp only [bytesBefore, Bool.or_eq_true, Bool.and_eq_true, decide_eq_true_eq, beq_iff_eq] at h
    rcases h with h | ⟨rfl, h⟩
    · exact Std.le_of_lt (List.cons_lt_cons_iff.2 (.inl h))
    · have := before_le h
      exact List.cons_le_cons_iff.2 (.inr ⟨rfl, this⟩)
theorem Rising.sorted {m : List (Key × β)} (h : Rising m) {ss : List Key} (hp : ss.Perm (m.map (·.1))) : (ss.mergeSort fun x y => decide (x ≤ y)) = m.map (·.1) := by
  have e : ss.mergeSort leB = (m.map (·.1)).mergeSort leB := mergeSort_of_perm hp
  refine e.trans ?_
  refine List.mergeSort_of_pairwise ?_
  exact List.pairwise_map.2 (h.imp fun {p q} hb => by simp only [leB, decide_eq_true_eq]; exact before_le hb)

theorem sGet_none {k : Key} {m : List (Key × β)} : sGet k m = none ↔ ∀ x ∈ m, x.1 ≠ k := by
  unfold sGet
  rw [Option.map_eq_none_iff, List.find?_eq_none]
  simp
theorem sGet_mem {k : Key} {m : List (Key × β)} {v : β} (h : sGet k m = some v) : (k, v) ∈ m := by
  unfold sGet at h
  obtain ⟨x, hx, rfl⟩ := Option.map_eq_some_iff.1 h
  have h1 := List.mem_of_find?_eq_some hx
  have h2 := List.find?_some hx
  have : x.1 = k := by simpa using h2
  rw [← this]
  exact h1
theorem mem_sIns {x y : Key × β} {l : List (Key × β)} : y ∈ sIns x l ↔ y = x ∨ y ∈ l := by
  induction l with
  | nil => simp [sIns]
  | cons z r ih =>
    unfold sIns
    split
    · simp
    · simp [ih]; constructor <;> (rintro (h | h | h) <;> simp [h])
theorem mem_sDel {k : Key} {y : Key × β} {l : List (Key × β)} : y ∈ sDel k l ↔ y ∈ l ∧ y.1 ≠ k := by simp [sDel]
theorem mem_sPut {k : Key} {v : β} {y : Key × β} {l : List (Key × β)} : y ∈ sPut k v l ↔ y = (k, v) ∨ y ∈ l ∧ y.1 ≠ k := by unfold sPut; rw [mem_sIns, mem_sDel]
theorem sGet_of_mem {k : Key} {m : List (Key × β)} {v : β} (hn : (m.map (·.1)).Nodup) (h : (k, v) ∈ m) : sGet k m = some v := by
  induction m with
  | nil => cases h
  | cons x r ih =>
    rw [List.map_cons, List.nodup_cons] at hn
    unfold sGet
    rw [List.find?_cons]
    rcases List.mem_cons.1 h with rfl | h
    · simp
    · have : x.1 ≠ k := fun e => hn.1 (List.mem_map.2 ⟨(k, v), h, e.symm⟩)
      have e : (x.1 == k) = false := by simpa using this
      rw [e]
      exact ih hn.2 h
theorem sGet_put_same (k : Key) (v : β) (m : List (Key × β)) : sGet k (sPut k v m) = some v := by
  have hn : ∀ x ∈ sDel k m, x.1 ≠ k := fun x hx => (mem_sDel.1 hx).2
  unfold sPut
  generalize sDel k m = l at hn
  induction l with
  | nil => simp [sIns, sGet]
  | cons y r ih =>
    unfold sIns
    split
    · simp [sGet]
    · have e : (y.1 == k) = false := by simpa using hn y (by simp)
      have := ih (fun x hx => hn x (by simp [hx]))
      unfold sGet at this ⊢
      rw [List.find?_cons, e]
      exact this
theorem sGet_put_other {k k' : Key} (h : k' ≠ k) (v : β) (m : List (Key × β)) : sGet k' (sPut k v m) = sGet k' m := by
  unfold sPut
  have e0 : sGet k' (sDel k m) = sGet k' m := by
    unfold sGet sDel
    congr 1
    induction m with
    | nil => rfl
    | cons y r ih =>
      rw [List.filter_cons]
      cases h1 : y.1 == k
      · simp only [Bool.not_false, if_true, List.find?_cons]
        rw [ih]
      · have : y.1 = k := by simpa using h1
        have e : (y.1 == k') = false := by rw [this]; simpa using fun e => h e.symm
        simp only [Bool.not_true, Bool.false_eq_true, if_false, List.find?_cons, e]
        exact ih
  rw [← e0]
  generalize sDel k m = l
  induction l with
  | nil => simp [sIns, sGet, Ne.symm h]
  | cons y r ih =>
    unfold sIns
    split
    · have e : (k == k') = false := by simpa using fun e => h e.symm
      unfold sGet
      rw [List.find?_cons, e]
    · unfold sGet at ih ⊢
      rw [List.find?_cons, List.find?_cons]
      cases y.1 == k'
      · exact ih
      · rfl
theorem sGet_del_same (k : Key) (m : List (Key × β)) : sGet k (sDel k m) = none := sGet_none.2 fun _ hx => (mem_sDel.1 hx).2
theorem sIns_length (x : Key × β) : ∀ l : List (Key × β), (sIns x l).length = l.length + 1
  | [] => rfl
  | y :: r => by
    unfold sIns
    split
    · rfl
    · simp [sIns_length x r]
theorem sDel_of_none {k : Key} {m : List (Key × β)} (h : sGet k m = none) : sDel k m = m := by
  unfold sDel
  rw [List.filter_eq_self]
  intro x hx
  simpa using (sGet_none.1 h) x hx
theorem sDel_length {k : Key} : ∀ {m : List (Key × β)}, (m.map (·.1)).Nodup → (sGet k m).isSome → (sDel k m).length + 1 = m.length
  | [], _, h => by cases h
  | x :: r, hn, h => by
    rw [List.map_cons, List.nodup_cons] at hn
    unfold sDel
    rw [List.filter_cons]
    cases e : x.1 == k
    · simp only [Bool.not_false, if_true, List.length_cons]
      have h' : (sGet k r).isSome := by unfold sGet at h ⊢; rw [List.find?_cons, e] at h; exact h
      have := sDel_length hn.2 h'
      unfold sDel at this
      omega
    · have ek : x.1 = k := by simpa using e
      have : sGet k r = none := sGet_none.2 fun y hy e2 => hn.1 (List.mem_map.2 ⟨y, hy, e2.trans ek.symm⟩)
      have h2 := sDel_of_none this
      unfold sDel at h2
      simp [h2]
theorem sPut_length (k : Key) (v : β) {m : List (Key × β)} (hn : (m.map (·.1)).Nodup) : (sPut k v m).length = if (sGet k m).isSome then m.length else m.length + 1 := by
  unfold sPut
  rw [sIns_length]
  cases h : (sGet k m).isSome
  · have : sGet k m = none := by simpa using h
    rw [sDel_of_none this]
    simp
  · have := sDel_length hn h
    simp only [if_true]
    omega
theorem Rising.filter {m : List (Key × β)} (h : Rising m) (p : Key × β → Bool) : Rising (m.filter p) := List.Pairwise.filter p h
theorem Rising.ins {x : Key × β} {m : List (Key × β)} (h : Rising m) (hx : ∀ y ∈ m, y.1 ≠ x.1) : Rising (sIns x m) := by
  induction m with
  | nil => simp [sIns, Rising]
  | cons y r ih =>
    obtain ⟨h1, h2⟩ := List.pairwise_cons.1 h
    unfold sIns
    cases hb : bytesBefore x.1 y.1
    · have hyx : bytesBefore y.1 x.1 = true := by
        rcases WideAt.bytes_total y.1 x.1 (hx y (by simp)) with h | h
        · exact h
        · rw [hb] at h; cases h
      refine List.pairwise_cons.2 ⟨fun z hz => ?_, ih h2 (fun z hz => hx z (by simp [hz]))⟩
      rcases mem_sIns.1 hz with rfl | hz
      · exact hyx
      · exact h1 z hz
    · refine List.pairwise_cons.2 ⟨fun z hz => ?_, h⟩
      rcases List.mem_cons.1 hz with rfl | hz
      · exact hb
      · exact WideShapes.bytes_trans _ _ _ hb (h1 z hz)
theorem Rising.put {m : List (Key × β)} (h : Rising m) (k : Key) (v : β) : Rising (sPut k v m) := (h.filter _).ins fun _ hy => (mem_sDel.1 hy).2

/-- The elements, each turned. -/
def mapV {γ : Type} (g : β → γ) (m : List (Key × β)) : List (Key × γ) := m.map fun x => (x.1, g x.2)
theorem mapV_length {γ : Type} (g : β → γ) (m : List (Key × β)) : (mapV g m).length = m.length := by simp [mapV]
theorem mapV_mem {γ : Type} {g : β → γ} {m : List (Key × β)} {y : Key × γ} : y ∈ mapV g m ↔ ∃ x ∈ m, (x.1, g x.2) = y := by simp [mapV]
theorem sGet_map {γ : Type} (g : β → γ) (k : Key) (m : List (Key × β)) : sGet k (mapV g m) = (sGet k m).map g := by
  unfold sGet mapV
  rw [List.find?_map]
  show Option.map _ (Option.map _ (List.find? (fun x => x.1 == k) m)) = _
  cases List.find? (fun x => x.1 == k) m <;> rfl
theorem filter_map {γ : Type} (g : β → γ) (p : Key × γ → Bool) (m : List (Key × β)) : (mapV g m).filter p = mapV g (m.filter fun x => p (x.1, g x.2)) := by
  unfold mapV
  rw [List.filter_map]
  rfl
theorem sDel_map {γ : Type} (g : β → γ) (k : Key) (m : List (Key × β)) : sDel k (mapV g m) = mapV g (sDel k m) := filter_map g _ m
theorem sIns_map {γ : Type} (g : β → γ) (x : Key × β) : ∀ m : List (Key × β), sIns (x.1, g x.2) (mapV g m) = mapV g (sIns x m)
  | [] => rfl
  | y :: r => by
    show sIns (x.1, g x.2) ((y.1, g y.2) :: mapV g r) = _
    unfold sIns
    split
    · simp [mapV]
    · rw [sIns_map g x r]
      simp [mapV]
theorem sPut_map {γ : Type} (g : β → γ) (k : Key) (v : β) (m : List (Key × β)) : sPut k (g v) (mapV g m) = mapV g (sPut k v m) := by
  unfold sPut
  rw [sDel_map]
  exact sIns_map g (k, v) _
theorem Rising.mapV {γ : Type} {m : List (Key × β)} (h : Rising m) (g : β → γ) : Rising (mapV g m) := List.pairwise_map.2 h

/-! ### The operations, as run equations for the walk -/
section
variable {P : Program} {k t e : TypeId} {w : World} {b n : Nat} {f : β → Value} {m : List (Key × β)}
/-- 'm[k]'. -/
theorem run_look (h : w.ownsMap P k heldRd b n (sD f m)) (hk : P.underlying k = some .string) (ht : P.underlying t = some (.map k e)) {z : Value} (hz : (zeroValue e).run P w = .ok z w) (s : ByteArray) (hs : s.size ≤ maxLen) :
    (Instr.lookup t (.map (some b)) (.string s) false).run P w = .ok (((sGet s.data.toList m).map f).getD z) w := by
  obtain ⟨v, ps, hr, hv⟩ := h.lookup (string_keyed hk) ht hz (zd := .held z) (zp := []) rfl (key := .string s) (kl := .string s.data.toList) (keyOf_string_mk hk hs)
  rw [sD_atKey] at hv
  rw [hr]
  have e1 : DataW.held v = ((sGet s.data.toList m).map fun v => DataW.held (f v)).getD (.held z) := (congrArg Prod.fst (Option.some.inj hv))
  congr 1
  cases hg : sGet s.data.toList m with
  | none => rw [hg] at e1; simpa using e1
  | some c => rw [hg] at e1; simpa using e1
/-- 'v, ok := m[k]'. -/
theorem run_look_ok (h : w.ownsMap P k heldRd b n (sD f m)) (hk : P.underlying k = some .string) (ht : P.underlying t = some (.map k e)) {z : Value} (hz : (zeroValue e).run P w = .ok z w) (s : ByteArray) (hs : s.size ≤ maxLen) :
    (Instr.lookup t (.map (some b)) (.string s) true).run P w = .ok (.tuple #[((sGet s.data.toList m).map f).getD z, .bool (sGet s.data.toList m).isSome]) w := by
  obtain ⟨v, ps, hr, hv⟩ := h.look_ok (string_keyed hk) ht hz (zd := .held z) (zp := []) rfl (key := .string s) (kl := .string s.data.toList) (keyOf_string_mk hk hs)
  rw [sD_atKey] at hv
  rw [sD_has] at hr
  rw [hr]
  have e1 : DataW.held v = ((sGet s.data.toList m).map fun v => DataW.held (f v)).getD (.held z) := (congrArg Prod.fst (Option.some.inj hv))
  have e2 : v = ((sGet s.data.toList m).map f).getD z := by
    cases hg : sGet s.data.toList m with
    | none => rw [hg] at e1; simpa using e1
    | some c => rw [hg] at e1; simpa using e1
  rw [e2]
theorem own_tight (h : w.ownsMap P k heldRd b n (sD f m)) : w.ownsMap P k heldRd b m.length (sD f m) := by
  obtain ⟨es, clock, hb, F, hs, hD⟩ := h
  refine ⟨es, clock, hb, F, ?_, hD⟩
  have := congrArg Maps.size hD
  rw [sD_size] at this
  rw [this]
  simp [Maps.size, length_sorted]
theorem own_rise (h : w.ownsMap P k heldRd b n (sD f m)) (hk : P.underlying k = some .string) : Rising m := Rising.of_canon (h.canon (string_keyed hk))
theorem own_keys (h : w.ownsMap P k heldRd b n (sD f m)) (hk : P.underlying k = some .string) : ∀ x ∈ m, x.1.length ≤ maxLen := fun x hx =>
  strKeys_le h hk x.1 (by rw [sD_keys]; exact List.mem_map.2 ⟨x, hx, rfl⟩)
theorem own_frame {w' : World} (h : w.ownsMap P k heldRd b n (sD f m)) (hb : w'.heap[b]? = w.heap[b]?) : w'.ownsMap P k heldRd b n (sD f m) := by
  obtain ⟨es, clock, hbb, r⟩ := h
  exact ⟨es, clock, hb.trans hbb, r⟩
theorem run_len_map (h : w.ownsMap P k heldRd b n (sD f m)) (ht : P.underlying t = some (.map k e)) (ty : TypeId) : (Builtin.len_ #[t] ty #[.map (some b)]).run P w = .ok (.int .i64 m.length) w := by
  rw [h.len ht ty, sD_size]
end

theorem drew_ranges {P : Program} {k : TypeId} {w : World} {b r n : Nat} {D : DataW Value} {left : Lit → Bool} {cnt : Nat} (h : w.ranges P k heldRd b r n D left cnt) (q : Nat) : (w.drewN q).ranges P k heldRd b r n D left cnt := h

/-- A range's step, at the operation. -/
theorem wpList_next_sD {P : Program} (w : World) {ops : Array Oper} {rest : List Oper} {o : Oper} {a : Act} {Q : Exit → Act → World → Prop} (hg : o.guard = none) (it : Operand) (hop : o.op = Op.next it false) (k : TypeId) (hk : P.underlying k = some .string)
    (f : β → Value) (b r n : Nat) (m : List (Key × β)) (left : Lit → Bool) (cnt : Nat) (hit : a.eval it = .pointer (some ⟨r, 0, none⟩)) (h : w.ranges P k heldRd b r n (sD f m) left cnt)
    (hDone : (∀ kl, left kl = false) → wpList P ops Q rest (a.put o.dst (.tuple #[.bool false])) w)
    (hMore : ∀ (s : ByteArray) (c : β) (w' : World) (cnt' : Nat), s.size ≤ maxLen → (s.data.toList, c) ∈ m → left (.string s.data.toList) = true → w'.ranges P k heldRd b r n (sD f m) (fun z => left z && !z.sameKey (.string s.data.toList)) cnt' → cnt' < cnt →
      w.grownBy w' (some r) → w'.heap.size = w.heap.size → (Instr.entry (.pointer (some ⟨r, 0, none⟩))).run P w' = .ok (.tuple #[.string s, f c]) w' → wpList P ops Q rest (a.put o.dst (.tuple #[.bool true, .string s, f c])) w') :
    wpList P ops Q (o :: rest) a w := by
  refine wpList_next_ranges (α := ByteArray) (β := Value) w hg it hop k (string_keyed hk) heldRd Value.string id (fun key kl hkey => ?_) (fun v y _ => ⟨v, rfl⟩) b r n _ left cnt hit h (fun _ hl => hDone hl) ?_
  · obtain ⟨s, hs, _⟩ := WideMaps.string_of_keyOf hk hkey
    exact ⟨s, hs⟩
  · intro s c kl y w' cnt' hkey hlk hv hat hrg hlt hgr hsz hen
    obtain ⟨s', hs', rfl, hle⟩ := WideMaps.string_of_keyOf hk hkey
    injection hs' with hs'
    subst hs'
    have h1 := hat .nil
    rw [sD_atKey] at h1
    have hy : y = (.held c, []) := (Option.some.inj hv).symm
    subst hy
    cases hgt : sGet s.data.toList m with
    | none =>
      rw [hgt] at h1
      cases h1
    | some x =>
      rw [hgt] at h1
      have hx : f x = c := by injection h1
      subst hx
      exact hMore s x w' cnt' hle (sGet_mem hgt) hlk hrg hlt hgr hsz hen
end Go.Proofs.YtcfdcianpicbmaaGreat

namespace Go.Proofs
open Go.Shelf
def Tryz.mulL_ren : Go.Shelf.Ren := ⟨fun | 264 => 197 | n => n, fun | 53 => 125 | 46 => 128 | n => n, fun | n => n⟩
theorem Tryz.mulL : Go.Proofs.Lays.n264 Tryz.prog Tryz.mulL_ren := {
  mixed := by kernel_rfl
  f264 := Tryz.func197.trans (congrArg some (by kernel_rfl))
  t46 := Tryz.underlying128
  a46 := Tryz.isAgg128
  z46 := Tryz.sizeOf128
  v46 := Tryz.zeroValue128
  t53 := Tryz.underlying125
  a53 := Tryz.isAgg125
  z53 := Tryz.sizeOf125
  v53 := Tryz.zeroValue125 }
end Go.Proofs

namespace Go.Proofs.YtcfdcianpicbmaaGreat
open Go.RowKit

/-- A time, clipped. -/
def clampT (t : Int) : Int := if t < 0 then 0 else if 9007199254740992 < t then 9007199254740992 else t
theorem clampT_range (t : Int) : 0 ≤ clampT t ∧ clampT t ≤ 9007199254740992 := by unfold clampT; split <;> (try split) <;> omega
theorem clampT_id {t : Int} (h0 : 0 ≤ t) (h1 : t ≤ 9007199254740992) : clampT t = t := by unfold clampT; split <;> (try split) <;> omega

set_option maxHeartbeats 400000 in
theorem clamp_any (t : Int) (w : World) : Calls Tryz.prog 160 #[.int .i64 t] w fun e w' => e = .returned (.int .i64 (clampT t)) ∧ w = w' := by
  have e : clampT t = max 0 (min t 9007199254740992) := by unfold clampT; split <;> (try split) <;> omega
  rw [e]
  clear e
  go_enter Tryz.func160, Tryz.ntmps160
  go_wp2
  all_goals
    go_ret
    first | exact ⟨rfl, rfl⟩ | exact ⟨congrArg (fun x => Ending.returned (.int .i64 x)) (by omega), rfl⟩

set_option maxHeartbeats 400000 in
theorem told_any (n : Int) (ok : Bool) (w : World) : Calls Tryz.prog 76 #[.int .i64 n, .bool ok] w fun e w' => e = .returned (.tuple #[.int .i64 (if ok then n else 0), .bool ok]) ∧ w = w' := by
  cases ok
  all_goals
    go_enter Tryz.func76, Tryz.ntmps76
    go_wp2
    go_ret2
    exact ⟨rfl, rfl⟩


theorem bl_refl (w : World) : Below w.heap.size w w := Below.refl _ _
theorem bl_alloc {w W : World} (h : Below w.heap.size w W) (o : Obj) : Below w.heap.size w (W.alloc o) := h.alloc h.size o
theorem bl_drewN {w W : World} (h : Below w.heap.size w W) (n : Nat) : Below w.heap.size w (W.drewN n) := ⟨h.os, h.tape, h.output, h.size, h.block⟩
theorem bl_drew {w W : World} (h : Below w.heap.size w W) : Below w.heap.size w W.drew := ⟨h.os, h.tape, h.output, h.size, h.block⟩
theorem bl_then {w w1 w2 : World} (h : Below w.heap.size w w1) (k : Below w1.heap.size w1 w2) : Below w.heap.size w w2 := h.trans (k.mono h.size)

theorem bl_cell {w W : World} (h : Below w.heap.size w W) {b o : Nat} {i : Option Nat} {v : Value} (hc : w.cell? ⟨b, o, i⟩ = some v) : W.cell? ⟨b, o, i⟩ = some v := by
  have hb : b < w.heap.size := World.block_lt_of_cell? w _ hc
  rw [← hc]
  simp only [World.cell?, h.block b hb]

set_option maxHeartbeats 400000 in
theorem size_nat (x : Nat) (hx : x ≤ 9223372036854775807) (w : World) : Calls Tryz.prog 198 #[.int .i64 (x : Int)] w fun e w' => e = .returned (.int .u64 (x : Int)) ∧ w = w' := by
  have h0 : ¬ (x : Int) < 0 := by omega
  have h1 : (x : Int) < 18446744073709551616 := by omega
  have h2 : IntKind.u64.wrap (x : Int) = (x : Int) := by rw [IntKind.wrap_u64]; omega
  go_enter Tryz.func198, Tryz.ntmps198
  go_wp2
  go_ret
  exact ⟨rfl, rfl⟩

theorem mul64_nat (x y : Nat) (hx : x ≤ 9223372036854775807) (hy : y ≤ 9223372036854775807) (w : World) :
    Calls Tryz.prog 197 #[.int .u64 (x : Int), .int .u64 (y : Int)] w fun e w' => e = .returned (.tuple #[.int .u64 ((x * y / 18446744073709551616 : Nat) : Int), .int .u64 ((x * y % 18446744073709551616 : Nat) : Int)]) ∧ w = w' :=
  (Any.bits_Mul64 Tryz.mulL x y (by omega) (by omega) w).mono fun _ _ h => ⟨h.1, h.2.symm⟩

/-- Is a product one of 63 bits? -/
def mulOk (a b : Int) : Bool := decide (a * b ≤ 9223372036854775807)
def mulN (a b : Int) : Int := if mulOk a b then a * b else 0

set_option maxHeartbeats 400000 in
theorem mul_parts (x y : Nat) (H L : Int) (hx : x ≤ 9223372036854775807) (hy : y ≤ 9223372036854775807) (w : World) (r : Int) (ok : Bool)
    (hH : ((x * y / 18446744073709551616 : Nat) : Int) = H) (hL : ((x * y % 18446744073709551616 : Nat) : Int) = L) (hL1 : 0 ≤ L) (hL2 : L < 18446744073709551616)
    (hr : H = 0 ∧ L ≤ 9223372036854775807 ∧ r = L ∧ ok = true ∨ r = 0 ∧ ok = false ∧ (0 < H ∨ H = 0 ∧ 9223372036854775808 ≤ L)) :
    Calls Tryz.prog 183 #[.int .i64 (x : Int), .int .i64 (y : Int)] w fun e w' => e = .returned (.tuple #[.int .i64 r, .bool ok]) ∧ w = w' := by
  have h0 : ¬ (x : Int) < 0 := by omega
  have h1 : ¬ (y : Int) < 0 := by omega
  have hm := mul64_nat x y hx hy
  rw [hH, hL] at hm
  have HM := Go.Lib.hid hm
  have HSX := Go.Lib.hid (size_nat x hx)
  have HSY := Go.Lib.hid (size_nat y hy)
  clear hm hx hy hH hL
  rcases hr with ⟨rfl, hl, rfl, rfl⟩ | ⟨rfl, rfl, hh | ⟨rfl, hl⟩⟩
  · have e1 : ¬ (9223372036854775808 : Int) < r := by omega
    have e2 : ¬ r = 9223372036854775808 := by omega
    have e3 : IntKind.i64.wrap r = r := IntWalk.i64_in _ (by omega)
    go_enter Tryz.func183, Tryz.ntmps183
    go_wp2_with fail
    refine (HSX.out _).mono ?_
    rintro e w' ⟨rfl, rfl⟩
    go_wp2_with fail
    refine (HSY.out _).mono ?_
    rintro e w' ⟨rfl, rfl⟩
    go_wp2_with fail
    refine (HM.out _).mono ?_
    rintro e w' ⟨rfl, rfl⟩
    go_wp2
    go_ret2
    exact ⟨rfl, rfl⟩
  · have e1 : (0 : Int) < H := by omega
    go_enter Tryz.func183, Tryz.ntmps183
    go_wp2_with fail
    refine (HSX.out _).mono ?_
    rintro e w' ⟨rfl, rfl⟩
    go_wp2_with fail
    refine (HSY.out _).mono ?_
    rintro e w' ⟨rfl, rfl⟩
    go_wp2_with fail
    refine (HM.out _).mono ?_
    rintro e w' ⟨rfl, rfl⟩
    go_wp2
    go_ret2
    exact ⟨rfl, rfl⟩
  · by_cases e1 : (9223372036854775808 : Int) < L
    · go_enter Tryz.func183, Tryz.ntmps183
      go_wp2_with fail
      refine (HSX.out _).mono ?_
      rintro e w' ⟨rfl, rfl⟩
      go_wp2_with fail
      refine (HSY.out _).mono ?_
      rintro e w' ⟨rfl, rfl⟩
      go_wp2_with fail
      refine (HM.out _).mono ?_
      rintro e w' ⟨rfl, rfl⟩
      go_wp2
      go_ret2
      exact ⟨rfl, rfl⟩
    · have e2 : L = 9223372036854775808 := by omega
      go_enter Tryz.func183, Tryz.ntmps183
      go_wp2_with fail
      refine (HSX.out _).mono ?_
      rintro e w' ⟨rfl, rfl⟩
      go_wp2_with fail
      refine (HSY.out _).mono ?_
      rintro e w' ⟨rfl, rfl⟩
      go_wp2_with fail
      refine (HM.out _).mono ?_
      rintro e w' ⟨rfl, rfl⟩
      go_wp2
      go_ret2
      exact ⟨rfl, rfl⟩

theorem mul_any (a b : Int) (ha : 0 ≤ a) (hA : a ≤ 9223372036854775807) (hb : 0 ≤ b) (hB : b ≤ 9223372036854775807) (w : World) :
    Calls Tryz.prog 183 #[.int .i64 a, .int .i64 b] w fun e w' => e = .returned (.tuple #[.int .i64 (mulN a b), .bool (mulOk a b)]) ∧ w = w' := by
  obtain ⟨x, rfl⟩ := Int.eq_ofNat_of_zero_le ha
  obtain ⟨y, rfl⟩ := Int.eq_ofNat_of_zero_le hb
  have hp : (x : Int) * (y : Int) = ((x * y : Nat) : Int) := (Int.natCast_mul x y).symm
  refine mul_parts x y _ _ (by omega) (by omega) w _ _ rfl rfl (by omega) (by omega) ?_
  unfold mulN mulOk
  rw [hp]
  generalize x * y = P
  by_cases h : (P : Int) ≤ 9223372036854775807
  · left
    rw [decide_eq_true h]
    exact ⟨by omega, by omega, by simp; omega, rfl⟩
  · right
    rw [decide_eq_false h]
    exact ⟨by simp, rfl, by omega⟩

set_option maxHeartbeats 400000 in
theorem div64_low (n c : Nat) (hn : (n : Int) ≤ 9223372036854775807) (hc : 0 < (c : Int)) (hC : (c : Int) ≤ 9223372036854775807) (w : World) :
    Calls Tryz.prog 211 #[.int .u64 0, .int .u64 (n : Int), .int .u64 (c : Int)] w fun e w' => e = .returned (.tuple #[.int .u64 (n / c : Nat), .int .u64 (n % c : Nat)]) ∧ ∃ k, w' = w.drewN k := by
  have h0 : ¬ (c : Int) = 0 := by omega
  have h1 : ¬ (c : Int) ≤ 0 := by omega
  have h2 : 0 ≤ (n : Int) := by omega
  rw [Int.natCast_ediv, Int.natCast_emod]
  have a0 : 0 ≤ (n : Int) / (c : Int) := Int.ediv_nonneg h2 (by omega)
  have a1 : (n : Int) / (c : Int) ≤ n := Int.ediv_le_self _ h2
  have a2 : 0 ≤ (n : Int) % (c : Int) := Int.emod_nonneg _ h0
  have a3 : (n : Int) % (c : Int) < c := Int.emod_lt_of_pos _ hc
  go_enter Tryz.func211, Tryz.ntmps211
  go_wp2_with fail
  go_quiet (fail)
  go_wp2
  go_ret2
  exact ⟨rfl, _, rfl⟩

set_option maxHeartbeats 400000 in
theorem divided_nat (x y c n : Nat) (hx : x ≤ 9223372036854775807) (hy : y ≤ 9223372036854775807) (hn : x * y = n) (hN : (n : Int) ≤ 9223372036854775807) (hc : 0 < (c : Int)) (hC : (c : Int) ≤ 9223372036854775807) (w : World) :
    Calls Tryz.prog 199 #[.int .i64 (x : Int), .int .i64 (y : Int), .int .i64 (c : Int)] w fun e w' => e = .returned (.tuple #[.int .u64 (n / c : Nat), .int .u64 (n % c : Nat), .bool true]) ∧ ∃ k, w' = w.drewN k := by
  have hm := mul64_nat x y hx hy
  rw [hn, show n / 18446744073709551616 = 0 by omega, show n % 18446744073709551616 = n by omega, show ((0 : Nat) : Int) = 0 from rfl] at hm
  have HM := Go.Lib.hid hm
  have HD := Go.Lib.hid (div64_low n c hN hc hC)
  have h0 : ¬ (x : Int) < 0 := by omega
  have h1 : ¬ (y : Int) < 0 := by omega
  have h2 : ¬ (c : Int) ≤ 0 := by omega
  have h3 : IntKind.u64.wrap (x : Int) = (x : Int) := by rw [IntKind.wrap_u64]; omega
  have h4 : IntKind.u64.wrap (y : Int) = (y : Int) := by rw [IntKind.wrap_u64]; omega
  have h5 : IntKind.u64.wrap (c : Int) = (c : Int) := by rw [IntKind.wrap_u64]; omega
  generalize ((n / c : Nat) : Int) = Q at *
  generalize ((n % c : Nat) : Int) = R at *
  clear hm hx hy hn
  generalize (x : Int) = X at *
  generalize (y : Int) = Y at *
  generalize (c : Int) = C at *
  generalize (n : Int) = M at *
  clear hN
  by_cases hxy : Y < X
  all_goals
    go_enter Tryz.func199, Tryz.ntmps199
    go_wp2_with fail
    refine (HM.out _).mono ?_
    rintro e w' ⟨rfl, rfl⟩
    go_wp2_with fail
    refine (HD.out _).mono ?_
    rintro e w' ⟨rfl, k, rfl⟩
    go_wp2
    go_ret3
    exact ⟨rfl, _, rfl⟩

set_option maxHeartbeats 400000 in
theorem up_any (p q : Nat) (n r : Int) (hn0 : 0 ≤ n) (hn : n ≤ 9223372036854775807) (w : World) (c1 : w.cell? ⟨q, 0, none⟩ = some (.int .u64 r)) (c2 : w.cell? ⟨p, 0, none⟩ = some (.int .u64 n)) :
    Calls Tryz.prog 200 #[.pointer (some ⟨q, 0, none⟩), .pointer (some ⟨p, 0, none⟩)] w fun e w' => e = .returned (.int .u64 (if 0 < r then n + 1 else n)) ∧ w = w' := by
  have hw : IntKind.u64.wrap (n + 1) = n + 1 := by rw [IntKind.wrap_u64]; omega
  by_cases hr : 0 < r
  · rw [if_pos hr]
    go_enter Tryz.func200, Tryz.ntmps200
    go_wp2
    go_ret
    exact ⟨rfl, rfl⟩
  · rw [if_neg hr]
    go_enter Tryz.func200, Tryz.ntmps200
    go_wp2
    go_ret
    exact ⟨rfl, rfl⟩

set_option maxHeartbeats 400000 in
theorem whole_nat (x y c n : Nat) (hx : x ≤ 9223372036854775807) (hy : y ≤ 9223372036854775807) (hn : x * y = n) (hN : (n : Int) ≤ 4611686018427387904) (hc : 0 < (c : Int)) (hC : (c : Int) ≤ 9223372036854775807) (w : World) :
    Calls Tryz.prog 184 #[.int .i64 (x : Int), .int .i64 (y : Int), .int .i64 (c : Int)] w fun e w' => e = .returned (.tuple #[.int .i64 (((n + c - 1) / c : Nat) : Int), .bool true]) ∧ Below w.heap.size w w' := by
  have hd := divided_nat x y c n hx hy hn (by omega) hc hC
  have HD := Go.Lib.hid hd
  have e0 : (if (0 : Int) < ((n % c : Nat) : Int) then ((n / c : Nat) : Int) + 1 else ((n / c : Nat) : Int)) = (((n + c - 1) / c : Nat) : Int) := by
    have hc' : 0 < c := by omega
    have hdm := Nat.div_add_mod n c
    have hlt := Nat.mod_lt n hc'
    by_cases h0 : n % c = 0
    · rw [h0, if_neg (by simp)]
      congr 1
      have : n + c - 1 = (c - 1) + c * (n / c) := by omega
      rw [this, Nat.add_mul_div_left _ _ hc', Nat.div_eq_of_lt (show c - 1 < c by omega)]; omega
    · rw [if_pos (by omega)]
      have : n + c - 1 = (n % c - 1) + c * (n / c + 1) := by rw [Nat.mul_add]; omega
      rw [this, Nat.add_mul_div_left _ _ hc', Nat.div_eq_of_lt (show n % c - 1 < c by omega)]; omega
  have a1 : (0 : Int) ≤ ((n / c : Nat) : Int) := Int.natCast_nonneg _
  have a2 : ((n / c : Nat) : Int) ≤ 4611686018427387904 := by have := Nat.div_le_self n c; omega
  have a3 : (0 : Int) ≤ (((n + c - 1) / c : Nat) : Int) := Int.natCast_nonneg _
  have a4 : (((n + c - 1) / c : Nat) : Int) ≤ 4611686018427387905 := by rw [← e0]; split <;> omega
  generalize (((n + c - 1) / c : Nat) : Int) = U at *
  generalize ((n / c : Nat) : Int) = Q at *
  generalize ((n % c : Nat) : Int) = R at *
  clear hd hN hn hx hy hc hC
  generalize (x : Int) = X at *
  generalize (y : Int) = Y at *
  generalize (c : Int) = C at *
  have HU := Go.Lib.hid e0
  have hw : IntKind.i64.wrap U = U := IntWalk.i64_in _ (by omega)
  have hs : ∀ z : Int, 0 ≤ z → z ≤ 4611686018427387905 → z / 9223372036854775808 = 0 := by intro z h0 h1; omega
  have s1 : Q / 9223372036854775808 = 0 := by omega
  have s2 : U / 9223372036854775808 = 0 := by omega
  clear e0
  go_enter Tryz.func184, Tryz.ntmps184
  go_wp2_with fail
  refine (HD.out _).mono ?_
  rintro e w' ⟨rfl, k, rfl⟩
  have hb : Below w.heap.size w (w.drewN k) := bl_drewN (bl_refl w) k
  generalize w.drewN k = w1 at *
  go_wp2_with fail
  refine (up_any _ _ Q R a1 (by omega) _ (by go_simp) (by go_simp)).mono ?_
  rw [HU.out]
  rintro e w' ⟨rfl, rfl⟩
  go_wp2_with fail
  refine (up_any _ _ Q R a1 (by omega) _ (by go_simp) (by go_simp)).mono ?_
  rw [HU.out]
  rintro e w' ⟨rfl, rfl⟩
  go_wp2_with fail
  refine (told_any _ _ _).mono ?_
  rintro e w' ⟨rfl, rfl⟩
  go_wp2
  go_ret2
  exact ⟨rfl, bl_alloc (bl_alloc hb _) _⟩
end Go.Proofs.YtcfdcianpicbmaaGreat

namespace Go.Proofs.YtcfdcianpicbmaaGreat
set_option linter.unusedVariables false
set_option linter.unusedSimpArgs false

/-- A policy. -/
structure Pol where
  kind : Int
  limit : Int
  period : Int
  burst : Int
  cap : Int
  opn : Bool
/-- A state. -/
structure St where
  at_ : Int
  level : Int
  held : Int
  log : List (Int × Int)
/-- An act. -/
structure Ac where
  kind : Int
  now : Int
  cost : Int
def St.none : St := ⟨0, 0, 0, []⟩
def up (a b : Int) : Int := if a < b then b else a
def dn (a b : Int) : Int := if b < a then b else a
/-- A number by another, rounded up; 0 below 0. -/
def ceilD (n d : Int) : Int := if n ≤ 0 then 0 else (n + d - 1) / d

/-! ### bucket -/
def okB (p : Pol) : Prop := p.kind = 1 ∧ 1 ≤ p.limit ∧ 1 ≤ p.burst ∧ 1 ≤ p.period ∧ p.limit ≤ 1048576 ∧ p.burst ≤ 1048576 ∧ p.period ≤ 1099511627776 ∧ p.cap = 0
instance (p : Pol) : Decidable (okB p) := by unfold okB; infer_instance
def rightB (p : Pol) (s : St) : Prop := okB p ∧ 0 ≤ s.at_ ∧ s.at_ ≤ 9007199254740992 ∧ 0 ≤ s.held ∧ s.held ≤ p.burst ∧ 0 ≤ s.level ∧ s.level ≤ (p.burst - s.held) * p.period ∧ s.log = []
instance (p : Pol) (s : St) : Decidable (rightB p s) := by unfold rightB; infer_instance
def advB (p : Pol) (s : St) (now : Int) : St :=
  if rightB p s then ⟨up s.at_ (clampT now), s.level + dn (p.limit * (up s.at_ (clampT now) - s.at_)) ((p.burst - s.held) * p.period - s.level), s.held, []⟩ else St.none
def newB (p : Pol) (now : Int) : St := if okB p then ⟨clampT now, p.burst * p.period, 0, []⟩ else St.none
def roomB (p : Pol) (s : St) (now : Int) : Int := if rightB p s then (advB p s now).level / p.period else 0
def actB (p : Pol) (t : St) (a : Ac) : St × Bool :=
  if a.kind = 1 then ({ t with level := t.level - a.cost * p.period }, decide (0 ≤ t.level - a.cost * p.period))
  else if a.kind = 2 then ({ t with level := t.level - a.cost * p.period, held := t.held + a.cost }, decide (0 ≤ t.level - a.cost * p.period))
  else if a.kind = 3 then ({ t with level := t.level + a.cost * p.period, held := t.held - a.cost }, decide (0 ≤ t.held - a.cost))
  else if a.kind = 4 then ({ t with held := t.held - a.cost }, decide (0 ≤ t.held - a.cost))
  else (t, false)
def doB (p : Pol) (s : St) (a : Ac) : St × Bool :=
  if rightB p s then
    if a.cost < 1 ∨ p.burst < a.cost ∨ (actB p (advB p s a.now) a).2 = false then (s, false) else actB p (advB p s a.now) a
  else (St.none, false)
def untilB (p : Pol) (s : St) (now : Int) : Int := if rightB p s ∧ s.held ≤ 0 then ceilD (p.burst * p.period - (advB p s now).level) p.limit else -1
def retryB (p : Pol) (s : St) (now cost : Int) : Int × Bool :=
  if rightB p s ∧ 1 ≤ cost ∧ cost ≤ p.burst - s.held then (ceilD (cost * p.period - (advB p s now).level) p.limit, true) else (0, false)

/-! ### gcra -/
def okG (p : Pol) : Prop := p.kind = 2 ∧ p.cap = 0 ∧ 1 ≤ p.limit ∧ p.limit ≤ 1048576 ∧ 1 ≤ p.burst ∧ p.burst ≤ 1048576 ∧ 1 ≤ p.period ∧ p.period ≤ 1099511627776
instance (p : Pol) : Decidable (okG p) := by unfold okG; infer_instance
def rightG (p : Pol) (s : St) : Prop := okG p ∧ 0 ≤ s.at_ ∧ s.at_ ≤ 9007199254740992 ∧ 0 ≤ s.held ∧ s.held ≤ p.burst ∧ s.held * p.period ≤ s.level ∧ s.level ≤ p.burst * p.period ∧ s.log = []
instance (p : Pol) (s : St) : Decidable (rightG p s) := by unfold rightG; infer_instance
def advG (p : Pol) (s : St) (now : Int) : St :=
  if rightG p s then ⟨up s.at_ (clampT now), up (s.level - (up s.at_ (clampT now) - s.at_) * p.limit) (s.held * p.period), s.held, []⟩ else St.none
def newG (p : Pol) (now : Int) : St := if okG p then ⟨clampT now, 0, 0, []⟩ else St.none
def roomG (p : Pol) (s : St) (now : Int) : Int := if rightG p s then (p.burst * p.period - (advG p s now).level) / p.period else 0
def actG (p : Pol) (t : St) (a : Ac) : St :=
  if a.kind = 1 then { t with level := t.level + a.cost * p.period }
  else if a.kind = 2 then { t with level := t.level + a.cost * p.period, held := t.held + a.cost }
  else if a.kind = 3 then { t with level := t.level - a.cost * p.period, held := t.held - a.cost }
  else { t with held := t.held - a.cost }
def doG (p : Pol) (s : St) (a : Ac) : St × Bool :=
  if rightG p s then
    if a.cost < 1 ∨ p.burst < a.cost ∨ a.kind < 1 ∨ 4 < a.kind ∨ (actG p (advG p s a.now) a).held < 0 ∨ p.burst * p.period < (actG p (advG p s a.now) a).level then (s, false) else (actG p (advG p s a.now) a, true)
  else (St.none, false)
def untilG (p : Pol) (s : St) (now : Int) : Int := if rightG p s ∧ s.held ≤ 0 then ceilD (advG p s now).level p.limit else -1
def retryG (p : Pol) (s : St) (now cost : Int) : Int × Bool :=
  if rightG p s ∧ 1 ≤ cost ∧ cost ≤ p.burst - s.held then (ceilD ((advG p s now).level - (p.burst - cost) * p.period) p.limit, true) else (0, false)

/-! ### window -/
def sumL : List (Int × Int) → Int
  | [] => 0
  | e :: l => e.2 + sumL l
def okL (p : Pol) : Prop := p.kind = 3 ∧ 1 ≤ p.limit ∧ 1 ≤ p.period ∧ 1 ≤ p.cap ∧ p.limit ≤ 1048576 ∧ p.period ≤ 1099511627776 ∧ p.cap ≤ 100 ∧ p.burst = 0
instance (p : Pol) : Decidable (okL p) := by unfold okL; infer_instance
/-- Entries that rise, till some time. -/
def risen (limit at_ : Int) : Int → List (Int × Int) → Prop
  | _, [] => True
  | was, e :: l => was ≤ e.1 ∧ e.1 ≤ at_ ∧ 1 ≤ e.2 ∧ e.2 ≤ limit ∧ risen limit at_ e.1 l
instance risen_dec (limit at_ : Int) : ∀ (was : Int) (l : List (Int × Int)), Decidable (risen limit at_ was l)
  | _, [] => isTrue trivial
  | was, e :: l => by
    have := risen_dec limit at_ e.1 l
    unfold risen
    infer_instance
def rightL (p : Pol) (s : St) : Prop := okL p ∧ 0 ≤ s.at_ ∧ s.at_ ≤ 9007199254740992 ∧ 0 ≤ s.held ∧ s.held ≤ p.limit ∧ s.level = 0 ∧ risen p.limit s.at_ 0 s.log ∧ (s.log.length : Int) ≤ p.cap ∧ s.held + sumL s.log ≤ p.limit
instance (p : Pol) (s : St) : Decidable (rightL p s) := by unfold rightL; infer_instance
/-- What is not too old. -/
def live (period t : Int) : List (Int × Int) → List (Int × Int)
  | [] => []
  | e :: l => if t - e.1 < period then e :: l else live period t l
def advL (p : Pol) (s : St) (now : Int) : St := if rightL p s then ⟨up s.at_ (clampT now), 0, s.held, live p.period (up s.at_ (clampT now)) s.log⟩ else St.none
def newL (p : Pol) (now : Int) : St := if okL p then ⟨clampT now, 0, 0, []⟩ else St.none
def roomL (p : Pol) (s : St) (now : Int) : Int := if rightL p s then p.limit - s.held - sumL (advL p s now).log else 0
/-- With some cost more. -/
def noteL (full : Bool) (at_ cost : Int) : List (Int × Int) → List (Int × Int)
  | [] => [(at_, cost)]
  | [e] => if e.1 = at_ ∨ full = true then [(at_, e.2 + cost)] else [e, (at_, cost)]
  | e :: f :: l => e :: noteL full at_ cost (f :: l)
def noted (p : Pol) (t : St) (cost : Int) : St := { t with log := noteL (decide ((t.log.length : Int) = p.cap)) t.at_ cost t.log }
def doL (p : Pol) (s : St) (a : Ac) : St × Bool :=
  if rightL p s then
    if 1 ≤ a.cost ∧ a.kind = 1 ∧ a.cost ≤ p.limit - s.held - sumL (advL p s a.now).log then (noted p (advL p s a.now) a.cost, true)
    else if 1 ≤ a.cost ∧ a.kind = 2 ∧ a.cost ≤ p.limit - s.held - sumL (advL p s a.now).log then ({ advL p s a.now with held := s.held + a.cost }, true)
    else if 1 ≤ a.cost ∧ a.kind = 3 ∧ a.cost ≤ s.held then ({ advL p s a.now with held := s.held - a.cost }, true)
    else if 1 ≤ a.cost ∧ a.kind = 4 ∧ a.cost ≤ s.held then (noted p { advL p s a.now with held := s.held - a.cost } a.cost, true)
    else (s, false)
  else (St.none, false)
/-- The last entry's time. -/
def lastT : List (Int × Int) → Int
  | [] => 0
  | [e] => e.1
  | _ :: f :: l => lastT (f :: l)
def untilL (p : Pol) (s : St) (now : Int) : Int :=
  if rightL p s ∧ s.held ≤ 0 then (if (advL p s now).log = [] then 0 else lastT (advL p s now).log + p.period - (advL p s now).at_) else -1
/-- When so much is gone. -/
def goneT (period at_ : Int) : Int → List (Int × Int) → Int
  | _, [] => 0
  | over, e :: l => if over ≤ 0 then 0 else if over - e.2 ≤ 0 then e.1 + period - at_ else goneT period at_ (over - e.2) l
def retryL (p : Pol) (s : St) (now cost : Int) : Int × Bool :=
  if rightL p s ∧ 1 ≤ cost ∧ cost ≤ p.limit - s.held then (goneT p.period (advL p s now).at_ (s.held + sumL (advL p s now).log + cost - p.limit) (advL p s now).log, true) else (0, false)

/-! ### counter -/
def okC (p : Pol) : Prop := p.kind = 4 ∧ 1 ≤ p.limit ∧ 1 ≤ p.period ∧ p.limit ≤ 1048576 ∧ p.period ≤ 1099511627776 ∧ p.burst = 0 ∧ p.cap = 0
instance (p : Pol) : Decidable (okC p) := by unfold okC; infer_instance
def rightC (p : Pol) (s : St) : Prop := okC p ∧ 0 ≤ s.at_ ∧ s.at_ ≤ 9007199254740992 ∧ 0 ≤ s.held ∧ 0 ≤ s.level ∧ s.held ≤ p.limit ∧ s.level ≤ p.limit ∧ s.held + s.level ≤ p.limit ∧ s.log = []
instance (p : Pol) (s : St) : Decidable (rightC p s) := by unfold rightC; infer_instance
def advC (p : Pol) (s : St) (now : Int) : St :=
  if rightC p s then ⟨up s.at_ (clampT now), if up s.at_ (clampT now) / p.period = s.at_ / p.period then s.level else 0, s.held, []⟩ else St.none
def newC (p : Pol) (now : Int) : St := if okC p then ⟨clampT now, 0, 0, []⟩ else St.none
def roomC (p : Pol) (s : St) (now : Int) : Int := if rightC p s then p.limit - s.held - (advC p s now).level else 0
def doC (p : Pol) (s : St) (a : Ac) : St × Bool :=
  if rightC p s then
    if a.cost < 1 then (s, false)
    else if a.kind = 1 ∧ a.cost ≤ p.limit - s.held - (advC p s a.now).level then ({ advC p s a.now with level := (advC p s a.now).level + a.cost }, true)
    else if a.kind = 2 ∧ a.cost ≤ p.limit - s.held - (advC p s a.now).level then ({ advC p s a.now with held := s.held + a.cost }, true)
    else if a.kind = 3 ∧ a.cost ≤ s.held then ({ advC p s a.now with held := s.held - a.cost }, true)
    else if a.kind = 4 ∧ a.cost ≤ s.held then ({ advC p s a.now with held := s.held - a.cost, level := (advC p s a.now).level + a.cost }, true)
    else (s, false)
  else (St.none, false)
def untilC (p : Pol) (s : St) (now : Int) : Int :=
  if rightC p s ∧ s.held ≤ 0 then (if 0 < (advC p s now).level then p.period - (advC p s now).at_ % p.period else 0) else -1
def retryC (p : Pol) (s : St) (now cost : Int) : Int × Bool :=
  if rightC p s ∧ 1 ≤ cost ∧ cost ≤ p.limit - s.held then (if p.limit - s.held - (advC p s now).level < cost then p.period - (advC p s now).at_ % p.period else 0, true) else (0, false)

theorem prod_le {b d : Int} (h : b ≤ 1048576) (h0 : 0 ≤ d) (h1 : d ≤ 1099511627776) : b * d ≤ 1152921504606846976 := by
  have h2 : b * d ≤ 1048576 * d := Int.mul_le_mul_of_nonneg_right h h0
  omega

theorem advB_level (p : Pol) (s : St) (now : Int) (h : rightB p s) : 0 ≤ (advB p s now).level ∧ (advB p s now).level ≤ 1152921504606846976 ∧ (advB p s now).level ≤ (p.burst - s.held) * p.period := by
  unfold advB
  rw [if_pos h]
  obtain ⟨⟨q0, q1, q2, q3, q4, q5, q6, q7⟩, r1, r2, r3, r4, r5, r6, r7⟩ := h
  have hM : (p.burst - s.held) * p.period ≤ 1152921504606846976 := prod_le (by omega) (by omega) (by omega)
  have hcr := clampT_range now
  have hT : s.at_ ≤ up s.at_ (clampT now) := by unfold up; split <;> omega
  have hDD0 : 0 ≤ p.limit * (up s.at_ (clampT now) - s.at_) := Int.mul_nonneg (by omega) (by omega)
  dsimp only
  unfold dn
  split <;> omega
theorem advB_held (p : Pol) (s : St) (now : Int) (h : rightB p s) : (advB p s now).held = s.held := by unfold advB; rw [if_pos h]
end Go.Proofs.YtcfdcianpicbmaaGreat

namespace Go.Proofs.YtcfdcianpicbmaaGreat
open Go.RowKit
set_option linter.unusedVariables false
set_option linter.unusedSimpArgs false

section
variable {P : Program} {l : List Oper} {Q : Exit → Act → World → Prop} {S : World → Prop}

theorem drop_get {α : Type} {l : List α} {i : Nat} {o : α} {r : List α} (h : l.drop i = o :: r) : l[i]? = some o := by
  have := congrArg (fun x => x[0]?) h
  simpa using this

theorem tkv {i : Nat} {oi : Oper} {rest : List Oper} {v : Value} {fuel : Nat} {listed : Array Bool} {a : Act} {w : World}
    (hl : l.drop i = oi :: rest) (hw : Region.wanted oi (yielded l.toArray a.tmps) = true)
    (hy : ∀ w, S w → (execOp a.eval oi).run P w = .ok (.value v) w) (hS : S w)
    (h : wpAnyH P .any l.toArray Q S fuel (listed.setIfInBounds i true) (a.put oi.dst v) w)
    (hs : Region.noSelect l.toArray = true := by kernel_rfl) (hf : Region.free .any l.toArray listed i = true := by kernel_rfl)
    (hr : (Region.ready .any l.toArray listed).contains i = true := by kernel_rfl)
    (hQ : ∀ c a w, Q (.panic c) (a.put oi.dst v) w → Q (.panic c) a w := by exact fun _ _ _ h => h) : wpAnyH P .any l.toArray Q S (fuel + 1) listed a w :=
  wpAnyH_take (by simpa using drop_get hl) hs hf hr hQ (Or.inl ⟨hw, hy⟩) hS h

theorem tks {i : Nat} {oi : Oper} {rest : List Oper} {fuel : Nat} {listed : Array Bool} {a : Act} {w : World}
    (hl : l.drop i = oi :: rest) (hw : Region.wanted oi (yielded l.toArray a.tmps) = false) (hS : S w)
    (h : wpAnyH P .any l.toArray Q S fuel (listed.setIfInBounds i true) (a.put oi.dst undef) w)
    (hs : Region.noSelect l.toArray = true := by kernel_rfl) (hf : Region.free .any l.toArray listed i = true := by kernel_rfl)
    (hr : (Region.ready .any l.toArray listed).contains i = true := by kernel_rfl)
    (hQ : ∀ c a w, Q (.panic c) (a.put oi.dst undef) w → Q (.panic c) a w := by exact fun _ _ _ h => h) : wpAnyH P .any l.toArray Q S (fuel + 1) listed a w :=
  wpAnyH_take (by simpa using drop_get hl) hs hf hr hQ (Or.inr ⟨hw, rfl⟩) hS h

/-- An operation taken first; what it yields, and the slots behind it, are reckoned at once. -/
theorem tk {i : Nat} {oi : Oper} {rest : List Oper} {v : Value} {fuel : Nat} {listed : Array Bool} {a a' : Act} {w : World}
    (hl : l.drop i = oi :: rest) (hw : Region.wanted oi (yielded l.toArray a.tmps) = true) (hS : S w)
    (h : wpAnyH P .any l.toArray Q S fuel (listed.setIfInBounds i true) a' w)
    (hy : ∀ w, S w → (execOp a.eval oi).run P w = .ok (.value v) w := by (intro w hSw; (try dsimp only at hSw); go_simp <;> with_reducible rfl))
    (he : a.put oi.dst v = a' := by ((try simp only [Act.put, List.setIfInBounds_toArray, List.set_cons_zero, List.set_cons_succ]); with_reducible rfl))
    (hs : Region.noSelect l.toArray = true := by kernel_rfl) (hf : Region.free .any l.toArray listed i = true := by kernel_rfl)
    (hr : (Region.ready .any l.toArray listed).contains i = true := by kernel_rfl)
    (hQ : ∀ c a w, Q (.panic c) (a.put oi.dst v) w → Q (.panic c) a w := by exact fun _ _ _ h => h) : wpAnyH P .any l.toArray Q S (fuel + 1) listed a w :=
  wpAnyH_take (by simpa using drop_get hl) hs hf hr hQ (Or.inl ⟨hw, hy⟩) hS (he ▸ h)
/-- An operation whose guard is shut. -/
theorem tq {i : Nat} {oi : Oper} {rest : List Oper} {fuel : Nat} {listed : Array Bool} {a a' : Act} {w : World}
    (hl : l.drop i = oi :: rest) (hw : Region.wanted oi (yielded l.toArray a.tmps) = false) (hS : S w)
    (h : wpAnyH P .any l.toArray Q S fuel (listed.setIfInBounds i true) a' w)
    (he : a.put oi.dst undef = a' := by ((try simp only [Act.put, List.setIfInBounds_toArray, List.set_cons_zero, List.set_cons_succ]); with_reducible rfl))
    (hs : Region.noSelect l.toArray = true := by kernel_rfl) (hf : Region.free .any l.toArray listed i = true := by kernel_rfl)
    (hr : (Region.ready .any l.toArray listed).contains i = true := by kernel_rfl)
    (hQ : ∀ c a w, Q (.panic c) (a.put oi.dst undef) w → Q (.panic c) a w := by exact fun _ _ _ h => h) : wpAnyH P .any l.toArray Q S (fuel + 1) listed a w :=
  wpAnyH_take (by simpa using drop_get hl) hs hf hr hQ (Or.inr ⟨hw, rfl⟩) hS (he ▸ h)

theorem callH {i : Nat} {o : Oper} {rest : List Oper} {fuel : Nat} {listed : Array Bool} {a : Act} {w : World}
    (hl : l.drop i = o :: rest) (hS : S w)
    (h : ∀ W, S W → ∀ K' : Act → World → Prop, Shut (∀ a w, S w → (S w → wpAnyH P .any l.toArray Q S fuel (listed.setIfInBounds i true) a w) → K' a w) → if Region.wanted o (yielded l.toArray a.tmps) = true then Oper.wp P o a W K' Q else K' (a.put o.dst undef) W)
    (hr : Region.ready .any l.toArray listed = [i] := by kernel_rfl) : wpAnyH P .any l.toArray Q S (fuel + 1) listed a w :=
  wpAnyH_ready hr (by simp) (AllReadyH.cons (by simpa using drop_get hl) (h w hS) AllReadyH.nil)

theorem callC {i : Nat} {o : Oper} {rest : List Oper} {fuel : Nat} {listed : Array Bool} {a : Act} {w : World}
    (hl : l.drop i = o :: rest)
    (h : ∀ K' : Act → World → Prop, Shut (∀ a w, S w → (S w → wpAnyH P .any l.toArray Q S fuel (listed.setIfInBounds i true) a w) → K' a w) → if Region.wanted o (yielded l.toArray a.tmps) = true then Oper.wp P o a w K' Q else K' (a.put o.dst undef) w)
    (hr : Region.ready .any l.toArray listed = [i] := by kernel_rfl) : wpAnyH P .any l.toArray Q S (fuel + 1) listed a w :=
  wpAnyH_ready hr (by simp) (AllReadyH.cons (by simpa using drop_get hl) h AllReadyH.nil)

theorem callC2 {i j : Nat} {o o' : Oper} {rest rest' : List Oper} {fuel : Nat} {listed : Array Bool} {a : Act} {w : World}
    (hl : l.drop i = o :: rest) (hl' : l.drop j = o' :: rest')
    (h : ∀ K' : Act → World → Prop, Shut (∀ a w, S w → (S w → wpAnyH P .any l.toArray Q S fuel (listed.setIfInBounds i true) a w) → K' a w) → if Region.wanted o (yielded l.toArray a.tmps) = true then Oper.wp P o a w K' Q else K' (a.put o.dst undef) w)
    (h' : ∀ K' : Act → World → Prop, Shut (∀ a w, S w → (S w → wpAnyH P .any l.toArray Q S fuel (listed.setIfInBounds j true) a w) → K' a w) → if Region.wanted o' (yielded l.toArray a.tmps) = true then Oper.wp P o' a w K' Q else K' (a.put o'.dst undef) w)
    (hr : Region.ready .any l.toArray listed = [i, j] := by kernel_rfl) : wpAnyH P .any l.toArray Q S (fuel + 1) listed a w :=
  wpAnyH_ready hr (by simp) (AllReadyH.cons (by simpa using drop_get hl) h (AllReadyH.cons (by simpa using drop_get hl') h' AllReadyH.nil))

theorem wpAnyH_abs {md : Region.Mode} {ops : Array Oper} {fuel : Nat} {listed : Array Bool} {a : Act} {w : World} {F : World → Prop} (hS : S w) (hF : F w)
    (k : ∀ W, S W → F W → wpAnyH P md ops Q S fuel listed a W) : wpAnyH P md ops Q S fuel listed a w := k w hS hF

theorem then_abs {K : Act → World → Prop} {e : Exit} {a : Act} {w : World} {F : World → Prop} (h : F w) (k : ∀ W, F W → Exit.then K Q e a W) : Exit.then K Q e a w := k w h

/-- The world at hand is forgotten, but for what is said of it. -/
theorem wp_abs {c : Code} {a : Act} {w : World} {S0 : World → Prop} (h : S0 w) (k : ∀ W, S0 W → c.wp P Q a W) : c.wp P Q a w := k w h
end

/-- A result's box of four cells: it may be written. -/
def ResB (w : World) (b : Nat) : Prop := ∀ i, i < 4 → w.frozen? ⟨b, i, none⟩ = false ∧ (w.cell? ⟨b, i, none⟩).isSome = true
theorem res_all {w : World} {b : Nat} (h : ResB w b) :
    w.frozen? ⟨b, 0, none⟩ = false ∧ w.frozen? ⟨b, 1, none⟩ = false ∧ w.frozen? ⟨b, 2, none⟩ = false ∧ w.frozen? ⟨b, 3, none⟩ = false ∧
    ∃ u0 u1 u2 u3, w.cell? ⟨b, 0, none⟩ = some u0 ∧ w.cell? ⟨b, 1, none⟩ = some u1 ∧ w.cell? ⟨b, 2, none⟩ = some u2 ∧ w.cell? ⟨b, 3, none⟩ = some u3 := by
  obtain ⟨u0, h0⟩ := Option.isSome_iff_exists.1 (h 0 (by omega)).2
  obtain ⟨u1, h1⟩ := Option.isSome_iff_exists.1 (h 1 (by omega)).2
  obtain ⟨u2, h2⟩ := Option.isSome_iff_exists.1 (h 2 (by omega)).2
  obtain ⟨u3, h3⟩ := Option.isSome_iff_exists.1 (h 3 (by omega)).2
  exact ⟨(h 0 (by omega)).1, (h 1 (by omega)).1, (h 2 (by omega)).1, (h 3 (by omega)).1, u0, u1, u2, u3, h0, h1, h2, h3⟩
theorem res_new (w : World) (c0 c1 c2 c3 : Value) (t : TypeId) {b : Nat} (hb : b = w.heap.size) : ResB (w.alloc (.cells #[c0, c1, c2, c3] t)) b := by
  subst hb
  intro i hi
  have : i = 0 ∨ i = 1 ∨ i = 2 ∨ i = 3 := by omega
  rcases this with rfl | rfl | rfl | rfl <;> exact ⟨by simp, by simp⟩
theorem res_drew {w : World} {b : Nat} (h : ResB w b) : ResB w.drew b := h
theorem res_bl {w w' : World} {b : Nat} (h : ResB w b) (hb : Below w.heap.size w w') : ResB w' b := fun i hi => by
  have h1 := h i hi
  obtain ⟨u, hu⟩ := Option.isSome_iff_exists.1 h1.2
  have hlt : b < w.heap.size := World.block_lt_of_cell? w _ hu
  exact ⟨by rw [hb.frozen (p := ⟨b, i, none⟩) hlt]; exact h1.1, by rw [hb.cell (p := ⟨b, i, none⟩) hlt]; exact h1.2⟩
theorem res_lt {w : World} {b : Nat} (h : ResB w b) : b < w.heap.size := by
  obtain ⟨u, hu⟩ := Option.isSome_iff_exists.1 (h 0 (by omega)).2
  exact World.block_lt_of_cell? w _ hu
theorem isSome_set {w : World} {a p : Addr} {v : Value} (h : (w.cell? p).isSome = true) : ((w.setCell a v).cell? p).isSome = true := by
  have := World.isSome_setCells a.block [v] a.off w p h
  by_cases e : a = p
  · subst e; rw [World.cell?_setCell_same' w a v h]; rfl
  · rw [World.cell?_setCell_other w a p v e]; exact h
theorem res_set {w : World} {b : Nat} (h : ResB w b) (a : Addr) (v : Value) : ResB (w.setCell a v) b := fun i hi => ⟨by rw [World.frozen?_setCell]; exact (h i hi).1, isSome_set (h i hi).2⟩
theorem set4 {w : World} {b : Nat} {u0 u1 u2 u3 : Value} (v0 v1 v2 v3 : Value) (i0 : w.cell? ⟨b, 0, none⟩ = some u0) (i1 : w.cell? ⟨b, 1, none⟩ = some u1) (i2 : w.cell? ⟨b, 2, none⟩ = some u2) (i3 : w.cell? ⟨b, 3, none⟩ = some u3) :
    ((((w.setCell ⟨b, 0, none⟩ v0).setCell ⟨b, 1, none⟩ v1).setCell ⟨b, 2, none⟩ v2).setCell ⟨b, 3, none⟩ v3).cell? ⟨b, 0, none⟩ = some v0 ∧
    ((((w.setCell ⟨b, 0, none⟩ v0).setCell ⟨b, 1, none⟩ v1).setCell ⟨b, 2, none⟩ v2).setCell ⟨b, 3, none⟩ v3).cell? ⟨b, 1, none⟩ = some v1 ∧
    ((((w.setCell ⟨b, 0, none⟩ v0).setCell ⟨b, 1, none⟩ v1).setCell ⟨b, 2, none⟩ v2).setCell ⟨b, 3, none⟩ v3).cell? ⟨b, 2, none⟩ = some v2 ∧
    ((((w.setCell ⟨b, 0, none⟩ v0).setCell ⟨b, 1, none⟩ v1).setCell ⟨b, 2, none⟩ v2).setCell ⟨b, 3, none⟩ v3).cell? ⟨b, 3, none⟩ = some v3 := by
  refine ⟨?_, ?_, ?_, ?_⟩ <;> simp [World.cell?_setCell_other, World.cell?_setCell_same', i0, i1, i2, i3]
theorem far_set {w : World} {p : Addr} {u : Value} (h : w.cell? p = some u) (a : Addr) (v : Value) (hne : a.block ≠ p.block) : (w.setCell a v).cell? p = some u := by
  rw [World.cell?_setCell_far w a p v hne]; exact h
theorem bl_set {w W : World} (h : Below w.heap.size w W) {a : Addr} (ha : w.heap.size ≤ a.block) (v : Value) : Below w.heap.size w (W.setCell a v) := h.setCell ha v
theorem set4r {w : World} {b : Nat} {v0 v1 v2 v3 : Value} (h : ResB w b) :
    ((((w.setCell ⟨b, 0, none⟩ v0).setCell ⟨b, 1, none⟩ v1).setCell ⟨b, 2, none⟩ v2).setCell ⟨b, 3, none⟩ v3).cell? ⟨b, 0, none⟩ = some v0 ∧
    ((((w.setCell ⟨b, 0, none⟩ v0).setCell ⟨b, 1, none⟩ v1).setCell ⟨b, 2, none⟩ v2).setCell ⟨b, 3, none⟩ v3).cell? ⟨b, 1, none⟩ = some v1 ∧
    ((((w.setCell ⟨b, 0, none⟩ v0).setCell ⟨b, 1, none⟩ v1).setCell ⟨b, 2, none⟩ v2).setCell ⟨b, 3, none⟩ v3).cell? ⟨b, 2, none⟩ = some v2 ∧
    ((((w.setCell ⟨b, 0, none⟩ v0).setCell ⟨b, 1, none⟩ v1).setCell ⟨b, 2, none⟩ v2).setCell ⟨b, 3, none⟩ v3).cell? ⟨b, 3, none⟩ = some v3 := by
  obtain ⟨f0, f1, f2, f3, u0, u1, u2, u3, i0, i1, i2, i3⟩ := res_all h
  exact set4 v0 v1 v2 v3 i0 i1 i2 i3
theorem far4 {w : World} {p : Addr} {u : Value} (h : w.cell? p = some u) {b : Nat} (hne : b ≠ p.block) {v0 v1 v2 v3 : Value} :
    ((((w.setCell ⟨b, 0, none⟩ v0).setCell ⟨b, 1, none⟩ v1).setCell ⟨b, 2, none⟩ v2).setCell ⟨b, 3, none⟩ v3).cell? p = some u :=
  far_set (far_set (far_set (far_set h _ _ hne) _ _ hne) _ _ hne) _ _ hne
theorem cells4_alloc {w : World} {b : Nat} {v0 v1 v2 v3 : Value} (h : w.cell? ⟨b, 0, none⟩ = some v0 ∧ w.cell? ⟨b, 1, none⟩ = some v1 ∧ w.cell? ⟨b, 2, none⟩ = some v2 ∧ w.cell? ⟨b, 3, none⟩ = some v3) {o : Obj} :
    (w.alloc o).cell? ⟨b, 0, none⟩ = some v0 ∧ (w.alloc o).cell? ⟨b, 1, none⟩ = some v1 ∧ (w.alloc o).cell? ⟨b, 2, none⟩ = some v2 ∧ (w.alloc o).cell? ⟨b, 3, none⟩ = some v3 :=
  ⟨bl_cell (bl_alloc (bl_refl w) o) h.1, bl_cell (bl_alloc (bl_refl w) o) h.2.1, bl_cell (bl_alloc (bl_refl w) o) h.2.2.1, bl_cell (bl_alloc (bl_refl w) o) h.2.2.2⟩
theorem res4 {w : World} {b b' : Nat} (h : ResB w b') {v0 v1 v2 v3 : Value} :
    ResB ((((w.setCell ⟨b, 0, none⟩ v0).setCell ⟨b, 1, none⟩ v1).setCell ⟨b, 2, none⟩ v2).setCell ⟨b, 3, none⟩ v3) b' := res_set (res_set (res_set (res_set h _ _) _ _) _ _) _ _
theorem bl4 {w W : World} (h : Below w.heap.size w W) {b : Nat} (hb : w.heap.size ≤ b) {v0 v1 v2 v3 : Value} :
    Below w.heap.size w ((((W.setCell ⟨b, 0, none⟩ v0).setCell ⟨b, 1, none⟩ v1).setCell ⟨b, 2, none⟩ v2).setCell ⟨b, 3, none⟩ v3) :=
  bl_set (bl_set (bl_set (bl_set h hb _) hb _) hb _) hb _
end Go.Proofs.YtcfdcianpicbmaaGreat

namespace Go.Proofs.YtcfdcianpicbmaaGreat
open Go.RowKit
set_option linter.unusedVariables false
set_option linter.unusedSimpArgs false

def Pol.v (p : Pol) : Value := .agg #[.int .i64 p.kind, .int .i64 p.limit, .int .i64 p.period, .int .i64 p.burst, .int .i64 p.cap, .bool p.opn]
def St.v (s : St) (a : Option Addr) (n c : Nat) : Value := .agg #[.int .i64 s.at_, .int .i64 s.level, .int .i64 s.held, .slice a n c]
def chkB (p : Pol) : Int := if okB p then 0 else 2
theorem fld_level (a b c d : Value) (w : World) : (Instr.field 203 (.agg #[a, b, c, d]) 1).run Tryz.prog w = .ok b w := by kernel_rfl
theorem fld_log (a b c : Value) (x : Option Addr) (n m : Nat) (w : World) : (Instr.field 203 (.agg #[a, b, c, .slice x n m]) 3).run Tryz.prog w = .ok (.slice x n m) w := by kernel_rfl
theorem chk_ok {p : Pol} (h : okB p) : 0 = chkB p := by unfold chkB; rw [if_pos h]
theorem chk_no {p : Pol} (h : ¬ okB p) : 2 = chkB p := by unfold chkB; rw [if_neg h]

set_option maxHeartbeats 1000000 in
theorem bcheck_any (p : Pol) (w : World) : Calls Tryz.prog 128 #[p.v] w fun e w' => e = .returned (.int .i64 (chkB p)) ∧ Below w.heap.size w w' := by
  obtain ⟨k, l, d, b, c, o⟩ := p
  have hC : chkB ⟨k, l, d, b, c, o⟩ = chkB ⟨k, l, d, b, c, o⟩ := rfl
  generalize hX : chkB ⟨k, l, d, b, c, o⟩ = C at *
  have HX := Go.Lib.hid hX
  clear hX hC
  unfold Pol.v
  go_enter Tryz.func128, Tryz.ntmps128
  go_wp2
  all_goals
    go_ret
    have hX := HX.out
    refine ⟨congrArg (fun x => Ending.returned (.int .i64 x)) ?_, bl_alloc (bl_refl _) _⟩
    rw [← hX]
    try simp only [bne_iff_ne, ne_eq, bne_eq_false_iff_eq] at *
    first
      | (refine chk_ok ?_; unfold okB; dsimp only; omega)
      | (refine chk_no ?_; unfold okB; dsimp only; intro hh; obtain ⟨q0, q1, q2, q3, q4, q5, q6, q7⟩ := hh; omega)
end Go.Proofs.YtcfdcianpicbmaaGreat

namespace Go.Proofs.YtcfdcianpicbmaaGreat
open Go.RowKit
set_option linter.unusedVariables false
set_option linter.unusedSimpArgs false

theorem load_state (w : World) (b : Nat) (v0 v1 v2 v3 : Value)
    (hc : w.cell? ⟨b, 0, none⟩ = some v0 ∧ w.cell? ⟨b, 1, none⟩ = some v1 ∧ w.cell? ⟨b, 2, none⟩ = some v2 ∧ w.cell? ⟨b, 3, none⟩ = some v3) :
    (loadVar 203 ⟨b, 0, none⟩).run Tryz.prog w = .ok (.agg #[v0, v1, v2, v3]) w := by
  obtain ⟨i0, i1, i2, i3⟩ := hc
  simp [go_sem, i0, i1, i2, i3]

theorem results_state {fn : Func} {x : Tmp} (h : fn.results = #[.cell x 203]) (tmps : Array Value) (w : World) {b : Nat} {v0 v1 v2 v3 : Value} (hx : tmps.getD x undef = .pointer (some ⟨b, 0, none⟩))
    (hc : w.cell? ⟨b, 0, none⟩ = some v0 ∧ w.cell? ⟨b, 1, none⟩ = some v1 ∧ w.cell? ⟨b, 2, none⟩ = some v2 ∧ w.cell? ⟨b, 3, none⟩ = some v3) :
    (results fn tmps).run Tryz.prog w = .ok (.agg #[v0, v1, v2, v3]) w := by
  obtain ⟨i0, i1, i2, i3⟩ := hc
  have hx' : tmps[x]?.getD undef = .pointer (some ⟨b, 0, none⟩) := by simpa using hx
  unfold results
  simp [h, hx', go_sem, i0, i1, i2, i3]
theorem results_state2 {fn : Func} {x t : Tmp} (h : fn.results = #[.cell x 203, .tmp t]) (tmps : Array Value) (w : World) {b : Nat} {v0 v1 v2 v3 : Value} (hx : tmps.getD x undef = .pointer (some ⟨b, 0, none⟩))
    (hc : w.cell? ⟨b, 0, none⟩ = some v0 ∧ w.cell? ⟨b, 1, none⟩ = some v1 ∧ w.cell? ⟨b, 2, none⟩ = some v2 ∧ w.cell? ⟨b, 3, none⟩ = some v3) :
    (results fn tmps).run Tryz.prog w = .ok (.tuple #[.agg #[v0, v1, v2, v3], tmps.getD t undef]) w := by
  obtain ⟨i0, i1, i2, i3⟩ := hc
  have hx' : tmps[x]?.getD undef = .pointer (some ⟨b, 0, none⟩) := by simpa using hx
  unfold results
  simp [h, hx', go_sem, i0, i1, i2, i3]
end Go.Proofs.YtcfdcianpicbmaaGreat

namespace Go.Proofs.YtcfdcianpicbmaaGreat
open Go.RowKit
set_option linter.unusedVariables false
set_option linter.unusedSimpArgs false

def inB (n l m : Int) : Bool := decide (l ≤ n) && decide (n ≤ m)
theorem inB_iff {n l m : Int} : inB n l m = true ↔ l ≤ n ∧ n ≤ m := by unfold inB; simp
theorem inB_no {n l m : Int} (h : ¬ (l ≤ n ∧ n ≤ m)) : inB n l m = false := by
  cases e : inB n l m
  · rfl
  · exact absurd (inB_iff.1 e) h

set_option maxHeartbeats 400000 in
theorem in_any (n l m : Int) (w : World) : Calls Tryz.prog 159 #[.int .i64 n, .int .i64 l, .int .i64 m] w fun e w' => e = .returned (.bool (inB n l m)) ∧ w = w' := by
  by_cases h1 : l ≤ n
  · by_cases h2 : n ≤ m
    · rw [inB_iff.2 ⟨h1, h2⟩]
      go_enter Tryz.func159, Tryz.ntmps159
      go_wp2_with fail
      go_ret
      exact ⟨by first | rfl | simp [h2], rfl⟩
    · rw [inB_no (fun h => h2 h.2)]
      go_enter Tryz.func159, Tryz.ntmps159
      go_wp2_with fail
      go_ret
      exact ⟨by first | rfl | simp [h2], rfl⟩
  · rw [inB_no (fun h => h1 h.1)]
    go_enter Tryz.func159, Tryz.ntmps159
    go_wp2_with fail
    go_ret
    exact ⟨by first | rfl | simp [h1], rfl⟩

def chkG (p : Pol) : Int := if okG p then 0 else 2

set_option maxHeartbeats 1000000 in
set_option maxRecDepth 100000 in
theorem gcheck_walk (k l d b cc : Int) (o : Bool) (w : World) (r : Int) (hk : k = 2) (hc : cc = 0) (hr : r = if inB l 1 1048576 && (inB b 1 1048576 && inB d 1 1099511627776) then 0 else 2) :
    Calls Tryz.prog 104 #[.agg #[.int .i64 k, .int .i64 l, .int .i64 d, .int .i64 b, .int .i64 cc, .bool o]] w fun e w' => e = .returned (.int .i64 r) ∧ Below w.heap.size w w' := by
  subst hk hc
  cases h1 : inB l 1 1048576
  · rw [h1] at hr
    simp at hr
    subst hr
    go_enter Tryz.func104, Tryz.ntmps104
    go_wp2_with (go_at_call 159; refine (in_any _ _ _ _).mono ?_; rintro e w' ⟨rfl, rfl⟩)
    go_ret
    exact ⟨rfl, bl_alloc (bl_refl _) _⟩
  · rw [h1] at hr
    cases h2 : inB b 1 1048576
    · rw [h2] at hr
      simp at hr
      subst hr
      go_enter Tryz.func104, Tryz.ntmps104
      go_wp2_with (go_at_call 159; refine (in_any _ _ _ _).mono ?_; rintro e w' ⟨rfl, rfl⟩)
      go_ret
      exact ⟨rfl, bl_alloc (bl_refl _) _⟩
    · rw [h2] at hr
      cases h3 : inB d 1 1099511627776
      all_goals
        rw [h3] at hr
        simp at hr
        subst hr
        go_enter Tryz.func104, Tryz.ntmps104
        go_wp2_with (go_at_call 159; refine (in_any _ _ _ _).mono ?_; rintro e w' ⟨rfl, rfl⟩)
        go_ret
        exact ⟨rfl, bl_alloc (bl_refl _) _⟩

set_option maxHeartbeats 1000000 in
set_option maxRecDepth 100000 in
theorem gcheck_no (k l d b cc : Int) (o : Bool) (w : World) (h : k ≠ 2 ∨ k = 2 ∧ cc ≠ 0) :
    Calls Tryz.prog 104 #[.agg #[.int .i64 k, .int .i64 l, .int .i64 d, .int .i64 b, .int .i64 cc, .bool o]] w fun e w' => e = .returned (.int .i64 2) ∧ Below w.heap.size w w' := by
  rcases h with h | ⟨rfl, h⟩
  · go_enter Tryz.func104, Tryz.ntmps104
    go_wp2_with fail
    go_ret
    exact ⟨rfl, bl_alloc (bl_refl _) _⟩
  · go_enter Tryz.func104, Tryz.ntmps104
    go_wp2_with fail
    go_ret
    exact ⟨rfl, bl_alloc (bl_refl _) _⟩

theorem gcheck_any (p : Pol) (w : World) : Calls Tryz.prog 104 #[p.v] w fun e w' => e = .returned (.int .i64 (chkG p)) ∧ Below w.heap.size w w' := by
  obtain ⟨k, l, d, b, cc, o⟩ := p
  by_cases hk : k = 2
  · by_cases hc : cc = 0
    · refine gcheck_walk k l d b cc o w _ hk hc ?_
      unfold chkG
      by_cases h : okG ⟨k, l, d, b, cc, o⟩
      · rw [if_pos h]
        obtain ⟨q0, q1, q2, q3, q4, q5, q6, q7⟩ := h
        dsimp only at *
        rw [inB_iff.2 ⟨q2, q3⟩, inB_iff.2 ⟨q4, q5⟩, inB_iff.2 ⟨q6, q7⟩]
        rfl
      · rw [if_neg h]
        cases h1 : inB l 1 1048576
        · rfl
        cases h2 : inB b 1 1048576
        · rfl
        cases h3 : inB d 1 1099511627776
        · rfl
        · rw [inB_iff] at h1 h2 h3
          exact absurd ⟨hk, hc, h1.1, h1.2, h2.1, h2.2, h3.1, h3.2⟩ h
    · have e : chkG ⟨k, l, d, b, cc, o⟩ = 2 := if_neg (fun h => hc h.2.1)
      rw [e]
      exact gcheck_no k l d b cc o w (.inr ⟨hk, hc⟩)
  · have e : chkG ⟨k, l, d, b, cc, o⟩ = 2 := if_neg (fun h => hk h.1)
    rw [e]
    exact gcheck_no k l d b cc o w (.inl hk)
end Go.Proofs.YtcfdcianpicbmaaGreat

namespace Go.Proofs.YtcfdcianpicbmaaGreat
open Go.RowKit
set_option linter.unusedVariables false
set_option linter.unusedSimpArgs false

def chkC (p : Pol) : Int := if okC p then 0 else 2
theorem chkC_ok {p : Pol} (h : okC p) : 0 = chkC p := by unfold chkC; rw [if_pos h]
theorem chkC_no {p : Pol} (h : ¬ okC p) : 2 = chkC p := by unfold chkC; rw [if_neg h]

set_option maxHeartbeats 1000000 in
theorem ccheck_any (p : Pol) (w : World) : Calls Tryz.prog 120 #[p.v] w fun e w' => e = .returned (.int .i64 (chkC p)) ∧ Below w.heap.size w w' := by
  obtain ⟨k, l, d, b, c, o⟩ := p
  generalize hX : chkC ⟨k, l, d, b, c, o⟩ = C at *
  have HX := Go.Lib.hid hX
  clear hX
  unfold Pol.v
  go_enter Tryz.func120, Tryz.ntmps120
  go_wp2
  all_goals
    go_ret
    have hX := HX.out
    refine ⟨congrArg (fun x => Ending.returned (.int .i64 x)) ?_, bl_alloc (bl_refl _) _⟩
    rw [← hX]
    try simp only [bne_iff_ne, ne_eq, bne_eq_false_iff_eq] at *
    first
      | (refine chkC_ok ?_; unfold okC; dsimp only; omega)
      | (refine chkC_no ?_; unfold okC; dsimp only; intro hh; obtain ⟨q0, q1, q2, q3, q4, q5, q6⟩ := hh; omega)
end Go.Proofs.YtcfdcianpicbmaaGreat

namespace Go.Proofs.YtcfdcianpicbmaaGreat
open Go.RowKit
set_option linter.unusedVariables false
set_option linter.unusedSimpArgs false

def chkL (p : Pol) : Int := if okL p then 0 else 2
theorem chkL_ok {p : Pol} (h : okL p) : 0 = chkL p := by unfold chkL; rw [if_pos h]
theorem chkL_no {p : Pol} (h : ¬ okL p) : 2 = chkL p := by unfold chkL; rw [if_neg h]

set_option maxHeartbeats 1000000 in
theorem wcheck_any (p : Pol) (w : World) : Calls Tryz.prog 112 #[p.v] w fun e w' => e = .returned (.int .i64 (chkL p)) ∧ Below w.heap.size w w' := by
  obtain ⟨k, l, d, b, c, o⟩ := p
  generalize hX : chkL ⟨k, l, d, b, c, o⟩ = C at *
  have HX := Go.Lib.hid hX
  clear hX
  unfold Pol.v
  go_enter Tryz.func112, Tryz.ntmps112
  go_wp2
  all_goals
    go_ret
    have hX := HX.out
    refine ⟨congrArg (fun x => Ending.returned (.int .i64 x)) ?_, bl_alloc (bl_refl _) _⟩
    rw [← hX]
    try simp only [bne_iff_ne, ne_eq, bne_eq_false_iff_eq] at *
    first
      | (refine chkL_ok ?_; unfold okL; dsimp only; omega)
      | (refine chkL_no ?_; unfold okL; dsimp only; intro hh; obtain ⟨q0, q1, q2, q3, q4, q5, q6, q7⟩ := hh; omega)
end Go.Proofs.YtcfdcianpicbmaaGreat

namespace Go.Proofs.YtcfdcianpicbmaaGreat
open Go.RowKit
set_option linter.unusedVariables false
set_option linter.unusedSimpArgs false

def fv (f : Nat) : Value := .func (.func f) #[] #[]
def kernB : Array Value := #[fv 128, fv 129, fv 130, fv 131, fv 132, fv 133, fv 134, fv 135]
def kernG : Array Value := #[fv 104, fv 105, fv 106, fv 107, fv 108, fv 109, fv 110, fv 111]
def kernL : Array Value := #[fv 112, fv 113, fv 114, fv 115, fv 116, fv 117, fv 118, fv 119]
def kernC : Array Value := #[fv 120, fv 121, fv 122, fv 123, fv 124, fv 125, fv 126, fv 127]
def kern (k : Int) : Array Value := if k = 2 then kernG else if k = 3 then kernL else if k = 4 then kernC else kernB

set_option maxHeartbeats 1000000 in
set_option maxRecDepth 100000 in
theorem of_any (p : Pol) (w : World) : Calls Tryz.prog 75 #[p.v] w fun e w' => e = .returned (.iface 180 (.agg (kern p.kind))) ∧ Below w.heap.size w w' := by
  obtain ⟨k, l, d, b, cc, o⟩ := p
  unfold Pol.v
  dsimp only
  unfold kern
  by_cases h2 : k = 2
  · subst h2
    go_enter Tryz.func75, Tryz.ntmps75
    go_wp2_with fail
    go_ret
    exact ⟨rfl, bl_alloc (bl_refl _) _⟩
  rw [if_neg h2]
  by_cases h3 : k = 3
  · subst h3
    go_enter Tryz.func75, Tryz.ntmps75
    go_wp2_with fail
    go_ret
    exact ⟨rfl, bl_alloc (bl_refl _) _⟩
  rw [if_neg h3]
  by_cases h4 : k = 4
  · subst h4
    go_enter Tryz.func75, Tryz.ntmps75
    go_wp2_with fail
    go_ret
    exact ⟨rfl, bl_alloc (bl_refl _) _⟩
  · rw [if_neg h4]
    go_enter Tryz.func75, Tryz.ntmps75
    go_wp2_with fail
    go_ret
    exact ⟨rfl, bl_alloc (bl_refl _) _⟩
end Go.Proofs.YtcfdcianpicbmaaGreat

namespace Go.Proofs.YtcfdcianpicbmaaGreat
open Go.RowKit
set_option linter.unusedVariables false
set_option linter.unusedSimpArgs false

def Enters (g : Nat) : Prop := ∀ args w, (callFunc g args).run Tryz.prog w = .ok (.enter g args) w

set_option maxHeartbeats 1000000 in
set_option maxRecDepth 100000 in
theorem made_check (g : Nat) (eg : Enters g) (f1 f2 f3 f4 f5 f6 f7 : Value) (p : Pol) (r : Int) (hc : ∀ w, Calls Tryz.prog g #[p.v] w fun e w' => e = .returned (.int .i64 r) ∧ Below w.heap.size w w') (w : World) :
    Calls Tryz.prog 238 #[.agg #[fv g, f1, f2, f3, f4, f5, f6, f7], p.v] w fun e w' => e = .returned (.int .i64 r) ∧ Below w.heap.size w w' := by
  obtain ⟨k, l, d, b, cc, o⟩ := p
  unfold Pol.v at *
  unfold fv
  unfold Enters at eg
  dsimp only at *
  have HC := Go.Lib.hid hc
  clear hc
  go_enter Tryz.func238, Tryz.ntmps238
  go_wp2_with fail
  refine (HC.out _).mono ?_
  rintro e w1 ⟨rfl, hb⟩
  go_wp2_with fail
  go_ret
  exact ⟨rfl, bl_then (bl_alloc (bl_alloc (bl_refl _) _) _) hb⟩

theorem meth_check (x : Array Value) (w : World) : (method 132 180 (.agg x) "tapster/limiter.check").run Tryz.prog w = .ok (238, .agg x) w := by kernel_rfl
def chkP (p : Pol) : Int := if p.kind = 2 then chkG p else if p.kind = 3 then chkL p else if p.kind = 4 then chkC p else chkB p
theorem kern_check (p : Pol) (w : World) : Calls Tryz.prog 238 #[.agg (kern p.kind), p.v] w fun e w' => e = .returned (.int .i64 (chkP p)) ∧ Below w.heap.size w w' := by
  unfold kern chkP
  by_cases h2 : p.kind = 2
  · rw [if_pos h2, if_pos h2]; exact made_check _ (fun _ _ => by kernel_rfl) _ _ _ _ _ _ _ p _ (gcheck_any p) w
  rw [if_neg h2, if_neg h2]
  by_cases h3 : p.kind = 3
  · rw [if_pos h3, if_pos h3]; exact made_check _ (fun _ _ => by kernel_rfl) _ _ _ _ _ _ _ p _ (wcheck_any p) w
  rw [if_neg h3, if_neg h3]
  by_cases h4 : p.kind = 4
  · rw [if_pos h4, if_pos h4]; exact made_check _ (fun _ _ => by kernel_rfl) _ _ _ _ _ _ _ p _ (ccheck_any p) w
  · rw [if_neg h4, if_neg h4]; exact made_check _ (fun _ _ => by kernel_rfl) _ _ _ _ _ _ _ p _ (bcheck_any p) w
end Go.Proofs.YtcfdcianpicbmaaGreat

namespace Go.Proofs.YtcfdcianpicbmaaGreat
open Go.RowKit Go.Maps
set_option linter.unusedVariables false
set_option linter.unusedSimpArgs false

/-- A policy, and its version. -/
abbrev EV := Pol × Int
/-- A book: names that rise, each with a policy and its version; the last version. -/
abbrev Bk := List (Key × EV) × Int
instance polEq : DecidableEq Pol := fun a b =>
  if h : a.kind = b.kind ∧ a.limit = b.limit ∧ a.period = b.period ∧ a.burst = b.burst ∧ a.cap = b.cap ∧ a.opn = b.opn then
    isTrue (by obtain ⟨a1, a2, a3, a4, a5, a6⟩ := a; obtain ⟨b1, b2, b3, b4, b5, b6⟩ := b; obtain ⟨h1, h2, h3, h4, h5, h6⟩ := h; simp at h1 h2 h3 h4 h5 h6; subst h1 h2 h3 h4 h5 h6; rfl)
  else isFalse (fun e => h (by subst e; exact ⟨rfl, rfl, rfl, rfl, rfl, rfl⟩))
def Pol.none : Pol := ⟨0, 0, 0, 0, 0, false⟩
section
variable (N : Key → Bool)
def bGet (b : Bk) (k : Key) : EV := (sGet k b.1).getD (Pol.none, 0)
def bIs (b : Bk) (k : Key) : Bool := (sGet k b.1).isSome
/-- Is it laid as it is? -/
def bSame (b : Bk) (k : Key) (p : Pol) : Bool := bIs b k && decide ((bGet b k).1 = p)
def layE (b : Bk) (k : Key) (p : Pol) : Int := if N k = false ∨ chkP p ≠ 0 then 2 else if bIs b k = false ∧ 100 ≤ b.1.length then 5 else 0
def layV (b : Bk) (k : Key) (p : Pol) : Int := if layE N b k p = 0 then (if bSame b k p then (bGet b k).2 else b.2 + 1) else 0
def layB (b : Bk) (k : Key) (p : Pol) : Bk := if layE N b k p = 0 ∧ bSame b k p = false then (sPut k (p, b.2 + 1) b.1, b.2 + 1) else b
def dropB (b : Bk) (k : Key) : Bk := (sDel k b.1, b.2)
/-- A book that may be. -/
structure OkB (b : Bk) : Prop where
  rise : Rising b.1
  len : b.1.length ≤ 100
  each : ∀ x ∈ b.1, N x.1 = true ∧ chkP x.2.1 = 0 ∧ 1 ≤ x.2.2 ∧ x.2.2 ≤ b.2
  apart : b.1.Pairwise fun x y => x.2.2 ≠ y.2.2
  ver : 0 ≤ b.2
variable {N}
theorem okB_nil : OkB N ([], 0) := ⟨List.Pairwise.nil, Nat.zero_le _, (fun x hx => by cases hx), List.Pairwise.nil, by decide⟩
theorem OkB.nodup {b : Bk} (h : OkB N b) : (b.1.map (·.1)).Nodup := h.rise.nodup
theorem OkB.drop {b : Bk} (h : OkB N b) (k : Key) : OkB N (dropB b k) :=
  ⟨h.rise.filter _, Nat.le_trans (List.length_filter_le _ _) h.len, fun x hx => h.each x (mem_sDel.1 hx).1, h.apart.filter _, h.ver⟩
theorem sIns_apart {x : Key × EV} : ∀ {l : List (Key × EV)}, (l.Pairwise fun a b => a.2.2 ≠ b.2.2) → (∀ y ∈ l, y.2.2 ≠ x.2.2) → (sIns x l).Pairwise fun a b => a.2.2 ≠ b.2.2
  | [], _, _ => by simp [sIns]
  | y :: r, h, hx => by
    obtain ⟨h1, h2⟩ := List.pairwise_cons.1 h
    unfold sIns
    split
    · exact List.pairwise_cons.2 ⟨fun z hz e => hx z hz e.symm, h⟩
    · refine List.pairwise_cons.2 ⟨fun z hz => ?_, sIns_apart h2 fun z hz => hx z (List.mem_cons_of_mem _ hz)⟩
      rcases mem_sIns.1 hz with rfl | hz
      · exact hx y (by simp)
      · exact h1 z hz
theorem OkB.lay {b : Bk} (h : OkB N b) (k : Key) (p : Pol) : OkB N (layB N b k p) := by
  unfold layB
  split
  · rename_i hc
    have he := hc.1
    unfold layE at he
    split at he
    · omega
    · rename_i h1
      split at he
      · omega
      · rename_i h2
        have hN : N k = true := by cases z : N k; exact absurd (.inl z) h1; rfl
        have hp : chkP p = 0 := by by_cases z : chkP p = 0; exact z; exact absurd (.inr z) h1
        refine ⟨h.rise.put k _, ?_, fun x hx => ?_, ?_, by have := h.ver; show 0 ≤ b.2 + 1; omega⟩
        · show (sPut k (p, b.2 + 1) b.1).length ≤ 100
          rw [sPut_length k _ h.nodup]
          have hl := h.len
          split
          · exact hl
          · rename_i hs
            by_cases z : 100 ≤ b.1.length
            · exact absurd ⟨by unfold bIs; simpa using hs, z⟩ h2
            · omega
        · rcases mem_sPut.1 hx with rfl | ⟨hx, _⟩
          · exact ⟨hN, hp, by have := h.ver; show 1 ≤ b.2 + 1; omega, Int.le_refl _⟩
          · have := h.each x hx
            exact ⟨this.1, this.2.1, this.2.2.1, by have := this.2.2.2; show x.2.2 ≤ b.2 + 1; omega⟩
        · exact sIns_apart (h.apart.filter _) fun y hy => by
            have := (h.each y (mem_sDel.1 hy).1).2.2.2
            show y.2.2 ≠ b.2 + 1
            omega
  · exact h
theorem OkB.get {b : Bk} (h : OkB N b) {k : Key} (hi : bIs b k = true) : N k = true ∧ chkP (bGet b k).1 = 0 ∧ 1 ≤ (bGet b k).2 ∧ (bGet b k).2 ≤ b.2 := by
  unfold bIs at hi
  unfold bGet
  cases hg : sGet k b.1 with
  | none => rw [hg] at hi; cases hi
  | some c => exact h.each _ (sGet_mem hg)
theorem get_drop (b : Bk) (k : Key) : bIs (dropB b k) k = false := by
  unfold bIs dropB; rw [sGet_del_same]; rfl
/-- What Lay tells, and what is there behind it. -/
theorem lay_same {b : Bk} {k : Key} {p : Pol} (he : layE N b k p = 0) (hs : bSame b k p = true) : layB N b k p = b ∧ layV N b k p = (bGet b k).2 ∧ bIs b k = true ∧ (bGet b k).1 = p := by
  unfold layB layV
  rw [if_neg (fun z => by rw [hs] at z; cases z.2), if_pos he, if_pos hs]
  unfold bSame at hs
  simp only [Bool.and_eq_true, decide_eq_true_eq] at hs
  exact ⟨rfl, rfl, hs.1, hs.2⟩
theorem lay_new {b : Bk} {k : Key} {p : Pol} (he : layE N b k p = 0) (hs : bSame b k p = false) : layV N b k p = b.2 + 1 ∧ (layB N b k p).2 = b.2 + 1 ∧ bIs (layB N b k p) k = true ∧ bGet (layB N b k p) k = (p, b.2 + 1) := by
  unfold layB layV
  rw [if_pos (And.intro he hs), if_pos he, if_neg (by rw [hs]; exact Bool.false_ne_true)]
  refine ⟨rfl, rfl, ?_, ?_⟩
  · unfold bIs; rw [sGet_put_same]; rfl
  · unfold bGet; rw [sGet_put_same]; rfl
theorem lay_no {b : Bk} {k : Key} {p : Pol} (he : layE N b k p ≠ 0) : layV N b k p = 0 ∧ layB N b k p = b := by
  unfold layB layV
  rw [if_neg he, if_neg (fun z => he z.1)]
  exact ⟨rfl, rfl⟩
theorem lay_ok {b : Bk} {k : Key} {p : Pol} (he : layE N b k p = 0) : N k = true ∧ chkP p = 0 := by
  unfold layE at he
  split at he
  · omega
  · rename_i h1
    exact ⟨by cases z : N k; exact absurd (.inl z) h1; rfl, by by_cases z : chkP p = 0; exact z; exact absurd (.inr z) h1⟩
theorem ver_lay (b : Bk) (k : Key) (p : Pol) : b.2 ≤ (layB N b k p).2 ∧ (layB N b k p).2 ≤ b.2 + 1 := by
  unfold layB; split <;> (try dsimp only) <;> omega
end
end Go.Proofs.YtcfdcianpicbmaaGreat

namespace Go.Proofs.YtcfdcianpicbmaaGreat
open Go.RowKit Go.Maps
set_option linter.unusedVariables false
set_option linter.unusedSimpArgs false

/-- A box of six cells that may be written. -/
def Res6 (w : World) (b : Nat) : Prop := ∀ i, i < 6 → w.frozen? ⟨b, i, none⟩ = false ∧ (w.cell? ⟨b, i, none⟩).isSome = true
theorem res6_all {w : World} {b : Nat} (h : Res6 w b) :
    (w.frozen? ⟨b, 0, none⟩ = false ∧ w.frozen? ⟨b, 1, none⟩ = false ∧ w.frozen? ⟨b, 2, none⟩ = false ∧ w.frozen? ⟨b, 3, none⟩ = false ∧ w.frozen? ⟨b, 4, none⟩ = false ∧ w.frozen? ⟨b, 5, none⟩ = false) ∧
    ∃ u0 u1 u2 u3 u4 u5, w.cell? ⟨b, 0, none⟩ = some u0 ∧ w.cell? ⟨b, 1, none⟩ = some u1 ∧ w.cell? ⟨b, 2, none⟩ = some u2 ∧ w.cell? ⟨b, 3, none⟩ = some u3 ∧ w.cell? ⟨b, 4, none⟩ = some u4 ∧ w.cell? ⟨b, 5, none⟩ = some u5 := by
  obtain ⟨u0, h0⟩ := Option.isSome_iff_exists.1 (h 0 (by omega)).2
  obtain ⟨u1, h1⟩ := Option.isSome_iff_exists.1 (h 1 (by omega)).2
  obtain ⟨u2, h2⟩ := Option.isSome_iff_exists.1 (h 2 (by omega)).2
  obtain ⟨u3, h3⟩ := Option.isSome_iff_exists.1 (h 3 (by omega)).2
  obtain ⟨u4, h4⟩ := Option.isSome_iff_exists.1 (h 4 (by omega)).2
  obtain ⟨u5, h5⟩ := Option.isSome_iff_exists.1 (h 5 (by omega)).2
  exact ⟨⟨(h 0 (by omega)).1, (h 1 (by omega)).1, (h 2 (by omega)).1, (h 3 (by omega)).1, (h 4 (by omega)).1, (h 5 (by omega)).1⟩, u0, u1, u2, u3, u4, u5, h0, h1, h2, h3, h4, h5⟩
theorem res6_new (w : World) (c0 c1 c2 c3 c4 c5 : Value) (t : TypeId) {b : Nat} (hb : b = w.heap.size) : Res6 (w.alloc (.cells #[c0, c1, c2, c3, c4, c5] t)) b := by
  subst hb
  intro i hi
  have : i = 0 ∨ i = 1 ∨ i = 2 ∨ i = 3 ∨ i = 4 ∨ i = 5 := by omega
  rcases this with rfl | rfl | rfl | rfl | rfl | rfl <;> exact ⟨by simp, by simp⟩
theorem res6_bl {w w' : World} {b : Nat} (h : Res6 w b) (hb : Below w.heap.size w w') : Res6 w' b := fun i hi => by
  have h1 := h i hi
  obtain ⟨u, hu⟩ := Option.isSome_iff_exists.1 h1.2
  have hlt : b < w.heap.size := World.block_lt_of_cell? w _ hu
  exact ⟨by rw [hb.frozen (p := ⟨b, i, none⟩) hlt]; exact h1.1, by rw [hb.cell (p := ⟨b, i, none⟩) hlt]; exact h1.2⟩
theorem res6_set {w : World} {b : Nat} (h : Res6 w b) (a : Addr) (v : Value) : Res6 (w.setCell a v) b := fun i hi => ⟨by rw [World.frozen?_setCell]; exact (h i hi).1, isSome_set (h i hi).2⟩
def Cells6 (w : World) (b : Nat) (v0 v1 v2 v3 v4 v5 : Value) : Prop := w.cell? ⟨b, 0, none⟩ = some v0 ∧ w.cell? ⟨b, 1, none⟩ = some v1 ∧ w.cell? ⟨b, 2, none⟩ = some v2 ∧ w.cell? ⟨b, 3, none⟩ = some v3 ∧ w.cell? ⟨b, 4, none⟩ = some v4 ∧ w.cell? ⟨b, 5, none⟩ = some v5
theorem set6r {w : World} {b : Nat} {v0 v1 v2 v3 v4 v5 : Value} (h : Res6 w b) :
    Cells6 ((((((w.setCell ⟨b, 0, none⟩ v0).setCell ⟨b, 1, none⟩ v1).setCell ⟨b, 2, none⟩ v2).setCell ⟨b, 3, none⟩ v3).setCell ⟨b, 4, none⟩ v4).setCell ⟨b, 5, none⟩ v5) b v0 v1 v2 v3 v4 v5 := by
  obtain ⟨-, u0, u1, u2, u3, u4, u5, i0, i1, i2, i3, i4, i5⟩ := res6_all h
  refine ⟨?_, ?_, ?_, ?_, ?_, ?_⟩ <;> simp [World.cell?_setCell_other, World.cell?_setCell_same', i0, i1, i2, i3, i4, i5]
theorem far6 {w : World} {p : Addr} {u : Value} (h : w.cell? p = some u) {b : Nat} (hne : b ≠ p.block) {v0 v1 v2 v3 v4 v5 : Value} :
    ((((((w.setCell ⟨b, 0, none⟩ v0).setCell ⟨b, 1, none⟩ v1).setCell ⟨b, 2, none⟩ v2).setCell ⟨b, 3, none⟩ v3).setCell ⟨b, 4, none⟩ v4).setCell ⟨b, 5, none⟩ v5).cell? p = some u :=
  far_set (far_set (far_set (far_set (far_set (far_set h _ _ hne) _ _ hne) _ _ hne) _ _ hne) _ _ hne) _ _ hne
theorem bl6 {w W : World} (h : Below w.heap.size w W) {b : Nat} (hb : w.heap.size ≤ b) {v0 v1 v2 v3 v4 v5 : Value} :
    Below w.heap.size w ((((((W.setCell ⟨b, 0, none⟩ v0).setCell ⟨b, 1, none⟩ v1).setCell ⟨b, 2, none⟩ v2).setCell ⟨b, 3, none⟩ v3).setCell ⟨b, 4, none⟩ v4).setCell ⟨b, 5, none⟩ v5) :=
  bl_set (bl_set (bl_set (bl_set (bl_set (bl_set h hb _) hb _) hb _) hb _) hb _) hb _
theorem res66 {w : World} {b b' : Nat} (h : Res6 w b') {v0 v1 v2 v3 v4 v5 : Value} :
    Res6 ((((((w.setCell ⟨b, 0, none⟩ v0).setCell ⟨b, 1, none⟩ v1).setCell ⟨b, 2, none⟩ v2).setCell ⟨b, 3, none⟩ v3).setCell ⟨b, 4, none⟩ v4).setCell ⟨b, 5, none⟩ v5) b' :=
  res6_set (res6_set (res6_set (res6_set (res6_set (res6_set h _ _) _ _) _ _) _ _) _ _) _ _
theorem results_pol3 {fn : Func} {x t1 t2 : Tmp} (h : fn.results = #[.cell x 33, .tmp t1, .tmp t2]) (tmps : Array Value) (w : World) {b : Nat} {v0 v1 v2 v3 v4 v5 : Value} (hx : tmps.getD x undef = .pointer (some ⟨b, 0, none⟩))
    (hc : Cells6 w b v0 v1 v2 v3 v4 v5) :
    (results fn tmps).run Tryz.prog w = .ok (.tuple #[.agg #[v0, v1, v2, v3, v4, v5], tmps.getD t1 undef, tmps.getD t2 undef]) w := by
  obtain ⟨i0, i1, i2, i3, i4, i5⟩ := hc
  have hx' : tmps[x]?.getD undef = .pointer (some ⟨b, 0, none⟩) := by simpa using hx
  unfold results
  simp [h, hx', go_sem, i0, i1, i2, i3, i4, i5]

def eV (x : EV) : Value := .agg #[.int .i64 x.1.kind, .int .i64 x.1.limit, .int .i64 x.1.period, .int .i64 x.1.burst, .int .i64 x.1.cap, .bool x.1.opn, .int .i64 x.2]
/-- Block v is a book, its map is block mb. -/
structure BookAt (w : World) (v mb : Nat) (b : Bk) : Prop where
  head : w.heap[v]? = some (.cells #[.map (some mb), .int .i64 b.2] 77 (0, 0))
  own : w.ownsMap Tryz.prog 9 heldRd mb b.1.length (sD eV b.1)
theorem BookAt.lt {w : World} {v mb : Nat} {b : Bk} (h : BookAt w v mb b) : v < w.heap.size ∧ mb < w.heap.size := ⟨(Array.getElem?_eq_some_iff.1 h.head).1, h.own.lt⟩
theorem BookAt.ne {w : World} {v mb : Nat} {b : Bk} (h : BookAt w v mb b) : v ≠ mb := fun e => by
  obtain ⟨es, clock, hb, _⟩ := h.own
  rw [← e, h.head] at hb
  cases hb
theorem BookAt.frame {w w' : World} {v mb : Nat} {b : Bk} (h : BookAt w v mb b) (h1 : w'.heap[v]? = w.heap[v]?) (h2 : w'.heap[mb]? = w.heap[mb]?) : BookAt w' v mb b := ⟨h1.trans h.head, own_frame h.own h2⟩
theorem book_bl {w w' : World} {v mb : Nat} {b : Bk} (h : BookAt w v mb b) (hb : Below w.heap.size w w') : BookAt w' v mb b := h.frame (hb.block _ h.lt.1) (hb.block _ h.lt.2)
theorem BookAt.cells {w : World} {v mb : Nat} {b : Bk} (h : BookAt w v mb b) : w.cell? ⟨v, 0, none⟩ = some (.map (some mb)) ∧ w.cell? ⟨v, 1, none⟩ = some (.int .i64 b.2) := ⟨by simp [World.cell?, h.head], by simp [World.cell?, h.head]⟩
theorem zero_entry (w : World) : (zeroValue 82).run Tryz.prog w = .ok (eV (Pol.none, 0)) w := by kernel_rfl
theorem look_entry {w : World} {v mb : Nat} {b : Bk} (h : BookAt w v mb b) (s : ByteArray) (hs : s.size ≤ maxLen) :
    (Instr.lookup 75 (.map (some mb)) (.string s) true).run Tryz.prog w = .ok (.tuple #[eV (bGet b s.data.toList), .bool (bIs b s.data.toList)]) w := by
  have hl := run_look_ok h.own Tryz.underlying9 Tryz.underlying75 (zero_entry w) s hs
  rw [hl]
  unfold bGet bIs
  cases sGet s.data.toList b.1 <;> rfl

/-- Only blocks of F have turned, of those that were there. -/
structure Only (F : Nat → Prop) (w w' : World) : Prop where
  os : w'.os = w.os
  tape : w'.tape = w.tape
  output : w'.output = w.output
  size : w.heap.size ≤ w'.heap.size
  block : ∀ b, b < w.heap.size → ¬ F b → w'.heap[b]? = w.heap[b]?
theorem Only.of_below {F : Nat → Prop} {w w' : World} (h : Below w.heap.size w w') : Only F w w' := ⟨h.os, h.tape, h.output, h.size, fun b hb _ => h.block b hb⟩
theorem Only.of_grown {F : Nat → Prop} {w w' : World} {g : Nat} (h : w.grownBy w' (some g)) (hg : F g) : Only F w w' := ⟨h.os, h.tape, h.output, h.size, fun b hb hf => h.block b hb (by rintro e; injection e with e; exact hf (e ▸ hg))⟩
theorem Only.trans {F : Nat → Prop} {a b c : World} (h : Only F a b) (k : Only F b c) : Only F a c :=
  ⟨k.os.trans h.os, k.tape.trans h.tape, k.output.trans h.output, Nat.le_trans h.size k.size, fun i hi hf => (k.block i (Nat.lt_of_lt_of_le hi h.size) hf).trans (h.block i hi hf)⟩
theorem Only.below {F : Nat → Prop} {w w' : World} {B : Nat} (h : Only F w w') (hB : B ≤ w.heap.size) (hf : ∀ b, F b → B ≤ b) : Below B w w' :=
  ⟨h.os, h.tape, h.output, h.size, fun b hb => h.block b (by omega) (fun hF => by have := hf b hF; omega)⟩
theorem Only.set {F : Nat → Prop} {w w' : World} (h : Only F w w') {a : Addr} (ha : F a.block) (v : Value) : Only F w (w'.setCell a v) := by
  refine ⟨h.os, h.tape, h.output, by rw [World.size_setCell]; exact h.size, fun b hb hf => ?_⟩
  rw [← h.block b hb hf]
  have hne : a.block ≠ b := fun e => hf (e ▸ ha)
  simp [World.setCell, Array.getElem?_modify, hne]
theorem Only.drew {F : Nat → Prop} {w w' : World} (h : Only F w w') : Only F w w'.drew := ⟨h.os, h.tape, h.output, h.size, h.block⟩
theorem only_cell {F : Nat → Prop} {w W : World} (h : Only F w W) {b o : Nat} {i : Option Nat} {v : Value} (hc : w.cell? ⟨b, o, i⟩ = some v) (hf : ¬ F b) : W.cell? ⟨b, o, i⟩ = some v := by
  have hb := World.block_lt_of_cell? w _ hc
  rw [World.cell?_of_block (h.block b hb hf)]
  exact hc
/-- The blocks of a book. -/
def BF (v mb : Nat) (i : Nat) : Prop := i = v ∨ i = mb
/-- What an act on a book leaves. -/
def BkTo (w : World) (v mb : Nat) (b : Bk) (w' : World) : Prop := BookAt w' v mb b ∧ Only (BF v mb) w w'
theorem bk_same {w w' : World} {v mb : Nat} {b : Bk} (h : BookAt w v mb b) (hb : Below w.heap.size w w') : BkTo w v mb b w' := ⟨book_bl h hb, Only.of_below hb⟩
set_option maxHeartbeats 400000 in
theorem bnew_book (w : World) : Calls Tryz.prog 11 #[] w fun e w' => ∃ v mb, e = .returned (.pointer (some ⟨v, 0, none⟩)) ∧ BookAt w' v mb ([], 0) ∧ w.heap.size ≤ v ∧ w.heap.size ≤ mb ∧ Below w.heap.size w w' := by
  have hmm := @run_makeMap Tryz.prog
  go_enter Tryz.func11, Tryz.ntmps11
  go_wp2
  go_ret
  refine ⟨w.heap.size + 1, w.heap.size, rfl, ⟨?_, ?_⟩, by omega, Nat.le_refl _, bl_alloc (bl_alloc (bl_refl w) _) _⟩
  · have := heap_alloc_new (w.alloc (.map #[] 0)) (.cells #[.map (some w.heap.size), .int .i64 0] 77)
    simpa using this
  · exact (World.ownsMap_made w Tryz.prog 9 heldRd).alloc _
set_option maxHeartbeats 400000 in
theorem ver_book {v mb : Nat} {b : Bk} (w : World) (h : BookAt w v mb b) : Calls Tryz.prog 16 #[.pointer (some ⟨v, 0, none⟩)] w fun e w' => e = .returned (.int .i64 b.2) ∧ Below w.heap.size w w' := by
  obtain ⟨c0, c1⟩ := h.cells
  clear h
  go_enter Tryz.func16, Tryz.ntmps16
  go_wp2
  go_ret
  exact ⟨rfl, bl_refl _⟩
set_option maxHeartbeats 400000 in
theorem ver_nil (w : World) : Calls Tryz.prog 16 #[.pointer none] w fun e w' => e = .returned (.int .i64 0) ∧ Below w.heap.size w w' := by
  go_enter Tryz.func16, Tryz.ntmps16
  go_wp2
  go_ret
  exact ⟨rfl, bl_refl _⟩
set_option maxHeartbeats 2000000 in
set_option maxRecDepth 100000 in
theorem get_book {v mb : Nat} {b : Bk} (s : ByteArray) (hs : s.size ≤ maxLen) (w : World) (h : BookAt w v mb b) : Calls Tryz.prog 14 #[.pointer (some ⟨v, 0, none⟩), .string s] w fun e w' =>
    e = .returned (.tuple #[(bGet b s.data.toList).1.v, .int .i64 (bGet b s.data.toList).2, .bool (bIs b s.data.toList)]) ∧ Below w.heap.size w w' := by
  have hl := look_entry (book_bl h (bl_alloc (bl_refl w) (.cells #[.int .i64 0, .int .i64 0, .int .i64 0, .int .i64 0, .int .i64 0, .bool false] 33))) s hs
  have hlt := h.lt.1
  obtain ⟨c0, -⟩ := h.cells
  generalize bIs b s.data.toList = I at *
  generalize bGet b s.data.toList = G at *
  obtain ⟨⟨k, l, d, bb, cc, o⟩, n⟩ := G
  unfold eV at hl
  unfold Pol.v
  dsimp only at hl ⊢
  clear h
  go_enter Tryz.func14, Tryz.ntmps14
  go_wp2_with fail
  refine wp_abs (S0 := fun w' => w'.cell? ⟨w.heap.size + 1, 0, none⟩ = some (.int .i64 k) ∧ w'.cell? ⟨w.heap.size + 1, 1, none⟩ = some (.int .i64 l) ∧ w'.cell? ⟨w.heap.size + 1, 2, none⟩ = some (.int .i64 d) ∧ w'.cell? ⟨w.heap.size + 1, 3, none⟩ = some (.int .i64 bb) ∧ w'.cell? ⟨w.heap.size + 1, 4, none⟩ = some (.int .i64 cc) ∧ w'.cell? ⟨w.heap.size + 1, 5, none⟩ = some (.bool o) ∧ w'.cell? ⟨w.heap.size + 1, 6, none⟩ = some (.int .i64 n) ∧ Res6 w' w.heap.size ∧ Below w.heap.size w w')
    ⟨by go_simp, by go_simp, by go_simp, by go_simp, by go_simp, by go_simp, by go_simp, res6_bl (res6_new _ _ _ _ _ _ _ _ rfl) (bl_alloc (bl_refl _) _), bl_alloc (bl_alloc (bl_refl _) _) _⟩ ?_
  rintro W ⟨x0, x1, x2, x3, x4, x5, x6, hR, hB⟩
  refine wp_region_held_drew (S := fun w' => w'.cell? ⟨w.heap.size + 1, 0, none⟩ = some (.int .i64 k) ∧ w'.cell? ⟨w.heap.size + 1, 1, none⟩ = some (.int .i64 l) ∧ w'.cell? ⟨w.heap.size + 1, 2, none⟩ = some (.int .i64 d) ∧ w'.cell? ⟨w.heap.size + 1, 3, none⟩ = some (.int .i64 bb) ∧ w'.cell? ⟨w.heap.size + 1, 4, none⟩ = some (.int .i64 cc) ∧ w'.cell? ⟨w.heap.size + 1, 5, none⟩ = some (.bool o) ∧ w'.cell? ⟨w.heap.size + 1, 6, none⟩ = some (.int .i64 n) ∧ Res6 w' w.heap.size ∧ Below w.heap.size w w') (by kernel_rfl) ?_ (fun hHeld => ?_)
  · exact ⟨x0, x1, x2, x3, x4, x5, x6, hR, bl_drew hB⟩
  refine wpAnyH_abs (F := fun _ => True) hHeld trivial ?_
  clear hHeld x0 x1 x2 x3 x4 x5 x6 hR hB
  rintro X0 hHeld -
  try simp only [Act.put, List.setIfInBounds_toArray, List.set_cons_zero, List.set_cons_succ]
  (refine tk (i := 0) rfl rfl hHeld ?_)
  (refine tk (i := 1) rfl rfl hHeld ?_)
  (refine tk (i := 2) rfl rfl hHeld ?_)
  (refine tk (i := 3) rfl rfl hHeld ?_)
  (refine tk (i := 4) rfl rfl hHeld ?_)
  refine callC (i := 5) rfl (fun K hK => ?_)
  obtain ⟨h0, h1, h2, h3, h4, h5, h6, hr', hB'⟩ := (id hHeld)
  obtain ⟨⟨f0, f1, f2, f3, f4, f5⟩, u0, u1, u2, u3, u4, u5, i0, i1, i2, i3, i4, i5⟩ := res6_all hr'
  go_simp
  refine hK.out _ _ ?_ (fun hHeld2 => ?_)
  · have e : w.heap.size ≠ w.heap.size + 1 := by omega
    exact ⟨far6 h0 e, far6 h1 e, far6 h2 e, far6 h3 e, far6 h4 e, far6 h5 e, far6 h6 e, res66 hr', bl6 hB' (Nat.le_refl _)⟩
  have z := set6r (v0 := .int .i64 k) (v1 := .int .i64 l) (v2 := .int .i64 d) (v3 := .int .i64 bb) (v4 := .int .i64 cc) (v5 := .bool o) hr'
  clear hHeld hK K
  have hHeld := hHeld2
  clear hHeld2
  try simp only [Act.put, List.setIfInBounds_toArray, List.set_cons_zero, List.set_cons_succ]
  (refine tk (i := 6) rfl rfl hHeld ?_)
  (refine tk (i := 7) rfl rfl hHeld ?_)
  refine wpAnyH_done (by kernel_rfl) ?_ _
  obtain ⟨-, -, -, -, -, -, -, -, hE⟩ := hHeld
  repeat' (first | go_skip | go_guarded | go_step | go_upon)
  (try simp only [Exit.inBlock, Exit.then])
  refine bodyPost_ret (results_pol3 rfl _ _ (by rfl) z) rfl ⟨rfl, hE⟩
end Go.Proofs.YtcfdcianpicbmaaGreat

namespace Go.Proofs
open Go.Shelf
def Tryz.contL_ren : Go.Shelf.Ren := ⟨fun | 17 => 43 | 15 => 65 | 20 => 90 | n => n, fun | 9 => 9 | 23 => 91 | 4 => 4 | 3 => 3 | 0 => 0 | 21 => 21 | n => n, fun | n => n⟩
theorem Tryz.contL : Go.Proofs.LaysGw.n17 Tryz.prog Tryz.contL_ren := {
  mixed := by kernel_rfl
  f15 := Tryz.func65.trans (congrArg some (by kernel_rfl))
  f17 := Tryz.func43.trans (congrArg some (by kernel_rfl))
  f20 := Tryz.func90.trans (congrArg some (by kernel_rfl))
  t0 := Tryz.underlying0
  a0 := Tryz.isAgg0
  z0 := Tryz.sizeOf0
  v0 := Tryz.zeroValue0
  i0 := by kernel_rfl
  t3 := Tryz.underlying3
  a3 := Tryz.isAgg3
  z3 := Tryz.sizeOf3
  v3 := Tryz.zeroValue3
  i3 := by kernel_rfl
  t4 := Tryz.underlying4
  a4 := Tryz.isAgg4
  z4 := Tryz.sizeOf4
  v4 := Tryz.zeroValue4
  i4 := by kernel_rfl
  t9 := Tryz.underlying9
  a9 := Tryz.isAgg9
  z9 := Tryz.sizeOf9
  v9 := Tryz.zeroValue9
  i9 := by kernel_rfl
  t21 := Tryz.underlying21
  a21 := Tryz.isAgg21
  z21 := Tryz.sizeOf21
  v21 := Tryz.zeroValue21
  i21 := by kernel_rfl
  t23 := Tryz.underlying91
  a23 := Tryz.isAgg91
  z23 := Tryz.sizeOf91
  v23 := Tryz.zeroValue91
  i23 := by kernel_rfl }
def Tryz.ibL_ren : Go.Shelf.Ren := ⟨fun | 137 => 86 | 217 => 149 | 266 => 175 | n => n, fun | 9 => 9 | 5 => 5 | 3 => 3 | n => n, fun | n => n⟩
theorem Tryz.ibL : Go.Proofs.Lays.n137 Tryz.prog Tryz.ibL_ren := {
  mixed := by kernel_rfl
  f137 := Tryz.func86.trans (congrArg some (by kernel_rfl))
  f217 := Tryz.func149.trans (congrArg some (by kernel_rfl))
  f266 := Tryz.func175.trans (congrArg some (by kernel_rfl))
  t3 := Tryz.underlying3
  a3 := Tryz.isAgg3
  z3 := Tryz.sizeOf3
  v3 := Tryz.zeroValue3
  t5 := Tryz.underlying5
  a5 := Tryz.isAgg5
  z5 := Tryz.sizeOf5
  v5 := Tryz.zeroValue5
  t9 := Tryz.underlying9
  a9 := Tryz.isAgg9
  z9 := Tryz.sizeOf9
  v9 := Tryz.zeroValue9 }
def Tryz.vrL_ren : Go.Shelf.Ren := ⟨fun | 119 => 87 | n => n, fun | 21 => 21 | 4 => 4 | n => n, fun | n => n⟩
theorem Tryz.vrL : Go.Proofs.Lays.n119 Tryz.prog Tryz.vrL_ren := {
  mixed := by kernel_rfl
  f119 := Tryz.func87.trans (congrArg some (by kernel_rfl))
  t4 := Tryz.underlying4
  a4 := Tryz.isAgg4
  z4 := Tryz.sizeOf4
  v4 := Tryz.zeroValue4
  t21 := Tryz.underlying21
  a21 := Tryz.isAgg21
  z21 := Tryz.sizeOf21
  v21 := Tryz.zeroValue21 }
end Go.Proofs
