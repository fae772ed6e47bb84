/-
  A map with string keys whose elements are whatever values: as a list of keys and elements, rising by key. Plain words over the kit's 'ownsMap'.
-/
import Derived.Maps.OwnSet
import Derived.Maps.Ext
import Derived.Maps.RangeWalk
import Derived.Sort.KeysCollected
import Derived.WalkKit
import Derived.StringKeys
import Derived.Deep.Draws
namespace Go.Proofs.Ytkdhafndngcamaa
open Go.RowKit Go.Maps
open Go (strKeys)
open Go.WideMaps (keyOf_string_mk)

/-- Whatever value stands in a map's element reads as itself. -/
def heldRd (v : Value) : Option (DataW Value × List MemPlace) := some (.held v, [])

abbrev Key := List UInt8
variable {β : Type}

def sIns (x : Key × β) : List (Key × β) → List (Key × β)
  | [] => [x]
  | y :: r => if bytesBefore x.1 y.1 then x :: y :: r else y :: sIns x r
def sDel (k : Key) (l : List (Key × β)) : List (Key × β) := l.filter fun x => !(x.1 == k)
def sPut (k : Key) (v : β) (l : List (Key × β)) : List (Key × β) := sIns (k, v) (sDel k l)
def sGet (k : Key) (l : List (Key × β)) : Option β := (l.find? fun x => x.1 == k).map (·.2)

/-- What such a map reads as. -/
def sD (f : β → Value) (m : List (Key × β)) : DataW Value := .map (m.map fun x => (.string x.1, .held (f x.2)))

theorem sD_ins (f : β → Value) (x : Key × β) : ∀ m : List (Key × β), (sIns x m).map (fun x => ((.string x.1, .held (f x.2)) : Lit × DataW Value)) = DataW.insert (.string x.1, .held (f x.2)) (m.map fun x => (.string x.1, .held (f x.2)))
  | [] => rfl
  | y :: r => by
    show _ = if bytesBefore x.1 y.1 then _ else _
    unfold sIns
    cases bytesBefore x.1 y.1
    · simp [sD_ins f x r]
    · simp
theorem sD_filter (f : β → Value) (k : Key) (m : List (Key × β)) : (m.map fun x => ((.string x.1, .held (f x.2)) : Lit × DataW Value)).filter (fun p => !p.1.sameKey (.string k)) = (sDel k m).map fun x => (.string x.1, .held (f x.2)) := by
  unfold sDel
  rw [List.filter_map]
  rfl
theorem sD_del (f : β → Value) (k : Key) (m : List (Key × β)) : (sD f m).del (.string k) = sD f (sDel k m) := by
  show DataW.map _ = DataW.map _
  rw [sD_filter]
theorem sD_put (f : β → Value) (k : Key) (v : β) (m : List (Key × β)) : (sD f m).put (.string k) (.held (f v)) = sD f (sPut k v m) := by
  show DataW.map (DataW.insert _ _) = DataW.map _
  rw [sD_filter]
  unfold sPut
  rw [sD_ins]
theorem sD_find (f : β → Value) (k : Key) (m : List (Key × β)) : (m.map fun x => ((.string x.1, .held (f x.2)) : Lit × DataW Value)).find? (fun p => p.1.sameKey (.string k)) = (m.find? fun x => x.1 == k).map fun x => (.string x.1, .held (f x.2)) := by
  rw [List.find?_map]
  rfl
theorem sD_atKey (f : β → Value) (k : Key) (m : List (Key × β)) (z : DataW Value) : (sD f m).atKey (.string k) z = ((sGet k m).map fun v => DataW.held (f v)).getD z := by
  simp only [DataW.atKey, sD]
  rw [sD_find]
  unfold sGet
  cases m.find? fun x => x.1 == k <;> rfl
theorem sD_has (f : β → Value) (k : Key) (m : List (Key × β)) : Maps.has (sD f m) (.string k) = (sGet k m).isSome := by
  show List.any _ _ = _
  rw [List.any_map]
  unfold sGet
  induction m with
  | nil => rfl
  | cons x r ih =>
    simp only [List.any_cons, List.find?_cons]
    show ((x.1 == k) || _) = _
    cases h : x.1 == k
    · simpa using ih
    · simp
theorem sD_size (f : β → Value) (m : List (Key × β)) : Maps.size (sD f m) = m.length := by show List.length _ = _; simp
theorem sD_keys (f : β → Value) (m : List (Key × β)) : strKeys (sD f m) = m.map (·.1) := by
  show List.map _ (List.map _ _) = _
  rw [List.map_map]
  rfl

/-- Rising by key. -/
def Rising (m : List (Key × β)) : Prop := m.Pairwise fun p q => bytesBefore p.1 q.1 = true
theorem Rising.of_canon {f : β → Value} {m : List (Key × β)} (h : Maps.Canon (sD f m)) : Rising m := by
  obtain ⟨es, he, hp, _⟩ := h
  have : (m.map fun x => ((.string x.1, .held (f x.2)) : Lit × DataW Value)) = es := by injection he
  subst this
  exact List.pairwise_map.1 hp
theorem Rising.nodup {m : List (Key × β)} (h : Rising m) : (m.map (·.1)).Nodup :=
  List.pairwise_map.2 (h.imp fun {p q} hb e => by
    have := WideAt.bytes_irrefl q.1
    rw [e] at hb
    rw [this] at hb
    cases hb)
theorem before_le : ∀ {a b : Key}, bytesBefore a b = true → a ≤ b
  | [], b, _ => List.nil_le b
  | x :: r, [], h => by simp [bytesBefore] at h
  | x :: r, y :: s, h => by
    simp only [bytesBefore, Bool.or_eq_true, Bool.and_eq_true, decide_eq_true_eq, beq_iff_eq] at h
    rcases h with h | ⟨rfl, h⟩
    · exact Std.le_of_lt (List.cons_lt_cons_iff.2 (.inl h))
    · have := before_le h
      exact List.cons_le_cons_iff.2 (.inr ⟨rfl, this⟩)
theorem Rising.sorted {m : List (Key × β)} (h : Rising m) {ss : List Key} (hp : ss.Perm (m.map (·.1))) : (ss.mergeSort fun x y => decide (x ≤ y)) = m.map (·.1) := by
  have e : ss.mergeSort leB = (m.map (·.1)).mergeSort leB := mergeSort_of_perm hp
  refine e.trans ?_
  refine List.mergeSort_of_pairwise ?_
  exact List.pairwise_map.2 (h.imp fun {p q} hb => by simp only [leB, decide_eq_true_eq]; exact before_le hb)

theorem sGet_none {k : Key} {m : List (Key × β)} : sGet k m = none ↔ ∀ x ∈ m, x.1 ≠ k := by
  unfold sGet
  rw [Option.map_eq_none_iff, List.find?_eq_none]
  simp
theorem sGet_mem {k : Key} {m : List (Key × β)} {v : β} (h : sGet k m = some v) : (k, v) ∈ m := by
  unfold sGet at h
  obtain ⟨x, hx, rfl⟩ := Option.map_eq_some_iff.1 h
  have h1 := List.mem_of_find?_eq_some hx
  have h2 := List.find?_some hx
  have : x.1 = k := by simpa using h2
  rw [← this]
  exact h1
theorem mem_sIns {x y : Key × β} {l : List (Key × β)} : y ∈ sIns x l ↔ y = x ∨ y ∈ l := by
  induction l with
  | nil => simp [sIns]
  | cons z r ih =>
    unfold sIns
    split
    · simp
    · simp [ih]; constructor <;> (rintro (h | h | h) <;> simp [h])
theorem mem_sDel {k : Key} {y : Key × β} {l : List (Key × β)} : y ∈ sDel k l ↔ y ∈ l ∧ y.1 ≠ k := by simp [sDel]
theorem mem_sPut {k : Key} {v : β} {y : Key × β} {l : List (Key × β)} : y ∈ sPut k v l ↔ y = (k, v) ∨ y ∈ l ∧ y.1 ≠ k := by unfold sPut; rw [mem_sIns, mem_sDel]
theorem sGet_of_mem {k : Key} {m : List (Key × β)} {v : β} (hn : (m.map (·.1)).Nodup) (h : (k, v) ∈ m) : sGet k m = some v := by
  induction m with
  | nil => cases h
  | cons x r ih =>
    rw [List.map_cons, List.nodup_cons] at hn
    unfold sGet
    rw [List.find?_cons]
    rcases List.mem_cons.1 h with rfl | h
    · simp
    · have : x.1 ≠ k := fun e => hn.1 (List.mem_map.2 ⟨(k, v), h, e.symm⟩)
      have e : (x.1 == k) = false := by simpa using this
      rw [e]
      exact ih hn.2 h
theorem sGet_put_same (k : Key) (v : β) (m : List (Key × β)) : sGet k (sPut k v m) = some v := by
  have hn : ∀ x ∈ sDel k m, x.1 ≠ k := fun x hx => (mem_sDel.1 hx).2
  unfold sPut
  generalize sDel k m = l at hn
  induction l with
  | nil => simp [sIns, sGet]
  | cons y r ih =>
    unfold sIns
    split
    · simp [sGet]
    · have e : (y.1 == k) = false := by simpa using hn y (by simp)
      have := ih (fun x hx => hn x (by simp [hx]))
      unfold sGet at this ⊢
      rw [List.find?_cons, e]
      exact this
theorem sGet_put_other {k k' : Key} (h : k' ≠ k) (v : β) (m : List (Key × β)) : sGet k' (sPut k v m) = sGet k' m := by
  unfold sPut
  have e0 : sGet k' (sDel k m) = sGet k' m := by
    unfold sGet sDel
    congr 1
    induction m with
    | nil => rfl
    | cons y r ih =>
      rw [List.filter_cons]
      cases h1 : y.1 == k
      · simp only [Bool.not_false, if_true, List.find?_cons]
        rw [ih]
      · have : y.1 = k := by simpa using h1
        have e : (y.1 == k') = false := by rw [this]; simpa using fun e => h e.symm
        simp only [Bool.not_true, Bool.false_eq_true, if_false, List.find?_cons, e]
        exact ih
  rw [← e0]
  generalize sDel k m = l
  induction l with
  | nil => simp [sIns, sGet, Ne.symm h]
  | cons y r ih =>
    unfold sIns
    split
    · have e : (k == k') = false := by simpa using fun e => h e.symm
      unfold sGet
      rw [List.find?_cons, e]
    · unfold sGet at ih ⊢
      rw [List.find?_cons, List.find?_cons]
      cases y.1 == k'
      · exact ih
      · rfl
theorem sGet_del_same (k : Key) (m : List (Key × β)) : sGet k (sDel k m) = none := sGet_none.2 fun _ hx => (mem_sDel.1 hx).2
theorem sIns_length (x : Key × β) : ∀ l : List (Key × β), (sIns x l).length = l.length + 1
  | [] => rfl
  | y :: r => by
    unfold sIns
    split
    · rfl
    · simp [sIns_length x r]
theorem sDel_of_none {k : Key} {m : List (Key × β)} (h : sGet k m = none) : sDel k m = m := by
  unfold sDel
  rw [List.filter_eq_self]
  intro x hx
  simpa using (sGet_none.1 h) x hx
theorem sDel_length {k : Key} : ∀ {m : List (Key × β)}, (m.map (·.1)).Nodup → (sGet k m).isSome → (sDel k m).length + 1 = m.length
  | [], _, h => by cases h
  | x :: r, hn, h => by
    rw [List.map_cons, List.nodup_cons] at hn
    unfold sDel
    rw [List.filter_cons]
    cases e : x.1 == k
    · simp only [Bool.not_false, if_true, List.length_cons]
      have h' : (sGet k r).isSome := by unfold sGet at h ⊢; rw [List.find?_cons, e] at h; exact h
      have := sDel_length hn.2 h'
      unfold sDel at this
      omega
    · have ek : x.1 = k := by simpa using e
      have : sGet k r = none := sGet_none.2 fun y hy e2 => hn.1 (List.mem_map.2 ⟨y, hy, e2.trans ek.symm⟩)
      have h2 := sDel_of_none this
      unfold sDel at h2
      simp [h2]
theorem sPut_length (k : Key) (v : β) {m : List (Key × β)} (hn : (m.map (·.1)).Nodup) : (sPut k v m).length = if (sGet k m).isSome then m.length else m.length + 1 := by
  unfold sPut
  rw [sIns_length]
  cases h : (sGet k m).isSome
  · have : sGet k m = none := by simpa using h
    rw [sDel_of_none this]
    simp
  · have := sDel_length hn h
    simp only [if_true]
    omega
theorem Rising.filter {m : List (Key × β)} (h : Rising m) (p : Key × β → Bool) : Rising (m.filter p) := List.Pairwise.filter p h
theorem Rising.ins {x : Key × β} {m : List (Key × β)} (h : Rising m) (hx : ∀ y ∈ m, y.1 ≠ x.1) : Rising (sIns x m) := by
  induction m with
  | nil => simp [sIns, Rising]
  | cons y r ih =>
    obtain ⟨h1, h2⟩ := List.pairwise_cons.1 h
    unfold sIns
    cases hb : bytesBefore x.1 y.1
    · have hyx : bytesBefore y.1 x.1 = true := by
        rcases WideAt.bytes_total y.1 x.1 (hx y (by simp)) with h | h
        · exact h
        · rw [hb] at h; cases h
      refine List.pairwise_cons.2 ⟨fun z hz => ?_, ih h2 (fun z hz => hx z (by simp [hz]))⟩
      rcases mem_sIns.1 hz with rfl | hz
      · exact hyx
      · exact h1 z hz
    · refine List.pairwise_cons.2 ⟨fun z hz => ?_, h⟩
      rcases List.mem_cons.1 hz with rfl | hz
      · exact hb
      · exact WideShapes.bytes_trans _ _ _ hb (h1 z hz)
theorem Rising.put {m : List (Key × β)} (h : Rising m) (k : Key) (v : β) : Rising (sPut k v m) := (h.filter _).ins fun _ hy => (mem_sDel.1 hy).2

/-- The elements, each turned. -/
def mapV {γ : Type} (g : β → γ) (m : List (Key × β)) : List (Key × γ) := m.map fun x => (x.1, g x.2)
theorem mapV_length {γ : Type} (g : β → γ) (m : List (Key × β)) : (mapV g m).length = m.length := by simp [mapV]
theorem mapV_mem {γ : Type} {g : β → γ} {m : List (Key × β)} {y : Key × γ} : y ∈ mapV g m ↔ ∃ x ∈ m, (x.1, g x.2) = y := by simp [mapV]
theorem sGet_map {γ : Type} (g : β → γ) (k : Key) (m : List (Key × β)) : sGet k (mapV g m) = (sGet k m).map g := by
  unfold sGet mapV
  rw [List.find?_map]
  show Option.map _ (Option.map _ (List.find? (fun x => x.1 == k) m)) = _
  cases List.find? (fun x => x.1 == k) m <;> rfl
theorem filter_map {γ : Type} (g : β → γ) (p : Key × γ → Bool) (m : List (Key × β)) : (mapV g m).filter p = mapV g (m.filter fun x => p (x.1, g x.2)) := by
  unfold mapV
  rw [List.filter_map]
  rfl
theorem sDel_map {γ : Type} (g : β → γ) (k : Key) (m : List (Key × β)) : sDel k (mapV g m) = mapV g (sDel k m) := filter_map g _ m
theorem sIns_map {γ : Type} (g : β → γ) (x : Key × β) : ∀ m : List (Key × β), sIns (x.1, g x.2) (mapV g m) = mapV g (sIns x m)
  | [] => rfl
  | y :: r => by
    show sIns (x.1, g x.2) ((y.1, g y.2) :: mapV g r) = _
    unfold sIns
    split
    · simp [mapV]
    · rw [sIns_map g x r]
      simp [mapV]
theorem sPut_map {γ : Type} (g : β → γ) (k : Key) (v : β) (m : List (Key × β)) : sPut k (g v) (mapV g m) = mapV g (sPut k v m) := by
  unfold sPut
  rw [sDel_map]
  exact sIns_map g (k, v) _
theorem Rising.mapV {γ : Type} {m : List (Key × β)} (h : Rising m) (g : β → γ) : Rising (mapV g m) := List.pairwise_map.2 h

/-! ### The operations, as run equations for the walk -/
section
variable {P : Program} {k t e : TypeId} {w : World} {b n : Nat} {f : β → Value} {m : List (Key × β)}
/-- 'm[k]'. -/
theorem run_look (h : w.ownsMap P k heldRd b n (sD f m)) (hk : P.underlying k = some .string) (ht : P.underlying t = some (.map k e)) {z : Value} (hz : (zeroValue e).run P w = .ok z w) (s : ByteArray) (hs : s.size ≤ maxLen) :
    (Instr.lookup t (.map (some b)) (.string s) false).run P w = .ok (((sGet s.data.toList m).map f).getD z) w := by
  obtain ⟨v, ps, hr, hv⟩ := h.lookup (string_keyed hk) ht hz (zd := .held z) (zp := []) rfl (key := .string s) (kl := .string s.data.toList) (keyOf_string_mk hk hs)
  rw [sD_atKey] at hv
  rw [hr]
  have e1 : DataW.held v = ((sGet s.data.toList m).map fun v => DataW.held (f v)).getD (.held z) := (congrArg Prod.fst (Option.some.inj hv))
  congr 1
  cases hg : sGet s.data.toList m with
  | none => rw [hg] at e1; simpa using e1
  | some c => rw [hg] at e1; simpa using e1
/-- 'v, ok := m[k]'. -/
theorem run_look_ok (h : w.ownsMap P k heldRd b n (sD f m)) (hk : P.underlying k = some .string) (ht : P.underlying t = some (.map k e)) {z : Value} (hz : (zeroValue e).run P w = .ok z w) (s : ByteArray) (hs : s.size ≤ maxLen) :
    (Instr.lookup t (.map (some b)) (.string s) true).run P w = .ok (.tuple #[((sGet s.data.toList m).map f).getD z, .bool (sGet s.data.toList m).isSome]) w := by
  obtain ⟨v, ps, hr, hv⟩ := h.look_ok (string_keyed hk) ht hz (zd := .held z) (zp := []) rfl (key := .string s) (kl := .string s.data.toList) (keyOf_string_mk hk hs)
  rw [sD_atKey] at hv
  rw [sD_has] at hr
  rw [hr]
  have e1 : DataW.held v = ((sGet s.data.toList m).map fun v => DataW.held (f v)).getD (.held z) := (congrArg Prod.fst (Option.some.inj hv))
  have e2 : v = ((sGet s.data.toList m).map f).getD z := by
    cases hg : sGet s.data.toList m with
    | none => rw [hg] at e1; simpa using e1
    | some c => rw [hg] at e1; simpa using e1
  rw [e2]
theorem own_tight (h : w.ownsMap P k heldRd b n (sD f m)) : w.ownsMap P k heldRd b m.length (sD f m) := by
  obtain ⟨es, clock, hb, F, hs, hD⟩ := h
  refine ⟨es, clock, hb, F, ?_, hD⟩
  have := congrArg Maps.size hD
  rw [sD_size] at this
  rw [this]
  simp [Maps.size, length_sorted]
theorem own_rise (h : w.ownsMap P k heldRd b n (sD f m)) (hk : P.underlying k = some .string) : Rising m := Rising.of_canon (h.canon (string_keyed hk))
theorem own_keys (h : w.ownsMap P k heldRd b n (sD f m)) (hk : P.underlying k = some .string) : ∀ x ∈ m, x.1.length ≤ maxLen := fun x hx =>
  strKeys_le h hk x.1 (by rw [sD_keys]; exact List.mem_map.2 ⟨x, hx, rfl⟩)
theorem own_frame {w' : World} (h : w.ownsMap P k heldRd b n (sD f m)) (hb : w'.heap[b]? = w.heap[b]?) : w'.ownsMap P k heldRd b n (sD f m) := by
  obtain ⟨es, clock, hbb, r⟩ := h
  exact ⟨es, clock, hb.trans hbb, r⟩
theorem run_len_map (h : w.ownsMap P k heldRd b n (sD f m)) (ht : P.underlying t = some (.map k e)) (ty : TypeId) : (Builtin.len_ #[t] ty #[.map (some b)]).run P w = .ok (.int .i64 m.length) w := by
  rw [h.len ht ty, sD_size]
end

theorem drew_ranges {P : Program} {k : TypeId} {w : World} {b r n : Nat} {D : DataW Value} {left : Lit → Bool} {cnt : Nat} (h : w.ranges P k heldRd b r n D left cnt) (q : Nat) : (w.drewN q).ranges P k heldRd b r n D left cnt := h

/-- A range's step, at the operation. -/
theorem wpList_next_sD {P : Program} (w : World) {ops : Array Oper} {rest : List Oper} {o : Oper} {a : Act} {Q : Exit → Act → World → Prop} (hg : o.guard = none) (it : Operand) (hop : o.op = Op.next it false) (k : TypeId) (hk : P.underlying k = some .string)
    (f : β → Value) (b r n : Nat) (m : List (Key × β)) (left : Lit → Bool) (cnt : Nat) (hit : a.eval it = .pointer (some ⟨r, 0, none⟩)) (h : w.ranges P k heldRd b r n (sD f m) left cnt)
    (hDone : (∀ kl, left kl = false) → wpList P ops Q rest (a.put o.dst (.tuple #[.bool false])) w)
    (hMore : ∀ (s : ByteArray) (c : β) (w' : World) (cnt' : Nat), s.size ≤ maxLen → (s.data.toList, c) ∈ m → left (.string s.data.toList) = true → w'.ranges P k heldRd b r n (sD f m) (fun z => left z && !z.sameKey (.string s.data.toList)) cnt' → cnt' < cnt →
      w.grownBy w' (some r) → w'.heap.size = w.heap.size → (Instr.entry (.pointer (some ⟨r, 0, none⟩))).run P w' = .ok (.tuple #[.string s, f c]) w' → wpList P ops Q rest (a.put o.dst (.tuple #[.bool true, .string s, f c])) w') :
    wpList P ops Q (o :: rest) a w := by
  refine wpList_next_ranges (α := ByteArray) (β := Value) w hg it hop k (string_keyed hk) heldRd Value.string id (fun key kl hkey => ?_) (fun v y _ => ⟨v, rfl⟩) b r n _ left cnt hit h (fun _ hl => hDone hl) ?_
  · obtain ⟨s, hs, _⟩ := WideMaps.string_of_keyOf hk hkey
    exact ⟨s, hs⟩
  · intro s c kl y w' cnt' hkey hlk hv hat hrg hlt hgr hsz hen
    obtain ⟨s', hs', rfl, hle⟩ := WideMaps.string_of_keyOf hk hkey
    injection hs' with hs'
    subst hs'
    have h1 := hat .nil
    rw [sD_atKey] at h1
    have hy : y = (.held c, []) := (Option.some.inj hv).symm
    subst hy
    cases hgt : sGet s.data.toList m with
    | none =>
      rw [hgt] at h1
      cases h1
    | some x =>
      rw [hgt] at h1
      have hx : f x = c := by injection h1
      subst hx
      exact hMore s x w' cnt' hle (sGet_mem hgt) hlk hrg hlt hgr hsz hen
end Go.Proofs.Ytkdhafndngcamaa
