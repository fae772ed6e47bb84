/-
  The reference's entries as cells; a row of them of one's own; tapsterref12's lists, plainly.
  A box of two cells that may be written; the reference's book as a result; an entry put behind entries of one's own, in a region whose order is drawn.
  What tapsterref12.Drop answers.
  What tapsterref12.Named answers.
  The two ways to tell whether a name may be agree.
  What tapsterref04.Check .. tapsterref08.Check answer; two policies that differ.
  What tapsterref12.Lay answers.
  No condition.
-/
import Derived.Test.YtcfdcianpicbmaaGreatM2
import Derived.ArgAppend
import Derived.Lib.DecodeN
namespace Go.Proofs.YtcfdcianpicbmaaGreat
open Go.RowKit Go.Maps
set_option linter.unusedVariables false
set_option linter.unusedSimpArgs false

def ecell (x : Key × EV) : List Value := [.string (txt x.1), .int .i64 x.2.1.kind, .int .i64 x.2.1.limit, .int .i64 x.2.1.period, .int .i64 x.2.1.burst, .int .i64 x.2.1.cap, .bool x.2.1.opn, .int .i64 x.2.2]
def ecells : List (Key × EV) → List Value
  | [] => []
  | x :: l => ecell x ++ ecells l
theorem ecells_len (l : List (Key × EV)) : (ecells l).length = l.length * 8 := by
  induction l with
  | nil => rfl
  | cons x l ih => simp only [ecells, List.length_append, List.length_cons, ih]; show (ecell x).length + _ = _; unfold ecell; simp; omega
theorem ecells_append (a b : List (Key × EV)) : ecells (a ++ b) = ecells a ++ ecells b := by
  induction a with
  | nil => rfl
  | cons x l ih => simp only [List.cons_append, ecells, ih, List.append_assoc]
theorem ecells_one (l : List (Key × EV)) : ∀ u ∈ ecells l, u.oneCell' = true := by
  induction l with
  | nil => intro u h; cases h
  | cons x l ih =>
    intro u h
    rcases List.mem_append.1 h with h | h
    · unfold ecell at h
      simp at h
      rcases h with rfl | rfl | rfl | rfl | rfl | rfl | rfl | rfl <;> rfl
    · exact ih u h
theorem ecells_get (l : List (Key × EV)) (i : Nat) (h : i < l.length) (k : Nat) (hk : k < 8) : (ecells l)[i * 8 + k]? = (ecell (lk l i))[k]? := by
  induction l generalizing i with
  | nil => simp at h
  | cons x l ih =>
    have hx : (ecell x).length = 8 := rfl
    cases i with
    | zero =>
      rw [Nat.zero_mul, Nat.zero_add]
      show (ecell x ++ ecells l)[k]? = _
      rw [List.getElem?_append_left (by omega)]
      rfl
    | succ i =>
      show (ecell x ++ ecells l)[(i + 1) * 8 + k]? = _
      rw [List.getElem?_append_right (by omega), hx, show (i + 1) * 8 + k - 8 = i * 8 + k by omega, ih i (by simpa using h)]
      rfl
theorem row_es {w : World} {base : Nat} {v : Value} {n : Nat} {l : List (Key × EV)} (h : w.ownsRow base 85 8 v n (ecells l)) (hk : ∀ x ∈ l, x.1.length ≤ maxLen) : ∃ a c, v = .slice a n c ∧ EsAt w a n c l := by
  have hl : l.length = n := by have := h.1; rw [ecells_len] at this; omega
  rcases h.2 with ⟨rfl, he⟩ | ⟨g, cap, cur, rfl, hbg, hg, hnc, hcm, hcs, htake⟩
  · have hn : n = 0 := by omega
    subst hn
    exact ⟨none, 0, rfl, hl, Nat.le_refl _, by omega, fun i hi => by omega⟩
  · refine ⟨some ⟨g, 0, none⟩, cap, rfl, hl, hnc, ?_, fun i hi => ⟨g, 0, rfl, ?_, ?_⟩⟩
    · simp only [maxLen] at hcm; omega
    · unfold lk
      rw [List.getD_eq_getElem?_getD, List.getElem?_eq_getElem (by omega)]
      exact hk _ (List.getElem_mem _)
    · have hc := World.ownsRow.cells h (g := g) rfl
      have hh : ∀ k, k < 8 → ∀ u, (ecell (lk l i))[k]? = some u → w.cell? ⟨g, 0 + i * 8 + k, none⟩ = some u := fun k hk u hu => by
        have := hc (i * 8 + k) u (by rw [ecells_get l i (by omega) k hk]; exact hu)
        rw [Addr.add_lit] at this
        rw [show 0 + i * 8 + k = 0 + (i * 8 + k) by omega]
        exact this
      exact ⟨hh 0 (by omega) _ rfl, hh 1 (by omega) _ rfl, hh 2 (by omega) _ rfl, hh 3 (by omega) _ rfl, hh 4 (by omega) _ rfl, hh 5 (by omega) _ rfl, hh 6 (by omega) _ rfl, hh 7 (by omega) _ rfl⟩
theorem infoEE : (Tryz.prog.info? 85).map (fun i => (i.zero, i.size, i.bytes)) = some (some (.agg #[.string ByteArray.empty, .int .i64 0, .int .i64 0, .int .i64 0, .int .i64 0, .int .i64 0, .bool false, .int .i64 0]), 8, 72) := by kernel_rfl
theorem undEE : Tryz.prog.underlying 27 = some (.slice 85) := by kernel_rfl
/-- The entries whose key is another, of the first j. -/
theorem del_take (l : List (Key × EV)) (k : Key) (j : Nat) (h : j < l.length) : sDel k (l.take (j + 1)) = if (lk l j).1 = k then sDel k (l.take j) else sDel k (l.take j) ++ [lk l j] := by
  have e : lk l j = l[j] := by unfold lk; rw [List.getD_eq_getElem?_getD, List.getElem?_eq_getElem h]; rfl
  rw [List.take_succ_eq_append_getElem h]
  unfold sDel
  rw [List.filter_append, e]
  by_cases hk : (l[j]).1 = k
  · rw [if_pos hk]; simp [hk]
  · rw [if_neg hk]; simp [hk]
end Go.Proofs.YtcfdcianpicbmaaGreat

namespace Go.Proofs.YtcfdcianpicbmaaGreat
open Go.RowKit Go.Maps
set_option linter.unusedVariables false
set_option linter.unusedSimpArgs false

def Res2 (w : World) (b : Nat) : Prop := ∀ i, i < 2 → w.frozen? ⟨b, i, none⟩ = false ∧ (w.cell? ⟨b, i, none⟩).isSome = true
theorem res2_all {w : World} {b : Nat} (h : Res2 w b) : w.frozen? ⟨b, 0, none⟩ = false ∧ w.frozen? ⟨b, 1, none⟩ = false ∧ ∃ u0 u1, w.cell? ⟨b, 0, none⟩ = some u0 ∧ w.cell? ⟨b, 1, none⟩ = some u1 := by
  obtain ⟨u0, h0⟩ := Option.isSome_iff_exists.1 (h 0 (by omega)).2
  obtain ⟨u1, h1⟩ := Option.isSome_iff_exists.1 (h 1 (by omega)).2
  exact ⟨(h 0 (by omega)).1, (h 1 (by omega)).1, u0, u1, h0, h1⟩
theorem res2_new (w : World) (c0 c1 : Value) (t : TypeId) {b : Nat} (hb : b = w.heap.size) : Res2 (w.alloc (.cells #[c0, c1] t)) b := by
  subst hb
  intro i hi
  have : i = 0 ∨ i = 1 := by omega
  rcases this with rfl | rfl <;> exact ⟨by simp, by simp⟩
theorem res2_bl {w w' : World} {b : Nat} (h : Res2 w b) (hb : Below w.heap.size w w') : Res2 w' b := fun i hi => by
  have h1 := h i hi
  obtain ⟨u, hu⟩ := Option.isSome_iff_exists.1 h1.2
  have hlt : b < w.heap.size := World.block_lt_of_cell? w _ hu
  exact ⟨by rw [hb.frozen (p := ⟨b, i, none⟩) hlt]; exact h1.1, by rw [hb.cell (p := ⟨b, i, none⟩) hlt]; exact h1.2⟩
theorem res2_lt {w : World} {b : Nat} (h : Res2 w b) : b < w.heap.size := by
  obtain ⟨u, hu⟩ := Option.isSome_iff_exists.1 (h 0 (by omega)).2
  exact World.block_lt_of_cell? w _ hu
theorem res2_set {w : World} {b : Nat} (h : Res2 w b) (a : Addr) (v : Value) : Res2 (w.setCell a v) b := fun i hi => ⟨by rw [World.frozen?_setCell]; exact (h i hi).1, isSome_set (h i hi).2⟩
theorem grown_res2 {w w' : World} {row : Option Nat} {b : Nat} (hg : w.grownBy w' row) (hr : Res2 w b) (hne : some b ≠ row) : Res2 w' b := fun i hi => by
  have hb := res2_lt hr
  have h := hr i hi
  simp only [World.cell?, World.frozen?, hg.block b hb hne] at h ⊢
  exact h
theorem sz_bl {w w' : World} {B : Nat} (h : B ≤ w.heap.size) (hb : Below w.heap.size w w') : B ≤ w'.heap.size := Nat.le_trans h hb.size
theorem sz_set {w : World} {a : Addr} {v : Value} {B : Nat} (h : B ≤ w.heap.size) : B ≤ (w.setCell a v).heap.size := by simpa using h
/-- Two cells of a box are written. -/
theorem set2r {w : World} {b : Nat} {v0 v1 : Value} (h : Res2 w b) : ((w.setCell ⟨b, 0, none⟩ v0).setCell ⟨b, 1, none⟩ v1).cell? ⟨b, 0, none⟩ = some v0 ∧ ((w.setCell ⟨b, 0, none⟩ v0).setCell ⟨b, 1, none⟩ v1).cell? ⟨b, 1, none⟩ = some v1 := by
  obtain ⟨-, -, u0, u1, h0, h1⟩ := res2_all h
  refine ⟨by rw [World.cell?_setCell_other _ _ _ _ (by simp)]; exact World.cell?_setCell_same' w _ _ (by rw [h0]; rfl), World.cell?_setCell_same' _ _ _ (by rw [World.cell?_setCell_other _ _ _ _ (by simp), h1]; rfl)⟩
theorem results_T {fn : Func} {x : Tmp} (h : fn.results = #[.cell x 29]) (tmps : Array Value) (w : World) {b : Nat} {v0 v1 : Value} (hx : tmps.getD x undef = .pointer (some ⟨b, 0, none⟩))
    (hc : w.cell? ⟨b, 0, none⟩ = some v0 ∧ w.cell? ⟨b, 1, none⟩ = some v1) : (results fn tmps).run Tryz.prog w = .ok (.agg #[v0, v1]) w := by
  obtain ⟨i0, i1⟩ := hc
  have hx' : tmps[x]?.getD undef = .pointer (some ⟨b, 0, none⟩) := by simpa using hx
  unfold results
  simp [h, hx', go_sem, i0, i1]
theorem results_T2 {fn : Func} {x t : Tmp} (h : fn.results = #[.cell x 29, .tmp t]) (tmps : Array Value) (w : World) {b : Nat} {v0 v1 : Value} (hx : tmps.getD x undef = .pointer (some ⟨b, 0, none⟩))
    (hc : w.cell? ⟨b, 0, none⟩ = some v0 ∧ w.cell? ⟨b, 1, none⟩ = some v1) : (results fn tmps).run Tryz.prog w = .ok (.tuple #[.agg #[v0, v1], tmps.getD t undef]) w := by
  obtain ⟨i0, i1⟩ := hc
  have hx' : tmps[x]?.getD undef = .pointer (some ⟨b, 0, none⟩) := by simpa using hx
  unfold results
  simp [h, hx', go_sem, i0, i1]
theorem results_T3 {fn : Func} {x t s : Tmp} (h : fn.results = #[.cell x 29, .tmp t, .tmp s]) (tmps : Array Value) (w : World) {b : Nat} {v0 v1 : Value} (hx : tmps.getD x undef = .pointer (some ⟨b, 0, none⟩))
    (hc : w.cell? ⟨b, 0, none⟩ = some v0 ∧ w.cell? ⟨b, 1, none⟩ = some v1) : (results fn tmps).run Tryz.prog w = .ok (.tuple #[.agg #[v0, v1], tmps.getD t undef, tmps.getD s undef]) w := by
  obtain ⟨i0, i1⟩ := hc
  have hx' : tmps[x]?.getD undef = .pointer (some ⟨b, 0, none⟩) := by simpa using hx
  unfold results
  simp [h, hx', go_sem, i0, i1]
/-- A slice of new memory, or the one that was. -/
def Sr (a : Option Addr) (n B : Nat) (a' : Option Addr) (n' : Nat) : Prop := (a' = a ∧ n' = n) ∨ ∀ ad, a' = some ad → B ≤ ad.block
theorem es_lt {w : World} {a : Option Addr} {n c : Nat} {l : List (Key × EV)} (h : EsAt w a n c l) : ∀ ad, a = some ad → n ≠ 0 → ad.block < w.heap.size := fun ad e hn => by
  obtain ⟨b, off, e2, -, h0, -⟩ := h.2.2.2 0 (by omega)
  rw [e] at e2
  injection e2 with e2
  subst e2
  exact World.block_lt_of_cell? w _ h0
theorem es_set {w : World} {a : Option Addr} {n c : Nat} {l : List (Key × EV)} (h : EsAt w a n c l) (x : Addr) (v : Value) (hne : ∀ ad, a = some ad → n ≠ 0 → ad.block ≠ x.block) : EsAt (w.setCell x v) a n c l :=
  ⟨h.1, h.2.1, h.2.2.1, fun i hi => by
    obtain ⟨b, off, e, hk, h0, h1, h2, h3, h4, h5, h6, h7⟩ := h.2.2.2 i hi
    have hb : x.block ≠ b := fun e2 => hne _ e (by omega) e2.symm
    exact ⟨b, off, e, hk, far_set h0 _ _ hb, far_set h1 _ _ hb, far_set h2 _ _ hb, far_set h3 _ _ hb, far_set h4 _ _ hb, far_set h5 _ _ hb, far_set h6 _ _ hb, far_set h7 _ _ hb⟩⟩
/-- Entries of one's own. -/
def OwnE (w : World) (base : Nat) (v : Value) (n : Nat) (l : List (Key × EV)) : Prop := w.ownsRow base 85 8 v n (ecells l)
theorem owne_bl {w w' : World} {base : Nat} {v : Value} {n : Nat} {l : List (Key × EV)} (h : OwnE w base v n l) (hb : Below w.heap.size w w') : OwnE w' base v n l := by
  obtain ⟨hl, h⟩ := h
  refine ⟨hl, ?_⟩
  rcases h with h | ⟨g, cap, cur, rfl, h2, h3, h4⟩
  · exact .inl h
  · refine .inr ⟨g, cap, cur, rfl, h2, ?_, h4⟩
    rw [hb.block g (Array.getElem?_eq_some_iff.1 h3).1]
    exact h3
theorem owne_set {w : World} {base : Nat} {v : Value} {n : Nat} {l : List (Key × EV)} (h : OwnE w base v n l) (a : Addr) (x : Value) (ha : a.block < base) : OwnE (w.setCell a x) base v n l := ownsRow_setCell_below h ha x
theorem owne_mono {w : World} {base base' : Nat} {v : Value} {n : Nat} {l : List (Key × EV)} (h : OwnE w base v n l) (hb : base' ≤ base) : OwnE w base' v n l := by
  obtain ⟨hl, h⟩ := h
  refine ⟨hl, ?_⟩
  rcases h with h | ⟨g, cap, cur, h1, h2, h3⟩
  · exact .inl h
  · exact .inr ⟨g, cap, cur, h1, Nat.le_trans hb h2, h3⟩
theorem owne_es {w : World} {base : Nat} {a : Option Addr} {n c : Nat} {l : List (Key × EV)} (h : OwnE w base (.slice a n c) n l) (hk : ∀ x ∈ l, x.1.length ≤ maxLen) : EsAt w a n c l := by
  obtain ⟨a', c', e, h⟩ := row_es h hk
  cases e
  exact h
theorem set_other0 {w : World} {a p : Addr} {u : Value} (h : w.cell? p = some u) (v : Value) (hne : a ≠ p) : (w.setCell a v).cell? p = some u := by rw [World.cell?_setCell_other w a p v hne]; exact h
/-- An entry put behind, in order. -/
theorem owne_form {w : World} {base : Nat} {v : Value} {n : Nat} {l : List (Key × EV)} (h : OwnE w base v n l) : ∃ a c, v = .slice a n c := by
  have hl : l.length = n := by have := h.1; rw [ecells_len] at this; omega
  rcases h.2 with ⟨rfl, he⟩ | ⟨g, cap, cur, rfl, -⟩
  · have hn : n = 0 := by omega
    subst hn
    exact ⟨none, 0, rfl⟩
  · exact ⟨_, _, rfl⟩
theorem wp_es {o : Oper} {x0 : Act} {K : Act → World → Prop} {Q : Exit → Act → World → Prop} (w : World) (s x : Operand)
    (ho : o.op = .call { callee := .builtin .append, args := #[s, x], argTypes := #[27, 27] })
    (base : Nat) (v : Value) (n : Nat) (L : List (Key × EV)) (hs : x0.eval s = v) (hown : OwnE w base v n L) (q c : Nat) (y : Key × EV) (hx : x0.eval x = .slice (some ⟨q, 0, none⟩) 1 c)
    (hc : ∀ j u, (ecell y)[j]? = some u → w.cell? ⟨q, j, none⟩ = some u) (hn : n ≤ 1000) (hbase : base ≤ w.heap.size)
    (h : ∀ v' w', OwnE w' base v' (n + 1) (L ++ [y]) → w.grownBy w' v.ownBlock → K (x0.put o.dst v') w') : o.wp Tryz.prog x0 w K Q := by
  obtain ⟨i0, hi, hz0, hz1, hz2⟩ := info_of infoEE
  have hnews : ∀ j x, (ecells [y])[j]? = some x → w.cell? ((⟨q, 0, none⟩ : Addr).add j) = some x := fun j x hx => by
    rw [Addr.add_lit, Nat.zero_add]
    exact hc j x (by simpa [ecells] using hx)
  obtain ⟨v', w', hr, h2, h3, -⟩ := run_append_own w base 27 o.type 85 i0 _ 8 72 undEE hi hz0 hz1 hz2 rfl (by decide) v n (ecells L) hown ⟨q, 0, none⟩ 1 c (ecells [y]) rfl hnews (ecells_one _) (by simp only [maxLen]; omega) (by omega) hbase
  have h2' : OwnE w' base v' (n + 1) (L ++ [y]) := by unfold OwnE; rw [ecells_append]; exact h2
  unfold Oper.wp execOp
  simp only [ho, resolve, invoke, builtin, Sem.run_bind, Sem.run_pure, Result.andThen_ok, List.map_toArray, List.map_cons, List.map_nil, hs, hx, hr]
  exact h v' w' h2' h3
theorem wpList_es {ops : Array Oper} {rest : List Oper} {o : Oper} {x0 : Act} {Q : Exit → Act → World → Prop} (w : World) (hgd : o.guard = none) (s x : Operand)
    (ho : o.op = .call { callee := .builtin .append, args := #[s, x], argTypes := #[27, 27] })
    (base : Nat) (v : Value) (n : Nat) (L : List (Key × EV)) (hs : x0.eval s = v) (hown : OwnE w base v n L) (q c : Nat) (y : Key × EV) (hx : x0.eval x = .slice (some ⟨q, 0, none⟩) 1 c)
    (hc : ∀ j u, (ecell y)[j]? = some u → w.cell? ⟨q, j, none⟩ = some u) (hn : n ≤ 1000) (hbase : base ≤ w.heap.size)
    (h : ∀ v' w', OwnE w' base v' (n + 1) (L ++ [y]) → w.grownBy w' v.ownBlock → wpList Tryz.prog ops Q rest (x0.put o.dst v') w') : wpList Tryz.prog ops Q (o :: rest) x0 w :=
  wpList_plain hgd fun K hK => wp_es w s x ho base v n L hs hown q c y hx hc hn hbase (fun v' w' h1 h2 => hK _ _ (h v' w' h1 h2))
end Go.Proofs.YtcfdcianpicbmaaGreat

namespace Go.Proofs.YtcfdcianpicbmaaGreat
open Go.RowKit Go.Maps
set_option linter.unusedVariables false
set_option linter.unusedSimpArgs false

theorem ecell_at {w : World} {q : Nat} {y : Key × EV} (h0 : w.cell? ⟨q, 0, none⟩ = some (.string (txt y.1))) (h1 : w.cell? ⟨q, 1, none⟩ = some (.int .i64 y.2.1.kind)) (h2 : w.cell? ⟨q, 2, none⟩ = some (.int .i64 y.2.1.limit)) (h3 : w.cell? ⟨q, 3, none⟩ = some (.int .i64 y.2.1.period)) (h4 : w.cell? ⟨q, 4, none⟩ = some (.int .i64 y.2.1.burst)) (h5 : w.cell? ⟨q, 5, none⟩ = some (.int .i64 y.2.1.cap)) (h6 : w.cell? ⟨q, 6, none⟩ = some (.bool y.2.1.opn)) (h7 : w.cell? ⟨q, 7, none⟩ = some (.int .i64 y.2.2)) :
    ∀ j u, (ecell y)[j]? = some u → w.cell? ⟨q, j, none⟩ = some u := fun j u hj => by
  unfold ecell at hj
  match j, hj with
  | 0, hj => cases hj; exact h0
  | 1, hj => cases hj; exact h1
  | 2, hj => cases hj; exact h2
  | 3, hj => cases hj; exact h3
  | 4, hj => cases hj; exact h4
  | 5, hj => cases hj; exact h5
  | 6, hj => cases hj; exact h6
  | 7, hj => cases hj; exact h7
  | j + 8, hj => simp at hj
set_option maxHeartbeats 2000000 in
set_option maxRecDepth 100000 in
theorem rdrop_any (a : Option Addr) (n c : Nat) (l : List (Key × EV)) (V : Int) (s : ByteArray) (w : World) (h : EsAt w a n c l) (hn : n ≤ 1000) :
    Calls Tryz.prog 38 #[.agg #[.slice a n c, .int .i64 V], .string s] w fun e w' => ∃ a' n' c', e = .returned (.tuple #[.agg #[.slice a' n' c', .int .i64 V], .bool (decide (n' < n))]) ∧ EsAt w' a' n' c' (sDel s.data.toList l) ∧ (∀ ad, a' = some ad → w.heap.size ≤ ad.block) ∧ Below w.heap.size w w' := by
  have hs : ∀ j, j < n → ((lk l j).1 = s.data.toList → sDel s.data.toList (l.take (j + 1)) = sDel s.data.toList (l.take j)) ∧ (¬ (lk l j).1 = s.data.toList → sDel s.data.toList (l.take (j + 1)) = sDel s.data.toList (l.take j) ++ [lk l j]) := fun j hj => by
    have e := del_take l s.data.toList j (by rw [h.1]; exact hj)
    exact ⟨fun hk => by rw [e, if_pos hk], fun hk => by rw [e, if_neg hk]⟩
  have hlen : ∀ j, j ≤ n → (sDel s.data.toList (l.take j)).length ≤ j := fun j hj => Nat.le_trans (List.length_filter_le _ _) (by rw [List.length_take]; omega)
  have he : sDel s.data.toList (l.take n) = sDel s.data.toList l := by rw [← h.1, List.take_length]
  have hky : ∀ x ∈ sDel s.data.toList l, x.1.length ≤ maxLen := fun x hx => by
    obtain ⟨i, hi, e⟩ := List.mem_iff_getElem.1 (List.mem_filter.1 hx).1
    obtain ⟨b, off, -, hl, -⟩ := h.2.2.2 i (by rw [← h.1]; exact hi)
    unfold lk at hl
    rw [List.getD_eq_getElem?_getD, List.getElem?_eq_getElem hi] at hl
    rw [← e]
    exact hl
  generalize sDel s.data.toList l = R at *
  generalize hF : (fun j => sDel s.data.toList (l.take j)) = F at *
  have HS := Go.Lib.hid (show ∀ j, j < n → ((lk l j).1 = s.data.toList → F (j + 1) = F j) ∧ (¬ (lk l j).1 = s.data.toList → F (j + 1) = F j ++ [lk l j]) by rw [← hF]; exact hs)
  have HLN := Go.Lib.hid (show ∀ j, j ≤ n → (F j).length ≤ j by rw [← hF]; exact hlen)
  have HN := Go.Lib.hid (show F n = R by rw [← hF]; exact he)
  have HF0 := Go.Lib.hid (show F 0 = [] by rw [← hF]; rfl)
  have HKY := Go.Lib.hid hky
  have HE := Go.Lib.hid h
  clear hs hlen he hF hky h
  go_enter Tryz.func38, Tryz.ntmps38
  go_wp2_with fail
  refine wp_abs (S0 := fun X => (fun w' => w'.cell? ⟨w.heap.size, 0, none⟩ = some (.slice a n c) ∧ Res2 w' (w.heap.size + 1) ∧ w'.cell? ⟨w.heap.size + 1 + 1, 0, none⟩ = some (.slice none 0 0) ∧ w'.cell? ⟨w.heap.size + 1 + 1, 1, none⟩ = some (.int .i64 V) ∧ Res2 w' (w.heap.size + 1 + 1) ∧ w.heap.size + 1 + 1 + 1 ≤ w'.heap.size ∧ Below w.heap.size w w') X) ⟨by go_simp, res2_bl (res2_new (w.alloc _) _ _ _ (by simp)) (bl_alloc (bl_refl _) _), by go_simp, by go_simp, res2_new _ _ _ _ (by simp), by simp, bl_alloc (bl_alloc (bl_alloc (bl_refl _) _) _) _⟩ ?_
  rintro w1 ⟨t0, rR, u0, u1, uR, sz, hB⟩
  have lb_t := World.block_lt_of_cell? w1 _ t0
  dsimp only at lb_t
  have lb_u := World.block_lt_of_cell? w1 _ u0
  dsimp only at lb_u
  go_loopw [7] (fun s7 wr => ∃ (j : Nat) (v : Value), s7 = .int .i64 j ∧ j ≤ n ∧ Hid (wr.cell? ⟨w.heap.size + 1 + 1, 0, none⟩ = some v ∧ OwnE wr (w.heap.size + 1 + 1 + 1) v (F j).length (F j)) ∧ Hid ((fun w' => w'.cell? ⟨w.heap.size, 0, none⟩ = some (.slice a n c) ∧ Res2 w' (w.heap.size + 1) ∧ w'.cell? ⟨w.heap.size + 1 + 1, 1, none⟩ = some (.int .i64 V) ∧ Res2 w' (w.heap.size + 1 + 1) ∧ w.heap.size + 1 + 1 + 1 ≤ w'.heap.size ∧ Below w.heap.size w w') wr)) (fun s7 _ => n - (intOf s7).toNat)
  case atStart => exact ⟨0, _, rfl, Nat.zero_le _, ⟨u0, by rw [HF0.out]; exact ⟨rfl, .inl ⟨rfl, rfl⟩⟩⟩, ⟨t0, rR, u1, uR, sz, hB⟩⟩
  case round =>
    obtain ⟨j, v, rfl, hj, HV, H⟩ := hrel
    clear u0
    replace H := H.out
    clear hB t0 rR u1 uR sz
    obtain ⟨t0, rR, u1, uR, sz, hB⟩ := H
    replace lb_t := World.block_lt_of_cell? wr _ t0
    dsimp only at lb_t
    obtain ⟨u0, ow⟩ := HV.out
    clear HV
    have lnj := HLN.out j hj
    by_cases hjn : j < n
    · obtain ⟨hs1, hs2⟩ := HS.out j hjn
      obtain ⟨g, off, rfl, hky, y0, y1, y2, y3, y4, y5, y6, y7⟩ := HE.out.2.2.2 j hjn
      have x0 := bl_cell hB y0
      have x1 := bl_cell hB y1
      have x2 := bl_cell hB y2
      have x3 := bl_cell hB y3
      have x4 := bl_cell hB y4
      have x5 := bl_cell hB y5
      have x6 := bl_cell hB y6
      have x7 := bl_cell hB y7
      have lbx := World.block_lt_of_cell? _ _ y0
      dsimp only at lbx
      clear y0 y1 y2 y3 y4 y5 y6 y7 hky
      have hTe := txt_eq (lk l j).1 s
      generalize hLK : lk l j = Y at *
      obtain ⟨KJ, p, ev⟩ := Y
      dsimp only at *
      generalize hTT : txt KJ = T at *
      have HTT := Go.Lib.hid hTT
      clear hTT hLK
      generalize hFj : F j = FJ at *
      have k0 : (0 : Int) ≤ (j : Int) := by omega
      have k1 : (j : Int) < (n : Int) := by omega
      have hj1 : j + 1 ≤ n := hjn
      have hms : n - (j + 1) < n - j := by omega
      have wj : IntKind.i64.wrap ((j : Int) + 1) = (j : Int) + 1 := IntWalk.i64_in _ (by omega)
      have ln1 : FJ.length ≤ 1000 := by omega
      clear hFj lnj
      by_cases hk : KJ = s.data.toList
      · rw [decide_eq_true hk] at hTe
        have HST := Go.Lib.hid (hs1 hk)
        clear hs1 hs2 hk
        go_wp2_with fail
        go_roundw
        case rel => exact ⟨j + 1, v, by go_num, hj1, ⟨u0, by rw [HST.out]; exact ow⟩, ⟨t0, rR, u1, uR, sz, hB⟩⟩
        case measure => (simp [intOf]; first | exact hms | omega)
      · rw [decide_eq_false hk] at hTe
        have HST := Go.Lib.hid (hs2 hk)
        clear hs1 hs2 hk
        go_wp2_with fail
        refine wp_region_held_drew (S := fun w' => w'.cell? ⟨w.heap.size, 0, none⟩ = some (.slice (some ⟨g, off, none⟩) n c) ∧ Res2 w' (w.heap.size + 1) ∧ w'.cell? ⟨w.heap.size + 1 + 1, 1, none⟩ = some (.int .i64 V) ∧ Res2 w' (w.heap.size + 1 + 1) ∧ w.heap.size + 1 + 1 + 1 ≤ w'.heap.size ∧ w'.cell? ⟨g, off + j * 8, none⟩ = some (.string T) ∧ w'.cell? ⟨g, off + j * 8 + 1, none⟩ = some (.int .i64 p.kind) ∧ w'.cell? ⟨g, off + j * 8 + 2, none⟩ = some (.int .i64 p.limit) ∧ w'.cell? ⟨g, off + j * 8 + 3, none⟩ = some (.int .i64 p.period) ∧ w'.cell? ⟨g, off + j * 8 + 4, none⟩ = some (.int .i64 p.burst) ∧ w'.cell? ⟨g, off + j * 8 + 5, none⟩ = some (.int .i64 p.cap) ∧ w'.cell? ⟨g, off + j * 8 + 6, none⟩ = some (.bool p.opn) ∧ w'.cell? ⟨g, off + j * 8 + 7, none⟩ = some (.int .i64 ev) ∧ Below w.heap.size w w') (by kernel_rfl) ?_ (fun hHeld => ?_)
        · exact ⟨t0, rR, u1, uR, sz, x0, x1, x2, x3, x4, x5, x6, x7, bl_drew hB⟩
        try simp only [Act.put, List.setIfInBounds_toArray, List.set_cons_zero, List.set_cons_succ]
        have hC := bl_cell (bl_drew (bl_refl wr)) u0
        have hO := owne_bl ow (bl_drew (bl_refl wr))
        clear hB t0 rR u1 uR sz x0 x1 x2 x3 x4 x5 x6 x7 u0 ow
        (refine tk (i := 0) rfl rfl hHeld ?_)
        (refine tk (i := 2) rfl rfl hHeld ?_)
        (refine tk (i := 3) rfl rfl hHeld ?_)
        (refine tk (i := 4) rfl rfl hHeld ?_)
        (refine tk (i := 5) rfl rfl hHeld ?_)
        (refine tk (i := 6) rfl rfl hHeld ?_)
        generalize hWd : wr.drew = Wd at *
        clear hWd
        refine callC2 (i := 1) (j := 7) rfl rfl ?_ ?_
        case' refine_1 =>
          intro K hK
          go_simp
          refine hK.out _ _ hHeld (fun hHeld => ?_)
          clear hK K
          try simp only [Act.put, List.setIfInBounds_toArray, List.set_cons_zero, List.set_cons_succ]
          refine callC (i := 7) rfl (fun K hK => ?_)
          obtain ⟨h_t0, h_rR, h_u1, h_uR, h_sz, h_x0, h_x1, h_x2, h_x3, h_x4, h_x5, h_x6, h_x7, h_B⟩ := (id hHeld)
          go_simp
          have ha := bl_alloc (bl_refl Wd) (.cells #[.string T, .int .i64 p.kind, .int .i64 p.limit, .int .i64 p.period, .int .i64 p.burst, .int .i64 p.cap, .bool p.opn, .int .i64 ev] 85)
          refine hK.out _ _ ?_ (fun hHeld2 => ?_)
          · (try dsimp only); exact ⟨bl_cell ha h_t0, res2_bl h_rR ha, bl_cell ha h_u1, res2_bl h_uR ha, sz_bl h_sz ha, bl_cell ha h_x0, bl_cell ha h_x1, bl_cell ha h_x2, bl_cell ha h_x3, bl_cell ha h_x4, bl_cell ha h_x5, bl_cell ha h_x6, bl_cell ha h_x7, bl_then h_B ha⟩
          clear hHeld h_t0 h_rR h_u1 h_uR h_sz h_x0 h_x1 h_x2 h_x3 h_x4 h_x5 h_x6 h_x7 h_B
          have hHeld := hHeld2
          clear hHeld2
          have lwq : Wd.heap.size < (Wd.alloc (.cells #[.string T, .int .i64 p.kind, .int .i64 p.limit, .int .i64 p.period, .int .i64 p.burst, .int .i64 p.cap, .bool p.opn, .int .i64 ev] 85)).heap.size := by simp
          replace hC := bl_cell ha hC
          replace hO := owne_bl hO ha
          clear ha
          have hn0 : World.cell? (Wd.alloc (.cells #[.string T, .int .i64 p.kind, .int .i64 p.limit, .int .i64 p.period, .int .i64 p.burst, .int .i64 p.cap, .bool p.opn, .int .i64 ev] 85)) ⟨Wd.heap.size, 0, none⟩ = some (.string T) := by go_simp
          have hn1 : World.cell? (Wd.alloc (.cells #[.string T, .int .i64 p.kind, .int .i64 p.limit, .int .i64 p.period, .int .i64 p.burst, .int .i64 p.cap, .bool p.opn, .int .i64 ev] 85)) ⟨Wd.heap.size, 1, none⟩ = some (.int .i64 p.kind) := by go_simp
          have hn2 : World.cell? (Wd.alloc (.cells #[.string T, .int .i64 p.kind, .int .i64 p.limit, .int .i64 p.period, .int .i64 p.burst, .int .i64 p.cap, .bool p.opn, .int .i64 ev] 85)) ⟨Wd.heap.size, 2, none⟩ = some (.int .i64 p.limit) := by go_simp
          have hn3 : World.cell? (Wd.alloc (.cells #[.string T, .int .i64 p.kind, .int .i64 p.limit, .int .i64 p.period, .int .i64 p.burst, .int .i64 p.cap, .bool p.opn, .int .i64 ev] 85)) ⟨Wd.heap.size, 3, none⟩ = some (.int .i64 p.period) := by go_simp
          have hn4 : World.cell? (Wd.alloc (.cells #[.string T, .int .i64 p.kind, .int .i64 p.limit, .int .i64 p.period, .int .i64 p.burst, .int .i64 p.cap, .bool p.opn, .int .i64 ev] 85)) ⟨Wd.heap.size, 4, none⟩ = some (.int .i64 p.burst) := by go_simp
          have hn5 : World.cell? (Wd.alloc (.cells #[.string T, .int .i64 p.kind, .int .i64 p.limit, .int .i64 p.period, .int .i64 p.burst, .int .i64 p.cap, .bool p.opn, .int .i64 ev] 85)) ⟨Wd.heap.size, 5, none⟩ = some (.int .i64 p.cap) := by go_simp
          have hn6 : World.cell? (Wd.alloc (.cells #[.string T, .int .i64 p.kind, .int .i64 p.limit, .int .i64 p.period, .int .i64 p.burst, .int .i64 p.cap, .bool p.opn, .int .i64 ev] 85)) ⟨Wd.heap.size, 6, none⟩ = some (.bool p.opn) := by go_simp
          have hn7 : World.cell? (Wd.alloc (.cells #[.string T, .int .i64 p.kind, .int .i64 p.limit, .int .i64 p.period, .int .i64 p.burst, .int .i64 p.cap, .bool p.opn, .int .i64 ev] 85)) ⟨Wd.heap.size, 7, none⟩ = some (.int .i64 ev) := by go_simp
          clear hK K
          try simp only [Act.put, List.setIfInBounds_toArray, List.set_cons_zero, List.set_cons_succ]
        case' refine_2 =>
          intro K hK
          obtain ⟨h_t0, h_rR, h_u1, h_uR, h_sz, h_x0, h_x1, h_x2, h_x3, h_x4, h_x5, h_x6, h_x7, h_B⟩ := (id hHeld)
          go_simp
          have ha := bl_alloc (bl_refl Wd) (.cells #[.string T, .int .i64 p.kind, .int .i64 p.limit, .int .i64 p.period, .int .i64 p.burst, .int .i64 p.cap, .bool p.opn, .int .i64 ev] 85)
          refine hK.out _ _ ?_ (fun hHeld2 => ?_)
          · (try dsimp only); exact ⟨bl_cell ha h_t0, res2_bl h_rR ha, bl_cell ha h_u1, res2_bl h_uR ha, sz_bl h_sz ha, bl_cell ha h_x0, bl_cell ha h_x1, bl_cell ha h_x2, bl_cell ha h_x3, bl_cell ha h_x4, bl_cell ha h_x5, bl_cell ha h_x6, bl_cell ha h_x7, bl_then h_B ha⟩
          clear hHeld h_t0 h_rR h_u1 h_uR h_sz h_x0 h_x1 h_x2 h_x3 h_x4 h_x5 h_x6 h_x7 h_B
          have hHeld := hHeld2
          clear hHeld2
          have lwq : Wd.heap.size < (Wd.alloc (.cells #[.string T, .int .i64 p.kind, .int .i64 p.limit, .int .i64 p.period, .int .i64 p.burst, .int .i64 p.cap, .bool p.opn, .int .i64 ev] 85)).heap.size := by simp
          replace hC := bl_cell ha hC
          replace hO := owne_bl hO ha
          clear ha
          have hn0 : World.cell? (Wd.alloc (.cells #[.string T, .int .i64 p.kind, .int .i64 p.limit, .int .i64 p.period, .int .i64 p.burst, .int .i64 p.cap, .bool p.opn, .int .i64 ev] 85)) ⟨Wd.heap.size, 0, none⟩ = some (.string T) := by go_simp
          have hn1 : World.cell? (Wd.alloc (.cells #[.string T, .int .i64 p.kind, .int .i64 p.limit, .int .i64 p.period, .int .i64 p.burst, .int .i64 p.cap, .bool p.opn, .int .i64 ev] 85)) ⟨Wd.heap.size, 1, none⟩ = some (.int .i64 p.kind) := by go_simp
          have hn2 : World.cell? (Wd.alloc (.cells #[.string T, .int .i64 p.kind, .int .i64 p.limit, .int .i64 p.period, .int .i64 p.burst, .int .i64 p.cap, .bool p.opn, .int .i64 ev] 85)) ⟨Wd.heap.size, 2, none⟩ = some (.int .i64 p.limit) := by go_simp
          have hn3 : World.cell? (Wd.alloc (.cells #[.string T, .int .i64 p.kind, .int .i64 p.limit, .int .i64 p.period, .int .i64 p.burst, .int .i64 p.cap, .bool p.opn, .int .i64 ev] 85)) ⟨Wd.heap.size, 3, none⟩ = some (.int .i64 p.period) := by go_simp
          have hn4 : World.cell? (Wd.alloc (.cells #[.string T, .int .i64 p.kind, .int .i64 p.limit, .int .i64 p.period, .int .i64 p.burst, .int .i64 p.cap, .bool p.opn, .int .i64 ev] 85)) ⟨Wd.heap.size, 4, none⟩ = some (.int .i64 p.burst) := by go_simp
          have hn5 : World.cell? (Wd.alloc (.cells #[.string T, .int .i64 p.kind, .int .i64 p.limit, .int .i64 p.period, .int .i64 p.burst, .int .i64 p.cap, .bool p.opn, .int .i64 ev] 85)) ⟨Wd.heap.size, 5, none⟩ = some (.int .i64 p.cap) := by go_simp
          have hn6 : World.cell? (Wd.alloc (.cells #[.string T, .int .i64 p.kind, .int .i64 p.limit, .int .i64 p.period, .int .i64 p.burst, .int .i64 p.cap, .bool p.opn, .int .i64 ev] 85)) ⟨Wd.heap.size, 6, none⟩ = some (.bool p.opn) := by go_simp
          have hn7 : World.cell? (Wd.alloc (.cells #[.string T, .int .i64 p.kind, .int .i64 p.limit, .int .i64 p.period, .int .i64 p.burst, .int .i64 p.cap, .bool p.opn, .int .i64 ev] 85)) ⟨Wd.heap.size, 7, none⟩ = some (.int .i64 ev) := by go_simp
          clear hK K
          try simp only [Act.put, List.setIfInBounds_toArray, List.set_cons_zero, List.set_cons_succ]
          refine callC (i := 1) rfl (fun K hK => ?_)
          go_simp
          refine hK.out _ _ hHeld (fun hHeld => ?_)
          clear hK K
          try simp only [Act.put, List.setIfInBounds_toArray, List.set_cons_zero, List.set_cons_succ]
        all_goals (generalize Wd.alloc (.cells #[.string T, .int .i64 p.kind, .int .i64 p.limit, .int .i64 p.period, .int .i64 p.burst, .int .i64 p.cap, .bool p.opn, .int .i64 ev] 85) = Wa at *)
        all_goals (refine callC (i := 8) rfl (fun K hK => ?_))
        all_goals
          rw [if_pos (by rfl)]
          refine wp_es _ _ _ rfl (w.heap.size + 1 + 1 + 1) v FJ.length FJ rfl hO Wd.heap.size 1 (KJ, p, ev) rfl (ecell_at (y := (KJ, p, ev)) (by rw [HTT.out]; exact hn0) hn1 hn2 hn3 hn4 hn5 hn6 hn7) ln1 (by obtain ⟨h_t0, h_rR, h_u1, h_uR, h_sz, h_x0, h_x1, h_x2, h_x3, h_x4, h_x5, h_x6, h_x7, h_B⟩ := (id hHeld); exact h_sz) (fun v5 w5 hO5 hg5 => ?_)
          obtain ⟨h_t0, h_rR, h_u1, h_uR, h_sz, h_x0, h_x1, h_x2, h_x3, h_x4, h_x5, h_x6, h_x7, h_B⟩ := (id hHeld)
          have hne : ∀ gg, Value.ownBlock (v) = some gg → w.heap.size + 1 + 1 + 1 ≤ gg := fun gg hgg => (World.ownsRow.lt hO gg hgg).1
          refine hK.out _ _ ?_ (fun hHeld2 => ?_)
          · (try dsimp only); exact ⟨grown_cell0 hg5 h_t0 (by intro he; have := hne _ he.symm; omega), grown_res2 hg5 h_rR (by intro he; have := hne _ he.symm; omega), grown_cell0 hg5 h_u1 (by intro he; have := hne _ he.symm; omega), grown_res2 hg5 h_uR (by intro he; have := hne _ he.symm; omega), Nat.le_trans h_sz hg5.size, grown_cell0 hg5 h_x0 (by intro he; have := hne _ he.symm; omega), grown_cell0 hg5 h_x1 (by intro he; have := hne _ he.symm; omega), grown_cell0 hg5 h_x2 (by intro he; have := hne _ he.symm; omega), grown_cell0 hg5 h_x3 (by intro he; have := hne _ he.symm; omega), grown_cell0 hg5 h_x4 (by intro he; have := hne _ he.symm; omega), grown_cell0 hg5 h_x5 (by intro he; have := hne _ he.symm; omega), grown_cell0 hg5 h_x6 (by intro he; have := hne _ he.symm; omega), grown_cell0 hg5 h_x7 (by intro he; have := hne _ he.symm; omega), h_B.grown hg5 h_B.size (fun gg hgg => by have := hne gg hgg; omega)⟩
          clear hHeld hC hO hn0 hn1 hn2 hn3 hn4 hn5 hn6 hn7 h_t0 h_rR h_u1 h_uR h_sz h_x0 h_x1 h_x2 h_x3 h_x4 h_x5 h_x6 h_x7 h_B hne hg5
          have hHeld := hHeld2
          clear hHeld2
          clear hK K
          try simp only [Act.put, List.setIfInBounds_toArray, List.set_cons_zero, List.set_cons_succ]
          (refine tk (i := 9) rfl rfl hHeld ?_)
          obtain ⟨a5, c5, rfl⟩ := owne_form hO5
          refine callC (i := 10) rfl (fun K hK => ?_)
          obtain ⟨h_t0, h_rR, h_u1, h_uR, h_sz, h_x0, h_x1, h_x2, h_x3, h_x4, h_x5, h_x6, h_x7, h_B⟩ := (id hHeld)
          obtain ⟨fr0, fr1, u0, u1, j0, j1⟩ := res2_all h_uR
          go_simp
          refine hK.out _ _ ?_ (fun hHeld2 => ?_)
          · (try dsimp only); exact ⟨far_set h_t0 _ _ (by dsimp only; omega), res2_set h_rR _ _, set_other0 h_u1 _ (by simp), res2_set h_uR _ _, sz_set h_sz, far_set h_x0 _ _ (by dsimp only; omega), far_set h_x1 _ _ (by dsimp only; omega), far_set h_x2 _ _ (by dsimp only; omega), far_set h_x3 _ _ (by dsimp only; omega), far_set h_x4 _ _ (by dsimp only; omega), far_set h_x5 _ _ (by dsimp only; omega), far_set h_x6 _ _ (by dsimp only; omega), far_set h_x7 _ _ (by dsimp only; omega), bl_set h_B (by dsimp only; omega) _⟩
          have hC9 := World.cell?_setCell_same' w5 ⟨w.heap.size + 1 + 1, 0, none⟩ (.slice a5 (FJ.length + 1) c5) (by rw [j0]; rfl)
          have hO9 := owne_set hO5 ⟨w.heap.size + 1 + 1, 0, none⟩ (.slice a5 (FJ.length + 1) c5) (by dsimp only; omega)
          clear hHeld hK K hO5 h_t0 h_rR h_u1 h_uR h_sz h_x0 h_x1 h_x2 h_x3 h_x4 h_x5 h_x6 h_x7 h_B fr0 fr1 j0 j1 u0 u1
          have hHeld := hHeld2
          clear hHeld2
          try simp only [Act.put, List.setIfInBounds_toArray, List.set_cons_zero, List.set_cons_succ]
          refine wpAnyH_done (by kernel_rfl) ?_ _
          generalize w5.setCell ⟨w.heap.size + 1 + 1, 0, none⟩ (.slice a5 (FJ.length + 1) c5) = w99 at *
          obtain ⟨t0, rR, u1, uR, sz, x0, x1, x2, x3, x4, x5, x6, x7, hB⟩ := hHeld
          have u0 := hC9
          have ow := hO9
          clear hC9 hO9
          have lb_t := World.block_lt_of_cell? w99 _ t0
          dsimp only at lb_t
          have lb_x := World.block_lt_of_cell? w99 _ x0
          dsimp only at lb_x
          go_wp2_with fail
          go_roundw
          case rel => exact ⟨j + 1, _, by go_num, hj1, ⟨u0, by rw [HST.out, List.length_append]; exact ow⟩, ⟨t0, rR, u1, uR, sz, hB⟩⟩
          case measure => (simp [intOf]; first | exact hms | omega)
    · have hje : n = j := by omega
      subst hje
      rw [HN.out] at ow
      obtain ⟨av, cv, rfl, -⟩ := row_es ow HKY.out
      generalize R.length = M at *
      have HES := Go.Lib.hid ow
      clear ow
      go_wp2_with fail
      refine wp_region_held_drew (S := fun w' => w'.cell? ⟨w.heap.size, 0, none⟩ = some (.slice a n c) ∧ Res2 w' (w.heap.size + 1) ∧ w'.cell? ⟨w.heap.size + 1 + 1, 1, none⟩ = some (.int .i64 V) ∧ Res2 w' (w.heap.size + 1 + 1) ∧ w.heap.size + 1 + 1 + 1 ≤ w'.heap.size ∧ w'.cell? ⟨w.heap.size + 1 + 1, 0, none⟩ = some (.slice av M cv) ∧ Below w.heap.size w w') (by kernel_rfl) ?_ (fun hHeld => ?_)
      · exact ⟨t0, rR, u1, uR, sz, u0, bl_drew hB⟩
      try simp only [Act.put, List.setIfInBounds_toArray, List.set_cons_zero, List.set_cons_succ]
      clear hB t0 rR u1 uR sz u0
      refine wpAnyH_abs (F := fun X => OwnE X (w.heap.size + 1 + 1 + 1) (.slice av M cv) M R) hHeld (owne_bl HES.out (bl_drew (bl_refl _))) ?_
      clear hHeld
      rintro X0 hHeld how
      (refine tk (i := 0) rfl rfl hHeld ?_)
      (refine tk (i := 1) rfl rfl hHeld ?_)
      (refine tk (i := 2) rfl rfl hHeld ?_)
      (refine tk (i := 3) rfl rfl hHeld ?_)
      (refine tk (i := 4) rfl rfl hHeld ?_)
      (refine tk (i := 5) rfl rfl hHeld ?_)
      (refine tk (i := 6) rfl rfl hHeld ?_)
      (refine tk (i := 7) rfl rfl hHeld ?_)
      refine callC (i := 8) rfl (fun K hK => ?_)
      obtain ⟨h_t0, h_rR, h_u1, h_uR, h_sz, h_u0, h_B⟩ := (id hHeld)
      obtain ⟨fr0, fr1, k0, k1, j0, j1⟩ := res2_all h_rR
      go_simp
      refine hK.out _ _ ?_ (fun hHeld2 => ?_)
      · (try dsimp only); exact ⟨far_set (far_set h_t0 _ _ (by dsimp only; omega)) _ _ (by dsimp only; omega), res2_set (res2_set h_rR _ _) _ _, far_set (far_set h_u1 _ _ (by dsimp only; omega)) _ _ (by dsimp only; omega), res2_set (res2_set h_uR _ _) _ _, sz_set (sz_set h_sz), far_set (far_set h_u0 _ _ (by dsimp only; omega)) _ _ (by dsimp only; omega), bl_set (bl_set h_B (by dsimp only; omega) _) (by dsimp only; omega) _⟩
      have zz := set2r (v0 := .slice av M cv) (v1 := .int .i64 V) h_rR
      replace how := owne_set (owne_set how ⟨w.heap.size + 1, 0, none⟩ (.slice av M cv) (by dsimp only; omega)) ⟨w.heap.size + 1, 1, none⟩ (.int .i64 V) (by dsimp only; omega)
      clear hHeld hK K h_t0 h_rR h_u1 h_uR h_sz h_u0 h_B fr0 fr1 k0 k1 j0 j1
      have hHeld := hHeld2
      clear hHeld2
      try simp only [Act.put, List.setIfInBounds_toArray, List.set_cons_zero, List.set_cons_succ]
      (refine tk (i := 9) rfl rfl hHeld ?_)
      refine wpAnyH_done (by kernel_rfl) ?_ _
      obtain ⟨-, -, -, -, -, -, hE⟩ := hHeld
      repeat' (first | go_skip | go_guarded | go_step | go_upon)
      (try simp only [Exit.inBlock, Exit.then])
      refine bodyPost_ret (results_T2 rfl _ _ (by rfl) zz) rfl ⟨av, M, cv, rfl, owne_es how HKY.out, (fun ad e => by subst e; have := (World.ownsRow.lt how _ rfl).1; omega), hE⟩
end Go.Proofs.YtcfdcianpicbmaaGreat

namespace Go.Proofs.YtcfdcianpicbmaaGreat
open Go.RowKit Go.Maps
set_option linter.unusedVariables false
set_option linter.unusedSimpArgs false

def allB : ByteArray := ⟨#[97, 98, 99, 100, 101, 102, 103, 104, 105, 106, 107, 108, 109, 110, 111, 112, 113, 114, 115, 116, 117, 118, 119, 120, 121, 122, 65, 66, 67, 68, 69, 70, 71, 72, 73, 74, 75, 76, 77, 78, 79, 80, 81, 82, 83, 84, 85, 86, 87, 88, 89, 90, 48, 49, 50, 51, 52, 53, 54, 55, 56, 57, 45, 95, 46]⟩
def byteAt (s : ByteArray) (i : Nat) : UInt8 := if h : i < s.size then s[i] else 0
/-- Is a byte among the first k of them? -/
def inAll (b : UInt8) (k : Nat) : Bool := (List.range k).any fun i => byteAt allB i == b
def nameR (s : ByteArray) : Bool := (List.range s.size).all (fun i => inAll (byteAt s i) 65) && (decide (1 ≤ (s.size : Int)) && decide ((s.size : Int) ≤ 40))
theorem inAll_step (b : UInt8) (k : Nat) : inAll b (k + 1) = (inAll b k || byteAt allB k == b) := by
  unfold inAll
  rw [List.range_succ, List.any_append]
  simp

set_option maxHeartbeats 2000000 in
set_option maxRecDepth 100000 in
theorem rnamed_any (s : ByteArray) (hs : s.size ≤ maxLen) (w : World) : Calls Tryz.prog 21 #[.string s] w fun e w' => e = .returned (.bool (nameR s)) ∧ Below w.heap.size w w' := by
  have hnm : (s.size : Int) ≤ 9223372036854775807 := by simp only [maxLen] at hs; omega
  generalize hR : nameR s = R at *
  have HR := Go.Lib.hid hR
  clear hR
  go_enter Tryz.func21, Tryz.ntmps21
  go_wp2_with fail
  go_loopw [4] (fun s4 wr => ∃ j : Nat, s4 = .int .i64 j ∧ j ≤ s.size ∧ Hid ((∀ i, i < j → inAll (byteAt s i) 65 = true) ∧ Below w.heap.size w wr)) (fun s4 _ => s.size - (intOf s4).toNat)
  case atStart => exact ⟨0, rfl, Nat.zero_le _, ⟨fun i hi => absurd hi (Nat.not_lt_zero _), bl_refl _⟩⟩
  case round =>
    obtain ⟨j, rfl, hj, H⟩ := hrel
    by_cases hjn : j < s.size
    · have k0 : (0 : Int) ≤ (j : Int) := by omega
      have k1 : (j : Int) < (s.size : Int) := by omega
      go_wp2_with fail
      obtain ⟨W1, hW1⟩ : ∃ W : World, W = wr := ⟨_, rfl⟩
      subst hW1
      go_loopw [5, 6] (fun s5 s6 wr => ∃ k : Nat, s6 = .int .i64 k ∧ k ≤ 65 ∧ s5 = .bool (inAll (byteAt s j) k) ∧ Hid (Below w.heap.size w wr)) (fun _ s6 _ => 65 - (intOf s6).toNat)
      case atStart => exact ⟨0, rfl, by omega, rfl, H.out.2⟩
      case round =>
        obtain ⟨k, rfl, hk, rfl, H2⟩ := hrel
        by_cases hkn : k < 65
        · have q0 : (0 : Int) ≤ (k : Int) := by omega
          have q1 : (k : Int) < 65 := by omega
          generalize hI : inAll (byteAt s j) k = I at *
          go_wp2_with fail
          have hb := H2.out
          have hx1 : ∀ w, (Instr.index 9 (.string allB) (.int .i64 (k : Int))).run Tryz.prog w = .ok (.int .u8 ((byteAt allB k).toNat : Int)) w := fun w => by
            rw [run_index_string w _ allB .i64 (k : Int) Tryz.underlying9, dif_pos ⟨q0, q1⟩]
            simp [byteAt, show k < allB.size from hkn]
          have hx2 : ∀ w, (Instr.index 9 (.string s) (.int .i64 (j : Int))).run Tryz.prog w = .ok (.int .u8 ((byteAt s j).toNat : Int)) w := fun w => by
            rw [run_index_string w _ s .i64 (j : Int) Tryz.underlying9, dif_pos ⟨k0, k1⟩]
            simp [byteAt, hjn]
          have hst := inAll_step (byteAt s j) k
          rw [hI] at hst
          have hbe : (((byteAt allB k).toNat : Int) == ((byteAt s j).toNat : Int)) = (byteAt allB k == byteAt s j) := by
            rw [Bool.eq_iff_iff]
            simp only [beq_iff_eq]
            exact ⟨fun h => UInt8.toNat_inj.1 (by omega), fun h => by rw [h]⟩
          generalize (byteAt allB k == byteAt s j) = E at *
          generalize byteAt allB k = X1 at *
          unfold allB at hx1
          generalize hX2 : byteAt s j = X2 at *
          have HX2 := Go.Lib.hid hX2
          clear hX2
          have HST := Go.Lib.hid hst
          have wk : IntKind.i64.wrap ((k : Int) + 1) = (k : Int) + 1 := IntWalk.i64_in _ (by omega)
          clear hst hI H2
          refine wp_region_held_drew (S := fun w' => Below w.heap.size w w') (by kernel_rfl) ?_ (fun hHeld => ?_)
          · exact bl_drew hb
          try simp only [Act.put, List.setIfInBounds_toArray, List.set_cons_zero, List.set_cons_succ]
          (refine tk (i := 0) rfl rfl hHeld ?_)
          (refine tk (i := 1) rfl rfl hHeld ?_)
          cases I
          all_goals
            first | (refine tk (i := 2) rfl rfl hHeld ?_) | (refine tq (i := 2) rfl rfl hHeld ?_)
            first | (refine tk (i := 3) rfl rfl hHeld ?_) | (refine tq (i := 3) rfl rfl hHeld ?_)
            first | (refine tk (i := 4) rfl rfl hHeld ?_) | (refine tq (i := 4) rfl rfl hHeld ?_)
            first | (refine tk (i := 5) rfl rfl hHeld ?_) | (refine tq (i := 5) rfl rfl hHeld ?_)
            first | (refine tk (i := 6) rfl rfl hHeld ?_) | (refine tq (i := 6) rfl rfl hHeld ?_)
            first | (refine tk (i := 7) rfl rfl hHeld ?_) | (refine tq (i := 7) rfl rfl hHeld ?_)
            first | (refine tk (i := 8) rfl rfl hHeld ?_) | (refine tq (i := 8) rfl rfl hHeld ?_)
            (refine tk (i := 9) rfl rfl hHeld ?_)
            (refine tk (i := 10) rfl rfl hHeld ?_)
            refine wpAnyH_done (by kernel_rfl) ?_ _
            have hE := hHeld
            clear hHeld hx1 hx2
            go_wp2_with fail
            go_roundw
            case rel => exact ⟨k + 1, by go_num, by omega, by (first | rw [HX2.out] | skip); rw [HST.out]; (first | rw [hbe] | skip); rfl, hE⟩
            case measure => (simp [intOf]; omega)
        · have hke : k = 65 := by omega
          subst hke
          have hb := H2.out
          obtain ⟨hall, -⟩ := H.out
          clear H2 H
          have wj : IntKind.i64.wrap ((j : Int) + 1) = (j : Int) + 1 := IntWalk.i64_in _ (by omega)
          have hj1 : j + 1 ≤ s.size := hjn
          cases hI : inAll (byteAt s j) 65
          · have hR : R = false := by
              rw [← HR.out]
              unfold nameR
              rw [Bool.and_eq_false_iff]
              refine .inl ?_
              rw [Bool.eq_false_iff]
              intro hz
              have := List.all_eq_true.1 hz j (List.mem_range.2 hjn)
              rw [hI] at this
              cases this
            have HRR := Go.Lib.hid hR
            clear hR hall
            go_wp2_with fail
            go_ret
            exact ⟨by rw [HRR.out]; rfl, hb⟩
          · have HALL := Go.Lib.hid (show ∀ i, i < j + 1 → inAll (byteAt s i) 65 = true from fun i hi => by
              by_cases e : i = j
              · subst e; exact hI
              · exact hall i (by omega))
            clear hall
            go_wp2_with fail
            go_roundw
            case rel => exact ⟨j + 1, by go_num, hj1, ⟨HALL.out, hb⟩⟩
            case measure => (simp [intOf]; omega)
    · have hje : j = s.size := by omega
      subst hje
      obtain ⟨hall, hb⟩ := H.out
      have hR : R = (decide (1 ≤ (s.size : Int)) && decide ((s.size : Int) ≤ 40)) := by
        rw [← HR.out]
        unfold nameR
        have : ((List.range s.size).all fun i => inAll (byteAt s i) 65) = true := List.all_eq_true.2 fun i hi => hall i (List.mem_range.1 hi)
        rw [this, Bool.true_and]
      have HRR := Go.Lib.hid hR
      clear hall H hR
      cases h1 : decide (1 ≤ (s.size : Int))
      · go_wp2_with fail
        go_ret
        exact ⟨by rw [HRR.out, h1]; rfl, hb⟩
      · go_wp2_with fail
        go_ret
        exact ⟨by rw [HRR.out, h1]; rfl, hb⟩
end Go.Proofs.YtcfdcianpicbmaaGreat

namespace Go.Proofs.YtcfdcianpicbmaaGreat
open Go.RowKit Go.Maps
set_option linter.unusedVariables false
set_option linter.unusedSimpArgs false

theorem inAll_low : ∀ b : Fin 256, inAll (UInt8.ofNat b.1) 65 = (decide (b.1 < 128) && !oddR b.1) := by decide +kernel
theorem inAll_byte (b : UInt8) : inAll b 65 = (decide (b.toNat < 128) && !oddR b.toNat) := by
  have := inAll_low ⟨b.toNat, b.toNat_lt⟩
  simpa using this
theorem oddR_high {x : Nat} (h : 128 ≤ x) : oddR x = true := by
  unfold oddR dotR
  have h1 : decide (122 < (x : Int)) = true := decide_eq_true (by omega)
  have h2 : decide (90 < (x : Int)) = true := decide_eq_true (by omega)
  have h3 : decide (57 < (x : Int)) = true := decide_eq_true (by omega)
  have h4 : decide ((x : Int) = 45 ∨ (x : Int) = 95 ∨ (x : Int) = 46) = false := decide_eq_false (by omega)
  rw [h1, h2, h3, h4]
  simp
theorem decodeN_high (n b0 b1 b2 b3 : Nat) (h : ¬ b0 < 128) : 128 ≤ (Lib.decodeN n b0 b1 b2 b3).1 := by
  unfold Lib.decodeN
  rw [if_neg h]
  repeat' split
  all_goals (dsimp only; omega)
theorem get_byte (s : ByteArray) (i : Nat) (h : i < s.size) : s.get! i = byteAt s i := by
  unfold byteAt
  rw [dif_pos h]
  show s.data.get!Internal i = s.data[i]
  exact getElem!_pos s.data i h
theorem idx_all (s : ByteArray) : ∀ (f pos : Nat), s.size ≤ pos + f → (Lib.idxFuncFrom oddR true s f pos = -1 ↔ ∀ i, pos ≤ i → i < s.size → inAll (byteAt s i) 65 = true)
  | 0, pos, h => ⟨fun _ i h1 h2 => by omega, fun _ => rfl⟩
  | f + 1, pos, h => by
    unfold Lib.idxFuncFrom
    by_cases hp : pos < s.size
    · rw [if_pos hp]
      have hd := Lib.decode_at s pos
      rw [get_byte s pos hp] at hd
      by_cases hb : (byteAt s pos).toNat < 128
      · have hd2 : Utf8.decode s pos = ((byteAt s pos).toNat, 1) := by rw [hd]; unfold Lib.decodeN; rw [if_pos hb]
        rw [hd2]
        dsimp only
        have hin := inAll_byte (byteAt s pos)
        rw [decide_eq_true hb, Bool.true_and] at hin
        by_cases ho : oddR (byteAt s pos).toNat = true
        · rw [if_pos ho]
          rw [ho] at hin
          constructor
          · intro e; omega
          · intro ha; have := ha pos (Nat.le_refl _) hp; rw [hin] at this; cases this
        · rw [if_neg ho, idx_all s f (pos + 1) (by omega)]
          have ho' : oddR (byteAt s pos).toNat = false := by simpa using ho
          rw [ho'] at hin
          constructor
          · intro ha i h1 h2
            by_cases e : i = pos
            · subst e; exact hin
            · exact ha i (by omega) h2
          · intro ha i h1 h2; exact ha i (by omega) h2
      · have ho : oddR (Utf8.decode s pos).1 = true := oddR_high (by rw [hd]; exact decodeN_high _ _ _ _ _ hb)
        rw [if_pos ho]
        have hin := inAll_byte (byteAt s pos)
        rw [decide_eq_false hb, Bool.false_and] at hin
        constructor
        · intro e; omega
        · intro ha; have := ha pos (Nat.le_refl _) hp; rw [hin] at this; cases this
    · rw [if_neg hp]
      exact ⟨fun _ i h1 h2 => by omega, fun _ => rfl⟩
theorem named_same (s : ByteArray) : namedS s = nameR s := by
  unfold namedS nameR
  have h1 : (!decide (0 ≤ Lib.idxFunc oddR true s)) = (List.range s.size).all fun i => inAll (byteAt s i) 65 := by
    have hr := Lib.idxFunc_range oddR true s
    have hi := idx_all s s.size 0 (by omega)
    rw [Bool.eq_iff_iff, List.all_eq_true]
    have hx : Lib.idxFunc oddR true s = Lib.idxFuncFrom oddR true s s.size 0 := rfl
    rw [← hx] at hi
    simp only [Bool.not_eq_true', decide_eq_false_iff_not, List.mem_range]
    constructor
    · intro h i hi2; exact hi.1 (by omega) i (Nat.zero_le _) hi2
    · intro h; have := hi.2 (fun i _ h2 => h i h2); omega
  have h2 : (!s.toList.isEmpty) = decide (1 ≤ (s.size : Int)) := by
    rw [ByteArray.toList_eq, Bool.eq_iff_iff]
    have : s.data.toList.length = s.size := Array.length_toList
    cases hl : s.data.toList with
    | nil =>
      rw [hl, List.length_nil] at this
      simp only [List.isEmpty_nil, Bool.not_true, Bool.false_eq_true, false_iff, decide_eq_true_eq]
      omega
    | cons x l =>
      rw [hl, List.length_cons] at this
      simp only [List.isEmpty_cons, Bool.not_false, true_iff, decide_eq_true_eq]
      omega
  rw [h1, h2]
  cases (List.range s.size).all fun i => inAll (byteAt s i) 65 <;> simp
end Go.Proofs.YtcfdcianpicbmaaGreat

namespace Go.Proofs.YtcfdcianpicbmaaGreat
open Go.RowKit
set_option linter.unusedVariables false
set_option linter.unusedSimpArgs false

theorem results_pol {fn : Func} {x : Tmp} (h : fn.results = #[.cell x 33]) (tmps : Array Value) (w : World) {b : Nat} {v0 v1 v2 v3 v4 v5 : Value} (hx : tmps.getD x undef = .pointer (some ⟨b, 0, none⟩))
    (hc : Cells6 w b v0 v1 v2 v3 v4 v5) :
    (results fn tmps).run Tryz.prog w = .ok (.agg #[v0, v1, v2, v3, v4, v5]) w := by
  obtain ⟨i0, i1, i2, i3, i4, i5⟩ := hc
  have hx' : tmps[x]?.getD undef = .pointer (some ⟨b, 0, none⟩) := by simpa using hx
  unfold results
  simp [h, hx', go_sem, i0, i1, i2, i3, i4, i5]
theorem pol_neq (p q : Pol) (w : World) : (binOp .neq 33 (.agg #[.int .i64 p.kind, .int .i64 p.limit, .int .i64 p.period, .int .i64 p.burst, .int .i64 p.cap, .bool p.opn]) (.agg #[.int .i64 q.kind, .int .i64 q.limit, .int .i64 q.period, .int .i64 q.burst, .int .i64 q.cap, .bool q.opn])).run Tryz.prog w = .ok (.bool (!decide (p = q))) w := by
  have e : decide (p = q) = (decide (p.kind = q.kind) && (decide (p.limit = q.limit) && (decide (p.period = q.period) && (decide (p.burst = q.burst) && (decide (p.cap = q.cap) && decide (p.opn = q.opn)))))) := by
    obtain ⟨a1, a2, a3, a4, a5, a6⟩ := p
    obtain ⟨b1, b2, b3, b4, b5, b6⟩ := q
    rw [Bool.eq_iff_iff]
    simp
  rw [e]
  simp [go_sem, Op.equal]
  repeat' split
  all_goals simp_all
set_option maxHeartbeats 1000000 in
theorem r4chk (p : Pol) (w : World) : Calls Tryz.prog 80 #[p.v] w fun e w' => e = .returned (.int .i64 (chkB p)) ∧ Below w.heap.size w w' := by
  obtain ⟨k, l, d, b, c, o⟩ := p
  generalize hX : chkB ⟨k, l, d, b, c, o⟩ = C at *
  have HX := Go.Lib.hid hX
  clear hX
  unfold Pol.v
  go_enter Tryz.func80, Tryz.ntmps80
  go_wp2
  all_goals
    go_ret
    have hX := HX.out
    refine ⟨congrArg (fun x => Ending.returned (.int .i64 x)) ?_, bl_alloc (bl_refl _) _⟩
    rw [← hX]
    try simp only [bne_iff_ne, ne_eq, bne_eq_false_iff_eq, beq_iff_eq, beq_eq_false_iff_ne, Bool.and_eq_true, Bool.and_eq_false_iff, decide_eq_true_eq, decide_eq_false_iff_not] at *
    first
      | (refine chk_ok ?_; unfold okB; dsimp only; omega)
      | (refine chk_no ?_; unfold okB; dsimp only; intro hh; obtain ⟨q0, q1, q2, q3, q4, q5, q6, q7⟩ := hh; omega)
set_option maxHeartbeats 1000000 in
theorem r6chk (p : Pol) (w : World) : Calls Tryz.prog 82 #[p.v] w fun e w' => e = .returned (.int .i64 (chkL p)) ∧ Below w.heap.size w w' := by
  obtain ⟨k, l, d, b, c, o⟩ := p
  generalize hX : chkL ⟨k, l, d, b, c, o⟩ = C at *
  have HX := Go.Lib.hid hX
  clear hX
  unfold Pol.v
  go_enter Tryz.func82, Tryz.ntmps82
  go_wp2
  all_goals
    go_ret
    have hX := HX.out
    refine ⟨congrArg (fun x => Ending.returned (.int .i64 x)) ?_, bl_alloc (bl_refl _) _⟩
    rw [← hX]
    try simp only [bne_iff_ne, ne_eq, bne_eq_false_iff_eq, beq_iff_eq, beq_eq_false_iff_ne, Bool.and_eq_true, Bool.and_eq_false_iff, decide_eq_true_eq, decide_eq_false_iff_not] at *
    first
      | (refine chkL_ok ?_; unfold okL; dsimp only; omega)
      | (refine chkL_no ?_; unfold okL; dsimp only; intro hh; obtain ⟨q0, q1, q2, q3, q4, q5, q6, q7⟩ := hh; omega)
set_option maxHeartbeats 1000000 in
theorem r7chk (p : Pol) (w : World) : Calls Tryz.prog 83 #[p.v] w fun e w' => e = .returned (.int .i64 (chkC p)) ∧ Below w.heap.size w w' := by
  obtain ⟨k, l, d, b, c, o⟩ := p
  generalize hX : chkC ⟨k, l, d, b, c, o⟩ = C at *
  have HX := Go.Lib.hid hX
  clear hX
  unfold Pol.v
  go_enter Tryz.func83, Tryz.ntmps83
  go_wp2
  all_goals
    go_ret
    have hX := HX.out
    refine ⟨congrArg (fun x => Ending.returned (.int .i64 x)) ?_, bl_alloc (bl_refl _) _⟩
    rw [← hX]
    try simp only [bne_iff_ne, ne_eq, bne_eq_false_iff_eq, beq_iff_eq, beq_eq_false_iff_ne, Bool.and_eq_true, Bool.and_eq_false_iff, decide_eq_true_eq, decide_eq_false_iff_not] at *
    first
      | (refine chkC_ok ?_; unfold okC; dsimp only; omega)
      | (refine chkC_no ?_; unfold okC; dsimp only; intro hh; obtain ⟨q0, q1, q2, q3, q4, q5, q6⟩ := hh; omega)

/-- As a bucket's policy. -/
def asP (p : Pol) : Pol := ⟨if p.kind = 2 then 1 else 0, p.limit, p.period, p.burst, p.cap, p.opn⟩
theorem asP_ok (p : Pol) : okB (asP p) ↔ okG p := by
  unfold okB okG asP
  dsimp only
  by_cases h : p.kind = 2
  · rw [if_pos h]; omega
  · rw [if_neg h]; omega
theorem asP_chk (p : Pol) : chkB (asP p) = chkG p := by
  unfold chkB chkG
  by_cases z : okG p
  · rw [if_pos z, if_pos ((asP_ok p).2 z)]
  · rw [if_neg z, if_neg (fun h => z ((asP_ok p).1 h))]
set_option maxHeartbeats 1000000 in
theorem as5 (p : Pol) (w : World) : Calls Tryz.prog 139 #[p.v] w fun e w' => e = .returned (asP p).v ∧ Below w.heap.size w w' := by
  obtain ⟨k, l, d, b, c, o⟩ := p
  unfold Pol.v asP
  dsimp only
  by_cases h : k = 2
  · rw [if_pos h]
    subst h
    go_enter Tryz.func139, Tryz.ntmps139
    repeat' (first | go_skip | go_guarded | go_step | go_upon)
    (try simp only [Exit.inBlock, Exit.then])
    refine bodyPost_ret (results_pol (b := w.heap.size + 1) rfl _ _ (by rfl) ⟨by go_simp, by go_simp, by go_simp, by go_simp, by go_simp, by go_simp⟩) rfl ⟨rfl, bl_alloc (bl_alloc (bl_refl _) _) _⟩
  · rw [if_neg h]
    go_enter Tryz.func139, Tryz.ntmps139
    repeat' (first | go_skip | go_guarded | go_step | go_upon)
    (try simp only [Exit.inBlock, Exit.then])
    refine bodyPost_ret (results_pol (b := w.heap.size + 1) rfl _ _ (by rfl) ⟨by go_simp, by go_simp, by go_simp, by go_simp, by go_simp, by go_simp⟩) rfl ⟨rfl, bl_alloc (bl_alloc (bl_refl _) _) _⟩
set_option maxHeartbeats 1000000 in
theorem r5chk (p : Pol) (w : World) : Calls Tryz.prog 81 #[p.v] w fun e w' => e = .returned (.int .i64 (chkG p)) ∧ Below w.heap.size w w' := by
  have h1 := as5 p
  have h2 := r4chk (asP p)
  rw [asP_chk] at h2
  generalize asP p = q at *
  generalize chkG p = C at *
  obtain ⟨k, l, d, b, c, o⟩ := p
  obtain ⟨k', l', d', b', c', o'⟩ := q
  unfold Pol.v at *
  dsimp only at *
  have H1 := Go.Lib.hid h1
  have H2 := Go.Lib.hid h2
  clear h1 h2
  go_enter Tryz.func81, Tryz.ntmps81
  go_wp2_with fail
  refine (H1.out _).mono ?_
  rintro e w1 ⟨rfl, hb⟩
  go_wp2_with fail
  refine (H2.out _).mono ?_
  rintro e w2 ⟨rfl, hb2⟩
  go_wp2_with fail
  go_ret
  exact ⟨rfl, bl_then (bl_then (bl_alloc (bl_refl _) _) hb) hb2⟩
set_option maxHeartbeats 2000000 in
theorem r8chk (p : Pol) (w : World) : Calls Tryz.prog 60 #[p.v] w fun e w' => e = .returned (.int .i64 (chkP p)) ∧ Below w.heap.size w w' := by
  have h4 := r4chk p
  have h5 := r5chk p
  have h6 := r6chk p
  have h7 := r7chk p
  have hB : p.kind ≠ 1 → chkB p = 2 := fun h => (chk_no (fun z => h z.1)).symm
  have HB := Go.Lib.hid hB
  unfold chkP
  generalize chkB p = CB at *
  generalize chkG p = CG at *
  generalize chkL p = CL at *
  generalize chkC p = CC at *
  obtain ⟨k, l, d, b, c, o⟩ := p
  unfold Pol.v at *
  dsimp only at *
  have H4 := Go.Lib.hid h4
  have H5 := Go.Lib.hid h5
  have H6 := Go.Lib.hid h6
  have H7 := Go.Lib.hid h7
  clear h4 h5 h6 h7 hB
  by_cases k2 : k = 2
  · subst k2
    rw [if_pos rfl]
    go_enter Tryz.func60, Tryz.ntmps60
    go_wp2_with go_step3
    refine (H5.out _).mono ?_
    rintro e w1 ⟨rfl, hb⟩
    go_wp2_with go_step3
    go_ret
    exact ⟨rfl, bl_then (bl_alloc (bl_refl _) _) hb⟩
  by_cases k3 : k = 3
  · subst k3
    rw [if_neg (by omega), if_pos rfl]
    go_enter Tryz.func60, Tryz.ntmps60
    go_wp2_with go_step3
    refine (H6.out _).mono ?_
    rintro e w1 ⟨rfl, hb⟩
    go_wp2_with go_step3
    go_ret
    exact ⟨rfl, bl_then (bl_alloc (bl_refl _) _) hb⟩
  by_cases k4 : k = 4
  · subst k4
    rw [if_neg (by omega), if_neg (by omega), if_pos rfl]
    go_enter Tryz.func60, Tryz.ntmps60
    go_wp2_with go_step3
    refine (H7.out _).mono ?_
    rintro e w1 ⟨rfl, hb⟩
    go_wp2_with go_step3
    go_ret
    exact ⟨rfl, bl_then (bl_alloc (bl_refl _) _) hb⟩
  by_cases k1 : k = 1
  · subst k1
    rw [if_neg (by omega), if_neg (by omega), if_neg (by omega)]
    go_enter Tryz.func60, Tryz.ntmps60
    go_wp2_with go_step3
    refine (H4.out _).mono ?_
    rintro e w1 ⟨rfl, hb⟩
    go_wp2_with go_step3
    go_ret
    exact ⟨rfl, bl_then (bl_alloc (bl_refl _) _) hb⟩
  rw [if_neg k2, if_neg k3, if_neg k4, HB.out k1]
  go_enter Tryz.func60, Tryz.ntmps60
  go_wp2_with go_step3
  go_ret
  exact ⟨rfl, bl_alloc (bl_refl _) _⟩
end Go.Proofs.YtcfdcianpicbmaaGreat

namespace Go.Proofs.YtcfdcianpicbmaaGreat
open Go.RowKit Go.Maps
set_option linter.unusedVariables false
set_option linter.unusedSimpArgs false

/-- An entry is put in at its place, one by one. -/
def lyStep (x : Key × EV) (q : Bool × List (Key × EV)) (y : Key × EV) : Bool × List (Key × EV) := if q.1 = false ∧ bytesBefore x.1 y.1 = true then (true, q.2 ++ [x] ++ [y]) else (q.1, q.2 ++ [y])
theorem ly_true (x : Key × EV) : ∀ (D acc : List (Key × EV)), D.foldl (lyStep x) (true, acc) = (true, acc ++ D)
  | [], acc => by simp
  | y :: D, acc => by
    show D.foldl (lyStep x) (lyStep x (true, acc) y) = _
    rw [show lyStep x (true, acc) y = (true, acc ++ [y]) by simp [lyStep], ly_true x D]
    simp
theorem ly_false (x : Key × EV) : ∀ (D acc : List (Key × EV)), (if (D.foldl (lyStep x) (false, acc)).1 = true then (D.foldl (lyStep x) (false, acc)).2 else (D.foldl (lyStep x) (false, acc)).2 ++ [x]) = acc ++ sIns x D
  | [], acc => by simp [sIns]
  | y :: D, acc => by
    show (if (D.foldl (lyStep x) (lyStep x (false, acc) y)).1 = true then (D.foldl (lyStep x) (lyStep x (false, acc) y)).2 else _) = _
    unfold sIns
    by_cases hb : bytesBefore x.1 y.1 = true
    · rw [if_pos hb, List.foldl_cons, show lyStep x (false, acc) y = (true, acc ++ [x] ++ [y]) by simp [lyStep, hb], ly_true]
      simp
    · rw [if_neg hb, List.foldl_cons, show lyStep x (false, acc) y = (false, acc ++ [y]) by simp [lyStep, hb], ly_false x D]
      simp
theorem ly_take (x : Key × EV) (D : List (Key × EV)) (j : Nat) (h : j < D.length) : (D.take (j + 1)).foldl (lyStep x) (false, []) = lyStep x ((D.take j).foldl (lyStep x) (false, [])) (lk D j) := by
  have e : lk D j = D[j] := by unfold lk; rw [List.getD_eq_getElem?_getD, List.getElem?_eq_getElem h]; rfl
  rw [List.take_succ_eq_append_getElem h, List.foldl_append, e]
  rfl
theorem ly_len (x : Key × EV) : ∀ (D : List (Key × EV)) (q : Bool × List (Key × EV)), (D.foldl (lyStep x) q).2.length ≤ q.2.length + D.length + (if q.1 = true then 0 else 1)
  | [], q => by simp
  | y :: D, q => by
    have h := ly_len x D (lyStep x q y)
    rw [List.foldl_cons]
    unfold lyStep at h ⊢
    split at h
    · next hc => rw [if_pos hc]; rw [hc.1]; simp at h ⊢; omega
    · next hc => rw [if_neg hc]; simp only [List.length_append, List.length_cons, List.length_nil] at h ⊢; split at h <;> simp_all <;> omega
theorem txt_data (s : ByteArray) : txt s.data.toList = s := by unfold txt; simp
theorem less_before : ∀ a b : List UInt8, Op.bytesLess a b = bytesBefore a b
  | [], [] => rfl
  | [], _ :: _ => rfl
  | _ :: _, [] => rfl
  | a :: x, b :: y => by
    show (a < b || (a == b && Op.bytesLess x y)) = (a < b || (a == b && bytesBefore x y))
    rw [less_before x y]
theorem less_txt (s : ByteArray) (k : Key) : Op.bytesLess s.toList (txt k).toList = bytesBefore s.data.toList k := by
  rw [ByteArray.toList_eq, ByteArray.toList_eq, txt_list, less_before]
set_option maxHeartbeats 2000000 in
set_option maxRecDepth 100000 in
theorem rlay_bad1 (a : Option Addr) (n c : Nat) (l : List (Key × EV)) (V : Int) (s : ByteArray) (p : Pol) (w : World) (h : EsAt w a n c l) (hn : n ≤ 900) (hs : s.size ≤ maxLen) (hb : nameR s = false) : Calls Tryz.prog 37 #[.agg #[.slice a n c, .int .i64 V], .string s, .agg #[.int .i64 p.kind, .int .i64 p.limit, .int .i64 p.period, .int .i64 p.burst, .int .i64 p.cap, .bool p.opn]] w (fun e w' => ∃ a' n' c', e = .returned (.tuple #[.agg #[.slice a' n' c', .int .i64 V], .int .i64 0, .int .i64 2]) ∧ EsAt w' a' n' c' l ∧ Sr a n w.heap.size a' n' ∧ Below w.heap.size w w') := by
  have hnm := fun w => rnamed_any s hs w
  rw [hb] at hnm
  clear hb
  have HE := Go.Lib.hid h
  have HNM := Go.Lib.hid hnm
  clear h hnm
  go_enter Tryz.func37, Tryz.ntmps37
  go_wp2_with fail
  refine (HNM.out _).mono ?_
  rintro e w1 ⟨rfl, hb⟩
  have hx : Below w.heap.size w w1 := bl_then (bl_alloc (bl_alloc (bl_alloc (bl_refl _) _) _) _) hb
  have hsz1 : w.heap.size + 3 ≤ w1.heap.size := by have h := hb.size; first | omega | (simp at h; omega) | (simp at h ⊢; omega)
  have t0 := bl_cell (v := .slice a n c) hb (show World.cell? _ ⟨w.heap.size, 0, none⟩ = _ by go_simp)
  have t1 := bl_cell (v := .int .i64 V) hb (show World.cell? _ ⟨w.heap.size, 1, none⟩ = _ by go_simp)
  have p0 := bl_cell (v := .int .i64 p.kind) hb (show World.cell? _ ⟨w.heap.size + 1, 0, none⟩ = _ by go_simp)
  have p1 := bl_cell (v := .int .i64 p.limit) hb (show World.cell? _ ⟨w.heap.size + 1, 1, none⟩ = _ by go_simp)
  have p2 := bl_cell (v := .int .i64 p.period) hb (show World.cell? _ ⟨w.heap.size + 1, 2, none⟩ = _ by go_simp)
  have p3 := bl_cell (v := .int .i64 p.burst) hb (show World.cell? _ ⟨w.heap.size + 1, 3, none⟩ = _ by go_simp)
  have p4 := bl_cell (v := .int .i64 p.cap) hb (show World.cell? _ ⟨w.heap.size + 1, 4, none⟩ = _ by go_simp)
  have p5 := bl_cell (v := .bool p.opn) hb (show World.cell? _ ⟨w.heap.size + 1, 5, none⟩ = _ by go_simp)
  have rR := res2_bl (b := w.heap.size + 1 + 1) (res2_new _ _ _ _ (by simp)) hb
  have hB : Below w.heap.size w w1 := hx
  have lb_t := World.block_lt_of_cell? w1 _ t0
  dsimp only at lb_t
  have lb_p := World.block_lt_of_cell? w1 _ p0
  dsimp only at lb_p
  clear hb hx
  obtain ⟨fr0, fr1, k0, k1, j0, j1⟩ := res2_all rR
  go_wp2_with fail
  (try simp only [Exit.inBlock, Exit.then])
  exact bodyPost_ret (results_T3 rfl _ _ (by rfl) (set2r rR)) rfl ⟨a, n, c, rfl, es_bl HE.out (bl_set (bl_set hB (by dsimp only; omega) _) (by dsimp only; omega) _), .inl ⟨rfl, rfl⟩, bl_set (bl_set hB (by dsimp only; omega) _) (by dsimp only; omega) _⟩
set_option maxHeartbeats 2000000 in
set_option maxRecDepth 100000 in
theorem rlay_bad2 (a : Option Addr) (n c : Nat) (l : List (Key × EV)) (V : Int) (s : ByteArray) (p : Pol) (w : World) (h : EsAt w a n c l) (hn : n ≤ 900) (hs : s.size ≤ maxLen) (hb : nameR s = true) (hc : ¬ chkP p = 0) : Calls Tryz.prog 37 #[.agg #[.slice a n c, .int .i64 V], .string s, .agg #[.int .i64 p.kind, .int .i64 p.limit, .int .i64 p.period, .int .i64 p.burst, .int .i64 p.cap, .bool p.opn]] w (fun e w' => ∃ a' n' c', e = .returned (.tuple #[.agg #[.slice a' n' c', .int .i64 V], .int .i64 0, .int .i64 2]) ∧ EsAt w' a' n' c' l ∧ Sr a n w.heap.size a' n' ∧ Below w.heap.size w w') := by
  have hnm := fun w => rnamed_any s hs w
  have hck := fun w => r8chk p w
  unfold Pol.v at hck
  rw [hb] at hnm
  generalize chkP p = CK at *
  clear hb
  have HNM := Go.Lib.hid hnm
  have HCK := Go.Lib.hid hck
  clear hnm hck
  have HE := Go.Lib.hid h
  clear h
  go_enter Tryz.func37, Tryz.ntmps37
  go_wp2_with fail
  refine (HNM.out _).mono ?_
  rintro e w1 ⟨rfl, hb⟩
  have hx : Below w.heap.size w w1 := bl_then (bl_alloc (bl_alloc (bl_alloc (bl_refl _) _) _) _) hb
  have hsz1 : w.heap.size + 3 ≤ w1.heap.size := by have h := hb.size; first | omega | (simp at h; omega) | (simp at h ⊢; omega)
  have t0 := bl_cell (v := .slice a n c) hb (show World.cell? _ ⟨w.heap.size, 0, none⟩ = _ by go_simp)
  have t1 := bl_cell (v := .int .i64 V) hb (show World.cell? _ ⟨w.heap.size, 1, none⟩ = _ by go_simp)
  have p0 := bl_cell (v := .int .i64 p.kind) hb (show World.cell? _ ⟨w.heap.size + 1, 0, none⟩ = _ by go_simp)
  have p1 := bl_cell (v := .int .i64 p.limit) hb (show World.cell? _ ⟨w.heap.size + 1, 1, none⟩ = _ by go_simp)
  have p2 := bl_cell (v := .int .i64 p.period) hb (show World.cell? _ ⟨w.heap.size + 1, 2, none⟩ = _ by go_simp)
  have p3 := bl_cell (v := .int .i64 p.burst) hb (show World.cell? _ ⟨w.heap.size + 1, 3, none⟩ = _ by go_simp)
  have p4 := bl_cell (v := .int .i64 p.cap) hb (show World.cell? _ ⟨w.heap.size + 1, 4, none⟩ = _ by go_simp)
  have p5 := bl_cell (v := .bool p.opn) hb (show World.cell? _ ⟨w.heap.size + 1, 5, none⟩ = _ by go_simp)
  have rR := res2_bl (b := w.heap.size + 1 + 1) (res2_new _ _ _ _ (by simp)) hb
  have hB : Below w.heap.size w w1 := hx
  have lb_t := World.block_lt_of_cell? w1 _ t0
  dsimp only at lb_t
  have lb_p := World.block_lt_of_cell? w1 _ p0
  dsimp only at lb_p
  clear hb hx
  go_wp2_with fail
  refine (HCK.out _).mono ?_
  rintro e w2 ⟨rfl, hb⟩
  have hsz2 : w1.heap.size + 0 ≤ w2.heap.size := by have h := hb.size; first | omega | (simp at h; omega) | (simp at h ⊢; omega)
  replace t0 := bl_cell hb t0
  replace t1 := bl_cell hb t1
  replace p0 := bl_cell hb p0
  replace p1 := bl_cell hb p1
  replace p2 := bl_cell hb p2
  replace p3 := bl_cell hb p3
  replace p4 := bl_cell hb p4
  replace p5 := bl_cell hb p5
  replace rR := res2_bl rR hb
  replace hB : Below w.heap.size w w2 := bl_then hB hb
  replace lb_t := World.block_lt_of_cell? w2 _ t0
  dsimp only at lb_t
  replace lb_p := World.block_lt_of_cell? w2 _ p0
  dsimp only at lb_p
  clear hb
  obtain ⟨fr0, fr1, k0, k1, j0, j1⟩ := res2_all rR
  go_wp2_with fail
  (try simp only [Exit.inBlock, Exit.then])
  exact bodyPost_ret (results_T3 rfl _ _ (by rfl) (set2r rR)) rfl ⟨a, n, c, rfl, es_bl HE.out (bl_set (bl_set hB (by dsimp only; omega) _) (by dsimp only; omega) _), .inl ⟨rfl, rfl⟩, bl_set (bl_set hB (by dsimp only; omega) _) (by dsimp only; omega) _⟩
set_option maxHeartbeats 2000000 in
set_option maxRecDepth 100000 in
theorem rlay_full (a : Option Addr) (n c : Nat) (l : List (Key × EV)) (V : Int) (s : ByteArray) (p : Pol) (w : World) (h : EsAt w a n c l) (hn : n ≤ 900) (hs : s.size ≤ maxLen) (hb : nameR s = true) (hc : chkP p = 0) (hi : bIs (l, V) s.data.toList = false) (h100 : 100 ≤ n) : Calls Tryz.prog 37 #[.agg #[.slice a n c, .int .i64 V], .string s, .agg #[.int .i64 p.kind, .int .i64 p.limit, .int .i64 p.period, .int .i64 p.burst, .int .i64 p.cap, .bool p.opn]] w (fun e w' => ∃ a' n' c', e = .returned (.tuple #[.agg #[.slice a' n' c', .int .i64 V], .int .i64 0, .int .i64 5]) ∧ EsAt w' a' n' c' l ∧ Sr a n w.heap.size a' n' ∧ Below w.heap.size w w') := by
  have h101 : (100 : Int) ≤ n := by omega
  have hnm := fun w => rnamed_any s hs w
  have hck := fun w => r8chk p w
  have hge := fun w hw => rget_any a n c l V s w hw
  unfold Pol.v at hck hge
  rw [hb] at hnm
  rw [hc] at hck
  generalize bGet (l, V) s.data.toList = G at *
  obtain ⟨g, gv⟩ := G
  dsimp only at *
  rw [hi] at hge
  clear hi
  clear hb hc
  have HNM := Go.Lib.hid hnm
  have HCK := Go.Lib.hid hck
  have HGE := Go.Lib.hid hge
  clear hnm hck hge
  have HE := Go.Lib.hid h
  clear h
  go_enter Tryz.func37, Tryz.ntmps37
  go_wp2_with fail
  refine (HNM.out _).mono ?_
  rintro e w1 ⟨rfl, hb⟩
  have hx : Below w.heap.size w w1 := bl_then (bl_alloc (bl_alloc (bl_alloc (bl_refl _) _) _) _) hb
  have hsz1 : w.heap.size + 3 ≤ w1.heap.size := by have h := hb.size; first | omega | (simp at h; omega) | (simp at h ⊢; omega)
  have t0 := bl_cell (v := .slice a n c) hb (show World.cell? _ ⟨w.heap.size, 0, none⟩ = _ by go_simp)
  have t1 := bl_cell (v := .int .i64 V) hb (show World.cell? _ ⟨w.heap.size, 1, none⟩ = _ by go_simp)
  have p0 := bl_cell (v := .int .i64 p.kind) hb (show World.cell? _ ⟨w.heap.size + 1, 0, none⟩ = _ by go_simp)
  have p1 := bl_cell (v := .int .i64 p.limit) hb (show World.cell? _ ⟨w.heap.size + 1, 1, none⟩ = _ by go_simp)
  have p2 := bl_cell (v := .int .i64 p.period) hb (show World.cell? _ ⟨w.heap.size + 1, 2, none⟩ = _ by go_simp)
  have p3 := bl_cell (v := .int .i64 p.burst) hb (show World.cell? _ ⟨w.heap.size + 1, 3, none⟩ = _ by go_simp)
  have p4 := bl_cell (v := .int .i64 p.cap) hb (show World.cell? _ ⟨w.heap.size + 1, 4, none⟩ = _ by go_simp)
  have p5 := bl_cell (v := .bool p.opn) hb (show World.cell? _ ⟨w.heap.size + 1, 5, none⟩ = _ by go_simp)
  have rR := res2_bl (b := w.heap.size + 1 + 1) (res2_new _ _ _ _ (by simp)) hb
  have hB : Below w.heap.size w w1 := hx
  have lb_t := World.block_lt_of_cell? w1 _ t0
  dsimp only at lb_t
  have lb_p := World.block_lt_of_cell? w1 _ p0
  dsimp only at lb_p
  clear hb hx
  go_wp2_with fail
  refine (HCK.out _).mono ?_
  rintro e w2 ⟨rfl, hb⟩
  have hsz2 : w1.heap.size + 0 ≤ w2.heap.size := by have h := hb.size; first | omega | (simp at h; omega) | (simp at h ⊢; omega)
  replace t0 := bl_cell hb t0
  replace t1 := bl_cell hb t1
  replace p0 := bl_cell hb p0
  replace p1 := bl_cell hb p1
  replace p2 := bl_cell hb p2
  replace p3 := bl_cell hb p3
  replace p4 := bl_cell hb p4
  replace p5 := bl_cell hb p5
  replace rR := res2_bl rR hb
  replace hB : Below w.heap.size w w2 := bl_then hB hb
  replace lb_t := World.block_lt_of_cell? w2 _ t0
  dsimp only at lb_t
  replace lb_p := World.block_lt_of_cell? w2 _ p0
  dsimp only at lb_p
  clear hb
  go_wp2_with fail
  refine (HGE.out _ (es_bl HE.out (hB))).mono ?_
  rintro e w3 ⟨rfl, hb⟩
  have hsz3 : w2.heap.size + 0 ≤ w3.heap.size := by have h := hb.size; first | omega | (simp at h; omega) | (simp at h ⊢; omega)
  replace t0 := bl_cell hb t0
  replace t1 := bl_cell hb t1
  replace p0 := bl_cell hb p0
  replace p1 := bl_cell hb p1
  replace p2 := bl_cell hb p2
  replace p3 := bl_cell hb p3
  replace p4 := bl_cell hb p4
  replace p5 := bl_cell hb p5
  replace rR := res2_bl rR hb
  replace hB : Below w.heap.size w w3 := bl_then hB hb
  replace lb_t := World.block_lt_of_cell? w3 _ t0
  dsimp only at lb_t
  replace lb_p := World.block_lt_of_cell? w3 _ p0
  dsimp only at lb_p
  clear hb
  replace rR := res2_bl rR (bl_alloc (bl_refl _) (.cells #[.int .i64 g.kind, .int .i64 g.limit, .int .i64 g.period, .int .i64 g.burst, .int .i64 g.cap, .bool g.opn] 33))
  obtain ⟨fr0, fr1, k0, k1, j0, j1⟩ := res2_all rR
  go_wp2_with fail
  (try simp only [Exit.inBlock, Exit.then])
  exact bodyPost_ret (results_T3 rfl _ _ (by rfl) (set2r rR)) rfl ⟨a, n, c, rfl, es_bl HE.out (bl_set (bl_set (bl_alloc hB _) (by dsimp only; omega) _) (by dsimp only; omega) _), .inl ⟨rfl, rfl⟩, bl_set (bl_set (bl_alloc hB _) (by dsimp only; omega) _) (by dsimp only; omega) _⟩
set_option maxHeartbeats 2000000 in
set_option maxRecDepth 100000 in
theorem rlay_same (a : Option Addr) (n c : Nat) (l : List (Key × EV)) (V : Int) (s : ByteArray) (p : Pol) (w : World) (h : EsAt w a n c l) (hn : n ≤ 900) (hs : s.size ≤ maxLen) (hb : nameR s = true) (hc : chkP p = 0) (hi : bIs (l, V) s.data.toList = true) (he : (bGet (l, V) s.data.toList).1 = p) : Calls Tryz.prog 37 #[.agg #[.slice a n c, .int .i64 V], .string s, .agg #[.int .i64 p.kind, .int .i64 p.limit, .int .i64 p.period, .int .i64 p.burst, .int .i64 p.cap, .bool p.opn]] w (fun e w' => ∃ a' n' c', e = .returned (.tuple #[.agg #[.slice a' n' c', .int .i64 V], .int .i64 (bGet (l, V) s.data.toList).2, .int .i64 0]) ∧ EsAt w' a' n' c' l ∧ Sr a n w.heap.size a' n' ∧ Below w.heap.size w w') := by
  have hnm := fun w => rnamed_any s hs w
  have hck := fun w => r8chk p w
  have hge := fun w hw => rget_any a n c l V s w hw
  unfold Pol.v at hck hge
  rw [hb] at hnm
  rw [hc] at hck
  generalize bGet (l, V) s.data.toList = G at *
  obtain ⟨g, gv⟩ := G
  dsimp only at *
  rw [hi] at hge
  subst he
  have heq := fun w => pol_eql g g w
  rw [decide_eq_true rfl] at heq
  clear hi
  clear hb hc
  have HNM := Go.Lib.hid hnm
  have HCK := Go.Lib.hid hck
  have HGE := Go.Lib.hid hge
  clear hnm hck hge
  have HE := Go.Lib.hid h
  clear h
  go_enter Tryz.func37, Tryz.ntmps37
  go_wp2_with fail
  refine (HNM.out _).mono ?_
  rintro e w1 ⟨rfl, hb⟩
  have hx : Below w.heap.size w w1 := bl_then (bl_alloc (bl_alloc (bl_alloc (bl_refl _) _) _) _) hb
  have hsz1 : w.heap.size + 3 ≤ w1.heap.size := by have h := hb.size; first | omega | (simp at h; omega) | (simp at h ⊢; omega)
  have t0 := bl_cell (v := .slice a n c) hb (show World.cell? _ ⟨w.heap.size, 0, none⟩ = _ by go_simp)
  have t1 := bl_cell (v := .int .i64 V) hb (show World.cell? _ ⟨w.heap.size, 1, none⟩ = _ by go_simp)
  have p0 := bl_cell (v := .int .i64 g.kind) hb (show World.cell? _ ⟨w.heap.size + 1, 0, none⟩ = _ by go_simp)
  have p1 := bl_cell (v := .int .i64 g.limit) hb (show World.cell? _ ⟨w.heap.size + 1, 1, none⟩ = _ by go_simp)
  have p2 := bl_cell (v := .int .i64 g.period) hb (show World.cell? _ ⟨w.heap.size + 1, 2, none⟩ = _ by go_simp)
  have p3 := bl_cell (v := .int .i64 g.burst) hb (show World.cell? _ ⟨w.heap.size + 1, 3, none⟩ = _ by go_simp)
  have p4 := bl_cell (v := .int .i64 g.cap) hb (show World.cell? _ ⟨w.heap.size + 1, 4, none⟩ = _ by go_simp)
  have p5 := bl_cell (v := .bool g.opn) hb (show World.cell? _ ⟨w.heap.size + 1, 5, none⟩ = _ by go_simp)
  have rR := res2_bl (b := w.heap.size + 1 + 1) (res2_new _ _ _ _ (by simp)) hb
  have hB : Below w.heap.size w w1 := hx
  have lb_t := World.block_lt_of_cell? w1 _ t0
  dsimp only at lb_t
  have lb_p := World.block_lt_of_cell? w1 _ p0
  dsimp only at lb_p
  clear hb hx
  go_wp2_with fail
  refine (HCK.out _).mono ?_
  rintro e w2 ⟨rfl, hb⟩
  have hsz2 : w1.heap.size + 0 ≤ w2.heap.size := by have h := hb.size; first | omega | (simp at h; omega) | (simp at h ⊢; omega)
  replace t0 := bl_cell hb t0
  replace t1 := bl_cell hb t1
  replace p0 := bl_cell hb p0
  replace p1 := bl_cell hb p1
  replace p2 := bl_cell hb p2
  replace p3 := bl_cell hb p3
  replace p4 := bl_cell hb p4
  replace p5 := bl_cell hb p5
  replace rR := res2_bl rR hb
  replace hB : Below w.heap.size w w2 := bl_then hB hb
  replace lb_t := World.block_lt_of_cell? w2 _ t0
  dsimp only at lb_t
  replace lb_p := World.block_lt_of_cell? w2 _ p0
  dsimp only at lb_p
  clear hb
  go_wp2_with fail
  refine (HGE.out _ (es_bl HE.out (hB))).mono ?_
  rintro e w3 ⟨rfl, hb⟩
  have hsz3 : w2.heap.size + 0 ≤ w3.heap.size := by have h := hb.size; first | omega | (simp at h; omega) | (simp at h ⊢; omega)
  replace t0 := bl_cell hb t0
  replace t1 := bl_cell hb t1
  replace p0 := bl_cell hb p0
  replace p1 := bl_cell hb p1
  replace p2 := bl_cell hb p2
  replace p3 := bl_cell hb p3
  replace p4 := bl_cell hb p4
  replace p5 := bl_cell hb p5
  replace rR := res2_bl rR hb
  replace hB : Below w.heap.size w w3 := bl_then hB hb
  replace lb_t := World.block_lt_of_cell? w3 _ t0
  dsimp only at lb_t
  replace lb_p := World.block_lt_of_cell? w3 _ p0
  dsimp only at lb_p
  clear hb
  replace rR := res2_bl rR (bl_alloc (bl_refl _) (.cells #[.int .i64 g.kind, .int .i64 g.limit, .int .i64 g.period, .int .i64 g.burst, .int .i64 g.cap, .bool g.opn] 33))
  obtain ⟨fr0, fr1, k0, k1, j0, j1⟩ := res2_all rR
  go_wp2_with fail
  (try simp only [Exit.inBlock, Exit.then])
  exact bodyPost_ret (results_T3 rfl _ _ (by rfl) (set2r rR)) rfl ⟨a, n, c, rfl, es_bl HE.out (bl_set (bl_set (bl_alloc hB _) (by dsimp only; omega) _) (by dsimp only; omega) _), .inl ⟨rfl, rfl⟩, bl_set (bl_set (bl_alloc hB _) (by dsimp only; omega) _) (by dsimp only; omega) _⟩
end Go.Proofs.YtcfdcianpicbmaaGreat
