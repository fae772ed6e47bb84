/-
  A Vars as a plain list of keys, numbers and ends; what New and put do to it.
-/
import Derived.Test.YtkdhafndngcamaaVarQ
namespace Go.Proofs.Ytkdhafndngcamaa
open Go.RowKit Go.Maps

/-- Only blocks of F have turned, of those that were there. -/
structure Only (F : Nat → Prop) (w w' : World) : Prop where
  os : w'.os = w.os
  tape : w'.tape = w.tape
  output : w'.output = w.output
  size : w.heap.size ≤ w'.heap.size
  block : ∀ b, b < w.heap.size → ¬ F b → w'.heap[b]? = w.heap[b]?

theorem Only.of_below {F : Nat → Prop} {w w' : World} (h : Below w.heap.size w w') : Only F w w' := ⟨h.os, h.tape, h.output, h.size, fun b hb _ => h.block b hb⟩
theorem Only.of_grown {F : Nat → Prop} {w w' : World} {g : Nat} (h : w.grownBy w' (some g)) (hg : F g) : Only F w w' := ⟨h.os, h.tape, h.output, h.size, fun b hb hf => h.block b hb (by rintro e; injection e with e; exact hf (e ▸ hg))⟩
theorem Only.trans {F G : Nat → Prop} {a b c : World} (h : Only F a b) (k : Only G b c) (hs : ∀ i, i < a.heap.size → G i → F i) : Only F a c :=
  ⟨k.os.trans h.os, k.tape.trans h.tape, k.output.trans h.output, Nat.le_trans h.size k.size, fun i hi hf => (k.block i (Nat.lt_of_lt_of_le hi h.size) (fun hg => hf (hs i hi hg))).trans (h.block i hi hf)⟩
theorem Only.below {F : Nat → Prop} {w w' : World} {B : Nat} (h : Only F w w') (hB : B ≤ w.heap.size) (hf : ∀ b, F b → B ≤ b) : Below B w w' :=
  ⟨h.os, h.tape, h.output, h.size, fun b hb => h.block b (by omega) (fun hF => by have := hf b hF; omega)⟩

/-- Keys, numbers, ends. -/
abbrev PM := List (Key × (Int × Int))
def vne (c : VC) : Int × Int := (c.n, c.e)
def er (m : List (Key × VC)) : PM := mapV vne m

def pFind (m : PM) (k : Key) (now : Int) : Option (Int × Int) := (sGet k m).filter fun c => thereB now c.2
def pLive (m : PM) (now : Int) : List Key := (m.filter fun x => thereB now x.2.2).map (·.1)
def pSweep (m : PM) (now : Int) : PM := m.filter fun x => thereB now x.2.2
def pPutOk (m : PM) (room : Int) (k : Key) (now : Int) : Bool := (pFind m k now).isSome || decide (((pLive m now).length : Int) < room)
def pPut (m : PM) (room : Int) (k : Key) (c : Int × Int) (now : Int) : PM :=
  if (pFind m k now).isSome then sPut k c m else if ((pLive m now).length : Int) < room then sPut k c (pSweep m now) else m

theorem pFind_er (m : List (Key × VC)) (k : Key) (now : Int) : pFind (er m) k now = (vFind m k now).map vne := by
  unfold pFind er vFind
  rw [sGet_map]
  cases sGet k m with
  | none => rfl
  | some c => cases h : thereB now c.e <;> simp [Option.filter, vne, h]
theorem pLive_er (m : List (Key × VC)) (now : Int) : pLive (er m) now = liveK m now := by
  unfold pLive er liveK
  rw [filter_map]
  simp [mapV, vne]
theorem pSweep_er (m : List (Key × VC)) (now : Int) : pSweep (er m) now = er (sweepL m now) := by
  unfold pSweep er sweepL
  rw [filter_map]
  rfl
theorem er_put (k : Key) (c : VC) (m : List (Key × VC)) : er (sPut k c m) = sPut k (c.n, c.e) (er m) := (sPut_map vne k c m).symm
theorem er_del (k : Key) (m : List (Key × VC)) : er (sDel k m) = sDel k (er m) := (sDel_map vne k m).symm

/-- Block v is a Vars of this room that holds just this; its blocks are among F. -/
def IsVars (w : World) (F : Nat → Prop) (v : Nat) (room : Int) (pm : PM) : Prop :=
  ∃ mb m, VarsAt w v mb room m ∧ er m = pm ∧ (∀ b, VFoot v mb m b → F b)
/-- What an act on a Vars leaves. -/
def VarsTo (w : World) (F : Nat → Prop) (v : Nat) (room : Int) (pm : PM) (w' : World) : Prop :=
  ∃ F' : Nat → Prop, IsVars w' F' v room pm ∧ (∀ b, F' b → F b ∨ w.heap.size ≤ b ∧ b < w'.heap.size) ∧ Only F w w'

theorem IsVars.frame {w w' : World} {F : Nat → Prop} {v : Nat} {room : Int} {pm : PM} (h : IsVars w F v room pm) (hf : ∀ b, F b → b < w.heap.size → w'.heap[b]? = w.heap[b]?) : IsVars w' F v room pm := by
  obtain ⟨mb, m, h1, h2, h3⟩ := h
  exact ⟨mb, m, h1.frame fun b hb => hf b (h3 b hb) (h1.lt hb), h2, h3⟩
theorem IsVars.below {w w' : World} {F : Nat → Prop} {v : Nat} {room : Int} {pm : PM} (h : IsVars w F v room pm) (hb : Below w.heap.size w w') : IsVars w' F v room pm := h.frame fun b _ hlt => hb.block b hlt
theorem VarsTo.same {w w' : World} {F : Nat → Prop} {v : Nat} {room : Int} {pm : PM} (h : IsVars w F v room pm) (hb : Below w.heap.size w w') : VarsTo w F v room pm w' :=
  ⟨F, h.below hb, fun _ hf => .inl hf, Only.of_below hb⟩
/-- Ahead of it only new memory was made. -/
theorem VarsTo.later {w0 w w' : World} {F : Nat → Prop} {v : Nat} {room : Int} {pm : PM} (hb : Below w0.heap.size w0 w) (h : VarsTo w F v room pm w') : VarsTo w0 F v room pm w' := by
  obtain ⟨F', h1, h2, h3⟩ := h
  refine ⟨F', h1, fun b hf => ?_, (Only.of_below hb).trans h3 (fun _ _ hg => hg)⟩
  rcases h2 b hf with h | ⟨h, hh⟩
  · exact .inl h
  · exact .inr ⟨Nat.le_trans hb.size h, hh⟩
/-- Behind it only new memory was made. -/
theorem VarsTo.then_ {w w1 w' : World} {F : Nat → Prop} {v : Nat} {room : Int} {pm : PM} (h : VarsTo w F v room pm w1) (hb : Below w1.heap.size w1 w') : VarsTo w F v room pm w' := by
  obtain ⟨F', h1, h2, h3⟩ := h
  refine ⟨F', h1.below hb, fun b hf => ?_, h3.trans (Only.of_below hb (F := F)) (fun _ _ hg => hg)⟩
  rcases h2 b hf with h | ⟨h, hh⟩
  · exact .inl h
  · exact .inr ⟨h, Nat.lt_of_lt_of_le hh hb.size⟩

theorem foot_put {v mb : Nat} {m m0 : List (Key × VC)} {k : Key} {c : VC} (hs : ∀ x ∈ m0, x ∈ m) {b : Nat} (h : VFoot v mb (sPut k c m0) b) : VFoot v mb m b ∨ b = c.p := by
  rcases h with h | h | ⟨x, hx, h⟩
  · exact .inl (.inl h)
  · exact .inl (.inr (.inl h))
  · rcases mem_sPut.1 hx with rfl | ⟨hx, _⟩
    · exact .inr h
    · exact .inl (.inr (.inr ⟨x, hs x hx, h⟩))

theorem put_any {F : Nat → Prop} {v : Nat} {room : Int} {pm : PM} (s : ByteArray) (hs : s.size ≤ maxLen) (n e now : Int) (w : World) (h : IsVars w F v room pm) :
    Calls Try.prog 19 #[.pointer (some ⟨v, 0, none⟩), .string s, .agg #[.int .i64 n, .int .i64 e], .int .i64 now] w fun r w' => r = .returned (.bool (pPutOk pm room s.data.toList now)) ∧ VarsTo w F v room (pPut pm room s.data.toList (n, e) now) w' := by
  have h' := h
  obtain ⟨mb, m, hv, rfl, hF⟩ := h
  unfold pPutOk pPut
  rw [pFind_er, pLive_er, pSweep_er]
  cases hf : vFind m s.data.toList now with
  | some c0 =>
    refine (put_old s hs n e now w hv c0 hf).mono ?_
    rintro r w' ⟨rfl, h1, h2⟩
    have hlt := (Array.getElem?_eq_some_iff.1 (h1.one _ (mem_sPut.2 (.inl rfl)))).1
    refine ⟨by simp, fun b => F b ∨ w.heap.size ≤ b ∧ b < w'.heap.size, ⟨mb, _, h1, by simp [er_put], fun b hb => ?_⟩, fun _ hb => hb, Only.of_grown h2 (hF mb (.inr (.inl rfl)))⟩
    rcases foot_put (fun _ hx => hx) hb with hb | rfl
    · exact .inl (hF b hb)
    · exact .inr ⟨Nat.le_refl _, hlt⟩
  | none =>
    by_cases hr : ((liveK m now).length : Int) < room
    · refine (put_new s hs n e now w hv hf hr).mono ?_
      rintro r w' ⟨rfl, h1, h2⟩
      have hlt := (Array.getElem?_eq_some_iff.1 (h1.one _ (mem_sPut.2 (.inl rfl)))).1
      refine ⟨by simp [hr], fun b => F b ∨ w.heap.size ≤ b ∧ b < w'.heap.size, ⟨mb, _, h1, by simp [er_put, hr], fun b hb => ?_⟩, fun _ hb => hb, Only.of_grown h2 (hF mb (.inr (.inl rfl)))⟩
      rcases foot_put (m := m) (fun x hx => (List.mem_filter.1 hx).1) hb with hb | rfl
      · exact .inl (hF b hb)
      · exact .inr ⟨Nat.le_refl _, hlt⟩
    · refine (put_full s hs n e now w hv hf (by omega)).mono ?_
      rintro r w' ⟨rfl, hb⟩
      refine ⟨by simp [hr], ?_⟩
      simp only [Option.map_none, Option.isSome_none, Bool.false_eq_true, if_false, if_neg hr]
      exact VarsTo.same h' hb
end Go.Proofs.Ytkdhafndngcamaa
