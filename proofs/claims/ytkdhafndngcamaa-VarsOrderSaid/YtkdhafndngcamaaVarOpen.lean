/-
  A slice of acts among a law's arguments, opened to its cells. No condition.
-/
import Derived.Test.YtkdhafndngcamaaVarRoom
import Derived.Deep.Slices
import Derived.Deep.Fields
import Derived.ChangeSame
namespace Go.Proofs.Ytkdhafndngcamaa
open Go.RowKit Go.ChangeShapes Go.WideShapes Go.Deep
set_option linter.unusedVariables false

theorem do_fields : ∃ f0 f1 f2 f3 : Field, Try.prog.underlying 36 = some (.struct #[f0, f1, f2, f3]) ∧
    (f0.offset = 0 ∧ f0.type = 3) ∧ (f1.offset = 1 ∧ f1.type = 9) ∧ (f2.offset = 2 ∧ f2.type = 3) ∧ (f3.offset = 3 ∧ f3.type = 3) :=
  ⟨_, _, _, _, Try.underlying36, ⟨rfl, rfl⟩, ⟨rfl, rfl⟩, ⟨rfl, rfl⟩, ⟨rfl, rfl⟩⟩
theorem cells_int : Try.prog.cellsOf 3 = 1 := by kernel_rfl
theorem cells_string : Try.prog.cellsOf 9 = 1 := by kernel_rfl
theorem cells_do : Try.prog.cellsOf 36 = 4 := by kernel_rfl

variable {H : Type} {enc : TypeId × Value → H} {w : World} {base : Nat} {spare : Nat → Bool} {held : Bool}

/-- One act's four cells. -/
theorem do_cells {n : Nat} {cs : List Value} {y : DataW H × List MemPlace} (h : DataW.trod enc Try.prog w base spare held n 36 cs = some y) :
    ∃ d : Dd, d.ok ∧ cs = [.int .i64 d.kind, .string d.key, .int .i64 d.n, .int .i64 d.now] := by
  obtain ⟨f0, f1, f2, f3, hu, ⟨o0, t0⟩, ⟨o1, t1⟩, ⟨o2, t2⟩, ⟨o3, t3⟩⟩ := do_fields
  obtain ⟨xs, m, _, _, hl, hx, hg⟩ := DataW.trod_struct hu h
  rw [cells_do] at hl
  match cs, hl with
  | [c0, c1, c2, c3], _ =>
    match xs, hx with
    | [y0, y1, y2, y3], _ =>
      have g0 := hg 0 f0 rfl
      have g1 := hg 1 f1 rfl
      have g2 := hg 2 f2 rfl
      have g3 := hg 3 f3 rfl
      rw [o0, t0, cells_int] at g0
      rw [o1, t1, cells_string] at g1
      rw [o2, t2, cells_int] at g2
      rw [o3, t3, cells_int] at g3
      obtain ⟨n0, e0, _, _⟩ := DataW.trod_int Try.underlying3 (g0.trans rfl)
      obtain ⟨s1, e1, _, hs⟩ := DataW.trod_string Try.underlying9 (g1.trans rfl)
      obtain ⟨n2, e2, _, w2⟩ := DataW.trod_int Try.underlying3 (g2.trans rfl)
      obtain ⟨n3, e3, _, _⟩ := DataW.trod_int Try.underlying3 (g3.trans rfl)
      simp at e0 e1 e2 e3
      subst e0 e1 e2 e3
      simp only [Lit.wf, Bool.and_eq_true, decide_eq_true_eq] at w2
      exact ⟨⟨n0, s1, n2, n3⟩, ⟨hs, w2.1, w2.2⟩, rfl⟩

theorem open_dos {fuel : Nat} {a : Option Addr} {len cap : Nat} {x : DataW H × List MemPlace} (h : DataW.trod enc Try.prog w base spare held fuel 33 [.slice a len cap] = some x) : ∃ ds, DosIn w a len ds := by
  rcases open_slice Try.underlying33 h with ⟨e, _⟩ | ⟨ad, len', cap', m, n, D, Pl, e, _, hl, hm, hmm, _, hi⟩
  · injection e with e _
    injection e with _ e2 _
    subst e2
    exact ⟨fun _ => ⟨0, ByteArray.empty, 0, 0⟩, by omega, fun i hi => by omega⟩
  · injection e with e _
    injection e with e1 e2 e3
    subst e1 e2 e3
    have hle : len ≤ m := by rw [hmm]; split <;> omega
    have key : ∀ i, ∃ d : Dd, i < len → d.ok ∧ ∃ b off, ad = ⟨b, off, none⟩ ∧ w.cell? ⟨b, off + i * 4, none⟩ = some (.int .i64 d.kind) ∧ w.cell? ⟨b, off + i * 4 + 1, none⟩ = some (.string d.key) ∧
        w.cell? ⟨b, off + i * 4 + 2, none⟩ = some (.int .i64 d.n) ∧ w.cell? ⟨b, off + i * 4 + 3, none⟩ = some (.int .i64 d.now) := fun i => by
      by_cases hlt : i < len
      · obtain ⟨cs', hc, ht⟩ := hi i (by omega)
        rw [cells_do] at hc
        obtain ⟨d, hd, rfl⟩ := do_cells ht
        obtain ⟨_, _, hat⟩ := World.cells?_some hc
        obtain ⟨cs0, hc0, _⟩ := hi 0 (by omega)
        rw [cells_do] at hc0
        obtain ⟨_, hl0, hat0⟩ := World.cells?_some hc0
        obtain ⟨b, off, spot⟩ := ad
        have hsp : spot = none := by
          have h1 := hat0 0 (by omega)
          rw [List.getElem?_eq_getElem (by omega)] at h1
          simpa [Addr.add] using World.cell?_spot h1
        subst hsp
        have plain : ∀ j, ((⟨b, off, none⟩ : Addr).add (i * 4)).add j = ⟨b, off + i * 4 + j, none⟩ := fun j => by
          unfold Addr.add
          split <;> split <;> simp_all <;> omega
        refine ⟨d, fun _ => ⟨hd, b, off, rfl, ?_, ?_, ?_, ?_⟩⟩
        · have := hat 0 (by omega); rw [plain] at this; simpa using this
        · have := hat 1 (by omega); rw [plain] at this; simpa using this
        · have := hat 2 (by omega); rw [plain] at this; simpa using this
        · have := hat 3 (by omega); rw [plain] at this; simpa using this
      · exact ⟨⟨0, ByteArray.empty, 0, 0⟩, fun h => absurd h hlt⟩
    refine ⟨fun i => Classical.choose (key i), by unfold maxLen at hm; omega, fun i hlt => ?_⟩
    obtain ⟨h1, b, off, h2, h3⟩ := Classical.choose_spec (key i) hlt
    exact ⟨h1, b, off, by rw [h2], h3⟩
end Go.Proofs.Ytkdhafndngcamaa
