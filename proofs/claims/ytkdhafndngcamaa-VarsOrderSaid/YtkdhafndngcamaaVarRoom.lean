/-
  The law VarsRoom: there are never more than there is room; what is full is told, and changes nothing. For every input.
-/
import Derived.Test.YtkdhafndngcamaaVarDid
namespace Go.Proofs.Ytkdhafndngcamaa
open Go.RowKit Go.Maps
set_option linter.unusedVariables false

/-- A slice of acts that came in. -/
def DosIn (w : World) (a : Option Addr) (len : Nat) (ds : Nat → Dd) : Prop :=
  len ≤ 9223372036854775807 ∧ ∀ i, i < len → (ds i).ok ∧ ∃ b off, a = some ⟨b, off, none⟩ ∧ w.cell? ⟨b, off + i * 4, none⟩ = some (.int .i64 (ds i).kind) ∧ w.cell? ⟨b, off + i * 4 + 1, none⟩ = some (.string (ds i).key) ∧
    w.cell? ⟨b, off + i * 4 + 2, none⟩ = some (.int .i64 (ds i).n) ∧ w.cell? ⟨b, off + i * 4 + 3, none⟩ = some (.int .i64 (ds i).now)

theorem there_no (now : Int) : thereB now (-1) = true := by unfold thereB; simp
/-- Some number, and the world as it was. -/
def SomeN (w : World) (e : Ending) (w' : World) : Prop := ∃ n : Int, e = .returned (.int .i64 n) ∧ w = w'

set_option maxHeartbeats 1000000 in
theorem long_any (a : Option Addr) (len cap : Nat) (ds : Nat → Dd) (w : World) (h : DosIn w a len ds) : Calls Try.prog 12 #[.slice a len cap] w (SomeN w) := by
  obtain ⟨hm, hc⟩ := h
  have HC := Go.Lib.hid hc
  clear hc
  go_enter Try.func12, Try.ntmps12
  go_wp2
  go_loop [3, 4] (fun s3 s4 => ∃ (c : Int) (k : Nat), s3 = .int .i64 c ∧ s4 = .int .i64 k ∧ k ≤ len) (fun _ s4 => len - (intOf s4).toNat)
  case atStart => exact ⟨0, 0, rfl, rfl, Nat.zero_le _⟩
  case round =>
    obtain ⟨c, k, rfl, rfl, hk⟩ := hrel
    by_cases hlt : k < len
    · obtain ⟨_, b, off, rfl, _, c1, _, _⟩ := HC.out k hlt
      have hk0 : (0 : Int) ≤ (k : Int) := by omega
      have hk1 : (k : Int) < (len : Int) := by omega
      go_wp2
      go_round
      case rel => exact ⟨_, k + 1, rfl, by go_num, by omega⟩
      case measure => simp [intOf]; omega
    · have hk1 : ¬ (k : Int) < (len : Int) := by omega
      go_wp2
      go_ret
      exact ⟨_, rfl, rfl⟩

theorem IsVars.len {w : World} {F : Nat → Prop} {v : Nat} {room : Int} {pm : PM} (h : IsVars w F v room pm) : (pm.length : Int) ≤ room := by
  obtain ⟨mb, m, h1, rfl, _⟩ := h
  have := h1.len
  unfold er
  rw [mapV_length]
  exact this
theorem pLive_len (pm : PM) (now : Int) : (pLive pm now).length ≤ pm.length := by unfold pLive; rw [List.length_map]; exact List.length_filter_le _ _

theorem put_full_same {pm : PM} {room : Int} {k : Key} {c : Int × Int} {now : Int} (h : pPutOk pm room k now = false) : pPut pm room k c now = pm ∧ room ≤ ((pLive pm now).length : Int) ∧ (pFind pm k now).isSome = false := by
  unfold pPutOk at h
  rw [Bool.or_eq_false_iff] at h
  obtain ⟨h1, h2⟩ := h
  have h3 : ¬ ((pLive pm now).length : Int) < room := by simpa using h2
  refine ⟨?_, by omega, h1⟩
  unfold pPut
  rw [h1, if_neg h3]
  rfl
theorem put_there {pm : PM} {room : Int} {k : Key} {n : Int} {now : Int} (h : pPutOk pm room k now = true) : (pFind (pPut pm room k (n, -1) now) k now).isSome = true := by
  unfold pPut
  cases h1 : (pFind pm k now).isSome
  · have h3 : ((pLive pm now).length : Int) < room := by unfold pPutOk at h; rw [h1] at h; simpa using h
    rw [if_pos h3]
    unfold pFind
    simp only [Bool.false_eq_true, if_false, sGet_put_same]
    simp [Option.filter, there_no]
  · unfold pFind
    simp only [if_true, sGet_put_same]
    simp [Option.filter, there_no]

/-- What is told where there is no room. -/
theorem did_full {pm : PM} {room : Int} {d : Dd} (hk : d.kind = 1 ∨ d.kind = 2) (he : (pDid pm room d).1.2 = 5) :
    (pDid pm room d).2 = pm ∧ room ≤ ((pLive pm d.now).length : Int) ∧ (pFind pm d.key.data.toList d.now).isSome = false ∧ (pDid pm room d).1.1 = 0 := by
  unfold pDid at he ⊢
  rcases hk with hk | hk
  · rw [if_pos hk] at he ⊢
    simp only at he ⊢
    cases h : pPutOk pm room d.key.data.toList d.now
    · obtain ⟨e1, e2, e3⟩ := put_full_same (c := (d.n, -1)) h
      exact ⟨e1, e2, by simpa using e3⟩
    · rw [h] at he
      simp at he
  · rw [if_neg (by omega), if_pos hk] at he ⊢
    simp only at he ⊢
    cases ha : addOk (pAddTo pm d.key.data.toList d.now).1 d.n
    · rw [(pAdd_over (room := room) ha).1] at he
      omega
    · cases h : pPutOk pm room d.key.data.toList d.now
      · obtain ⟨e1, e2, e3⟩ := put_full_same (c := ((pAddTo pm d.key.data.toList d.now).1 + d.n, (pAddTo pm d.key.data.toList d.now).2)) h
        obtain ⟨_, e5, e6⟩ := pAdd_full (room := room) ha h
        exact ⟨by rw [e6, e1], e2, e3, e5⟩
      · rw [(pAdd_done (room := room) ha h).1] at he
        omega
theorem did_set {pm : PM} {room : Int} {d : Dd} (hk : d.kind = 1) (he : (pDid pm room d).1.2 = 0) : (pFind (pDid pm room d).2 d.key.data.toList d.now).isSome = true := by
  unfold pDid at he ⊢
  rw [if_pos hk] at he ⊢
  simp only at he ⊢
  cases h : pPutOk pm room d.key.data.toList d.now
  · rw [h] at he
    simp at he
  · exact put_there h
end Go.Proofs.Ytkdhafndngcamaa
