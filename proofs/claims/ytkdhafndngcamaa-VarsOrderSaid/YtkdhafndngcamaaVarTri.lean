/-
  Three Vars that know nothing of one another; the keys that are told rise, and are there.
-/
import Derived.Test.YtkdhafndngcamaaVarRoomW
namespace Go.Proofs.Ytkdhafndngcamaa
open Go.RowKit Go.Maps
set_option linter.unusedVariables false

/-- Three Vars of one room, apart, all new since w0. -/
def Tri (w0 W : World) (room : Int) (a b c : Nat) (pa pb pc : PM) : Prop :=
  ∃ F G H : Nat → Prop, IsVars W F a room pa ∧ IsVars W G b room pb ∧ IsVars W H c room pc ∧ (∀ i, (F i ∨ G i ∨ H i) → w0.heap.size ≤ i ∧ i < W.heap.size) ∧
    (∀ i, F i → ¬ G i) ∧ (∀ i, F i → ¬ H i) ∧ (∀ i, G i → ¬ H i) ∧ Below w0.heap.size w0 W

section
variable {w0 w w' : World} {room : Int} {a b c : Nat} {pa pb pc pm' : PM}
theorem Tri.turn (h : Tri w0 w room a b c pa pb pc) : Tri w0 w room b c a pb pc pa := by
  obtain ⟨F, G, H, h1, h2, h3, h4, h5, h6, h7, h8⟩ := h
  exact ⟨G, H, F, h2, h3, h1, fun i hi => h4 i (by rcases hi with h | h | h <;> simp [h]), h7, fun i hg hf => h5 i hf hg, fun i hh hf => h6 i hf hh, h8⟩
theorem Tri.bl (h : Tri w0 w room a b c pa pb pc) : Below w0.heap.size w0 w := by
  obtain ⟨F, G, H, _, _, _, _, _, _, _, h8⟩ := h
  exact h8
theorem Tri.later (h : Tri w0 w room a b c pa pb pc) (hb : Below w.heap.size w w') : Tri w0 w' room a b c pa pb pc := by
  obtain ⟨F, G, H, h1, h2, h3, h4, h5, h6, h7, h8⟩ := h
  exact ⟨F, G, H, h1.below hb, h2.below hb, h3.below hb, fun i hi => ⟨(h4 i hi).1, Nat.lt_of_lt_of_le (h4 i hi).2 hb.size⟩, h5, h6, h7, bl_then h8 hb⟩
theorem Tri.one (h : Tri w0 w room a b c pa pb pc) : NewVars w0 w a room pa := by
  obtain ⟨F, G, H, h1, h2, h3, h4, h5, h6, h7, h8⟩ := h
  exact ⟨F, h1, fun i hi => (h4 i (.inl hi)).1, h8⟩
theorem Tri.did (d : Dd) (hd : d.ok) (hok : okPM pa) (h : Tri w0 w room a b c pa pb pc) :
    Calls Try.prog 15 #[.pointer (some ⟨a, 0, none⟩), d.val] w fun e w' => e = .returned (.tuple #[.int .i64 (pDid pa room d).1.1, .int .i64 (pDid pa room d).1.2]) ∧ Tri w0 w' room a b c (pDid pa room d).2 pb pc := by
  obtain ⟨F, G, H, h1, h2, h3, h4, h5, h6, h7, h8⟩ := h
  refine (did_any d hd hok w h1).mono fun e w' ⟨he, F', k1, k2, k3⟩ => ⟨he, F', G, H, k1, ?_, ?_, ?_, ?_, ?_, h7, h8.trans (k3.below h8.size fun i hi => (h4 i (.inl hi)).1)⟩
  · exact h2.frame fun i hi hlt => k3.block i hlt (fun hf => h5 i hf hi)
  · exact h3.frame fun i hi hlt => k3.block i hlt (fun hf => h6 i hf hi)
  · rintro i (hi | hi | hi)
    · rcases k2 i hi with hi | ⟨hi, hi2⟩
      · exact ⟨(h4 i (.inl hi)).1, Nat.lt_of_lt_of_le (h4 i (.inl hi)).2 k3.size⟩
      · exact ⟨Nat.le_trans h8.size hi, hi2⟩
    · exact ⟨(h4 i (.inr (.inl hi))).1, Nat.lt_of_lt_of_le (h4 i (.inr (.inl hi))).2 k3.size⟩
    · exact ⟨(h4 i (.inr (.inr hi))).1, Nat.lt_of_lt_of_le (h4 i (.inr (.inr hi))).2 k3.size⟩
  · intro i hi hg
    rcases k2 i hi with hi | ⟨hi, _⟩
    · exact h5 i hi hg
    · have := (h4 i (.inr (.inl hg))).2
      omega
  · intro i hi hg
    rcases k2 i hi with hi | ⟨hi, _⟩
    · exact h6 i hi hg
    · have := (h4 i (.inr (.inr hg))).2
      omega
end
theorem Tri.new {w0 w1 w2 w3 : World} {room : Int} {a b c : Nat} (h1 : IsVars w1 (fun i => w0.heap.size ≤ i ∧ i < w1.heap.size) a room []) (b1 : Below w0.heap.size w0 w1)
    (h2 : IsVars w2 (fun i => w1.heap.size ≤ i ∧ i < w2.heap.size) b room []) (b2 : Below w1.heap.size w1 w2) (h3 : IsVars w3 (fun i => w2.heap.size ≤ i ∧ i < w3.heap.size) c room []) (b3 : Below w2.heap.size w2 w3) : Tri w0 w3 room a b c [] [] [] := by
  have s1 := b1.size
  have s2 := b2.size
  have s3 := b3.size
  refine ⟨_, _, _, h1.below (bl_then b2 b3), h2.below b3, h3, ?_, ?_, ?_, ?_, bl_then (bl_then b1 b2) b3⟩
  · rintro i (h | h | h) <;> omega
  · intro i h h'; omega
  · intro i h h'; omega
  · intro i h h'; omega

/-! ### The keys that are told -/
theorem NewVars.rise {w0 w : World} {v : Nat} {room : Int} {pm : PM} (h : NewVars w0 w v room pm) : Rising pm ∧ ∀ x ∈ pm, x.1.length ≤ maxLen := by
  obtain ⟨F, ⟨mb, m, h1, rfl, _⟩, _⟩ := h.is
  refine ⟨(own_rise h1.own Try.underlying9).mapV vne, fun x hx => ?_⟩
  obtain ⟨y, hy, rfl⟩ := mapV_mem.1 hx
  exact own_keys h1.own Try.underlying9 y hy
theorem live_iff {pm : PM} (hn : (pm.map (·.1)).Nodup) (k : Key) (now : Int) : k ∈ pLive pm now ↔ (pFind pm k now).isSome = true := by
  unfold pLive pFind
  rw [List.mem_map]
  constructor
  · rintro ⟨x, hx, rfl⟩
    obtain ⟨h1, h2⟩ := List.mem_filter.1 hx
    rw [sGet_of_mem hn (k := x.1) (v := x.2) h1]
    simp [Option.filter, h2]
  · intro h
    cases hg : sGet k pm with
    | none => rw [hg] at h; cases h
    | some c =>
      rw [hg] at h
      refine ⟨(k, c), List.mem_filter.2 ⟨sGet_mem hg, ?_⟩, rfl⟩
      cases ht : thereB now c.2
      · simp [Option.filter, ht] at h
      · rfl
theorem live_rise {pm : PM} (hr : Rising pm) (now : Int) : (pLive pm now).Pairwise fun p q => bytesBefore p q = true := List.pairwise_map.2 (List.Pairwise.filter _ hr)
theorem less_of_before : ∀ {a b : Key}, bytesBefore a b = true → (Op.bytesLess b a || b == a) = false
  | [], [], h => by simp [bytesBefore] at h
  | [], y :: s, _ => by simp [Op.bytesLess]
  | x :: r, [], h => by simp [bytesBefore] at h
  | x :: r, y :: s, h => by
    simp only [bytesBefore, Bool.or_eq_true, Bool.and_eq_true, decide_eq_true_eq, beq_iff_eq] at h
    rcases h with h | ⟨rfl, h⟩
    · have h1 : ¬ y < x := by rw [UInt8.lt_iff_toNat_lt] at *; omega
      have h2 : y ≠ x := fun e => by subst e; rw [UInt8.lt_iff_toNat_lt] at h; omega
      simp [Op.bytesLess, h1, h2]
    · have := less_of_before h
      have h1 : ¬ x < x := by rw [UInt8.lt_iff_toNat_lt]; omega
      rw [Bool.or_eq_false_iff] at this
      have h3 : s ≠ r := by simpa using this.2
      simp [Op.bytesLess, h1, this.1, h3]
end Go.Proofs.Ytkdhafndngcamaa
