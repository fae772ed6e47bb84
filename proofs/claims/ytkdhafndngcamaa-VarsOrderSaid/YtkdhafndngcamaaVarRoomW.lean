/-
  The law VarsRoom, walked: for every room and every slice of acts it returns true.
-/
import Derived.Test.YtkdhafndngcamaaVarRoom
namespace Go.Proofs.Ytkdhafndngcamaa
open Go.RowKit Go.Maps
set_option linter.unusedVariables false

theorem nv_did {w0 w : World} {v : Nat} {room : Int} {pm : PM} (d : Dd) (hd : d.ok) (hok : okPM pm) (h : NewVars w0 w v room pm) :
    Calls Try.prog 15 #[.pointer (some ⟨v, 0, none⟩), d.val] w fun e w' => e = .returned (.tuple #[.int .i64 (pDid pm room d).1.1, .int .i64 (pDid pm room d).1.2]) ∧ NewVars w0 w' v room (pDid pm room d).2 := by
  obtain ⟨F, h1, h2⟩ := h.is
  exact (did_any d hd hok w h1).mono fun _ _ ⟨he, ht⟩ => ⟨he, h.step h2 ht⟩
theorem NewVars.len {w0 w : World} {v : Nat} {room : Int} {pm : PM} (h : NewVars w0 w v room pm) (now : Int) : ¬ room < ((pLive pm now).length : Int) := by
  obtain ⟨F, h1, _⟩ := h.is
  have := h1.len
  have := pLive_len pm now
  omega
/-- What did hands on, at a Vars of which only this is known. -/
theorem nv_did_len {w0 w : World} {v : Nat} {room : Int} {pm : PM} (d : Dd) (hd : d.ok) (hok : okPM pm) (h : NewVars w0 w v room pm) :
    Calls Try.prog 15 #[.pointer (some ⟨v, 0, none⟩), d.val] w fun e w' => e = .returned (.tuple #[.int .i64 (pDid pm room d).1.1, .int .i64 (pDid pm room d).1.2]) ∧ NewVars w0 w' v room (pDid pm room d).2 := nv_did d hd hok h
theorem bad_len {w0 : World} {v : Nat} {room : Int} {pm : PM} {now : Int} (hb : room < ((pLive pm now).length : Int)) (w : World) (h : NewVars w0 w v room pm) : False := h.len now hb

set_option maxRecDepth 100000 in
set_option maxHeartbeats 8000000 in
theorem room_walk (room : Int) (a : Option Addr) (len cap : Nat) (ds : Nat → Dd) (w : World) (hr0 : 0 ≤ room) (hr1 : room ≤ 255) (hz : DosIn w a len ds) :
    Calls Try.prog 4 #[.int .u8 room, .slice a len cap] w fun e w' => e = .returned (.bool true) ∧ Below w.heap.size w w' := by
  have kn := known_any
  have lo := fun W h => long_any a len cap ds W h
  have n0 := nv_new (w0 := w) room (bl_refl w)
  rw [show clipR room = room by unfold clipR; omega] at n0
  have n1 := fun (pm : PM) W v (now : Int) (h : NewVars w W v room pm) => nv_keys now h
  have n2 := fun (pm : PM) W v (now : Int) (h : NewVars w W v room pm) => nv_len now h
  have KN := Go.Lib.hid kn
  have LO := Go.Lib.hid lo
  have N0 := Go.Lib.hid n0
  have N1 := Go.Lib.hid n1
  have N2 := Go.Lib.hid n2
  have HZ := Go.Lib.hid hz
  clear kn lo n0 n1 n2 hz
  by_cases h50 : (50 : Int) < len
  · go_enter Try.func4, Try.ntmps4
    go_wp2_with fail
    refine (KN.out _).mono ?_
    rintro e w' ⟨rfl, hb⟩
    go_wp2
    go_ret
    exact ⟨rfl, hb⟩
  · go_enter Try.func4, Try.ntmps4
    go_wp2_with fail
    refine (LO.out _ HZ.out).mono ?_
    rintro e w' ⟨lg, rfl, rfl⟩
    by_cases h800 : 800 < lg
    · go_wp2_with fail
      refine (KN.out _).mono ?_
      rintro e w' ⟨rfl, hb⟩
      go_wp2
      go_ret
      exact ⟨rfl, hb⟩
    · go_wp2_with fail
      refine (N0.out).mono ?_
      rintro e w1 ⟨v, rfl, h1⟩
      have H1 := Go.Lib.hid h1
      clear h1
      go_wp2_with fail
      go_loopw [6] (fun s6 wr => ∃ (pm : PM) (k : Nat), s6 = .int .i64 k ∧ k ≤ len ∧ okPM pm ∧ Hid (NewVars w wr v room pm))
        (fun s6 _ => len - (intOf s6).toNat)
      case atStart => exact ⟨[], 0, rfl, Nat.zero_le _, (fun x hx => by cases hx), H1⟩
      case round =>
        obtain ⟨pm, k, rfl, hk, OK, H⟩ := hrel
        by_cases hlt : k < len
        · obtain ⟨hd, b, off, rfl, e0, e1, e2, e3⟩ := HZ.out.2 k hlt
          have hbl := World.block_lt_of_cell? w _ e0
          have t0 := fun W (hb : Below w.heap.size w W) => (hb.cell (p := ⟨b, off + k * 4, none⟩) hbl).trans e0
          have t1 := fun W (hb : Below w.heap.size w W) => (hb.cell (p := ⟨b, off + k * 4 + 1, none⟩) hbl).trans e1
          have t2 := fun W (hb : Below w.heap.size w W) => (hb.cell (p := ⟨b, off + k * 4 + 2, none⟩) hbl).trans e2
          have t3 := fun W (hb : Below w.heap.size w W) => (hb.cell (p := ⟨b, off + k * 4 + 3, none⟩) hbl).trans e3
          have T0 := Go.Lib.hid t0
          have T1 := Go.Lib.hid t1
          have T2 := Go.Lib.hid t2
          have T3 := Go.Lib.hid t3
          have OK2 := OK.did room hd
          have did := fun W (h : NewVars w W v room pm) => nv_did (ds k) hd OK h
          have keys2 := fun W (h : NewVars w W v room (pDid pm room (ds k)).2) => nv_keys (ds k).now h
          have get2 := fun W (h : NewVars w W v room (pDid pm room (ds k)).2) => nv_get (ds k).key hd.1 (ds k).now h
          have hN := H.out.len (ds k).now
          have hF := @did_full pm room (ds k)
          have hS := @did_set pm room (ds k)
          clear e0 e1 e2 e3 t0 t1 t2 t3 hbl
          generalize ds k = d at T0 T1 T2 T3 did keys2 get2 hN hF hS hd OK2
          obtain ⟨kind, s, nn, now⟩ := d
          dsimp only [Dd.val] at T0 T1 T2 T3 did keys2 get2 hN hF hS
          generalize pDid pm room ⟨kind, s, nn, now⟩ = r at did keys2 get2 hF hS OK2
          obtain ⟨⟨A, E⟩, pm'⟩ := r
          dsimp only at did keys2 get2 hF hS OK2
          have x3 := T3.out _ H.out.bl
          have hk0 : (0 : Int) ≤ (k : Int) := by omega
          have hk1 : (k : Int) < (len : Int) := by omega
          clear OK hd
          by_cases k1 : kind = 1
          · subst k1
            by_cases e5 : E = 5
            · subst e5
              obtain ⟨q1, q2, q3, q4⟩ := hF (.inl rfl) rfl
              subst q1 q4
              rw [q3] at get2
              have q5 : ¬ ((pLive pm' now).length : Int) < room := by omega
              have DID := Go.Lib.hid did
              have KEYS2 := Go.Lib.hid keys2
              have GET2 := Go.Lib.hid get2
              clear did keys2 get2 hF hS q2 q3
              go_wp2_with fail
              refine (N1.out _ _ _ _ H.out).mono ?_
              rintro e w2 ⟨A1, cc1, rfl, _, h2⟩
              have H2 := Go.Lib.hid h2
              clear h2
              go_wp2_with fail
              refine (N2.out _ _ _ _ H2.out).mono ?_
              rintro e w3 ⟨rfl, h3⟩
              have H3 := Go.Lib.hid h3
              have y0 := T0.out _ h3.bl
              have y1 := T1.out _ h3.bl
              have y2 := T2.out _ h3.bl
              have y3 := T3.out _ h3.bl
              clear h3
              go_wp2_with fail
              refine (DID.out _ H3.out).mono ?_
              rintro e w4 ⟨rfl, h4⟩
              have H4 := Go.Lib.hid h4
              clear h4 y0 y1 y2 y3
              go_wp2_with fail
              refine (KEYS2.out _ H4.out).mono ?_
              rintro e w5 ⟨A2, cc2, rfl, _, h5⟩
              have H5 := Go.Lib.hid h5
              have y1 := T1.out _ h5.bl
              have hK := h5.len now
              clear h5
              go_wp2_with fail
              refine (GET2.out _ H5.out).mono ?_
              rintro e w6 ⟨rfl, h6⟩
              have H6 := Go.Lib.hid h6
              have y0 := T0.out _ h6.bl
              clear h6
              go_wp2
              go_roundw
              case rel => exact ⟨_, k + 1, by go_num, by omega, OK2, H6⟩
              case measure => simp [intOf]; omega
            · have b5 : (E == 5) = false := by simpa using e5
              by_cases e0 : E = 0
              · subst e0
                rw [hS rfl rfl] at get2
                have DID := Go.Lib.hid did
                have KEYS2 := Go.Lib.hid keys2
                have GET2 := Go.Lib.hid get2
                clear did keys2 get2 hF hS e5 b5
                go_wp2_with fail
                refine (N1.out _ _ _ _ H.out).mono ?_
                rintro e w2 ⟨A1, cc1, rfl, _, h2⟩
                have H2 := Go.Lib.hid h2
                clear h2
                go_wp2_with fail
                refine (N2.out _ _ _ _ H2.out).mono ?_
                rintro e w3 ⟨rfl, h3⟩
                have H3 := Go.Lib.hid h3
                have y0 := T0.out _ h3.bl
                have y1 := T1.out _ h3.bl
                have y2 := T2.out _ h3.bl
                have y3 := T3.out _ h3.bl
                clear h3
                go_wp2_with fail
                refine (DID.out _ H3.out).mono ?_
                rintro e w4 ⟨rfl, h4⟩
                have H4 := Go.Lib.hid h4
                clear h4 y0 y1 y2 y3
                go_wp2_with fail
                refine (KEYS2.out _ H4.out).mono ?_
                rintro e w5 ⟨A2, cc2, rfl, _, h5⟩
                have H5 := Go.Lib.hid h5
                have y1 := T1.out _ h5.bl
                have hK := h5.len now
                clear h5
                go_wp2_with fail
                refine (GET2.out _ H5.out).mono ?_
                rintro e w6 ⟨rfl, h6⟩
                have H6 := Go.Lib.hid h6
                have y0 := T0.out _ h6.bl
                clear h6
                go_wp2
                go_roundw
                case rel => exact ⟨_, k + 1, by go_num, by omega, OK2, H6⟩
                case measure => simp [intOf]; omega
              · have b0 : (E == 0) = false := by simpa using e0
                generalize (pFind pm' s.data.toList now).isSome = I at get2
                have DID := Go.Lib.hid did
                have KEYS2 := Go.Lib.hid keys2
                have GET2 := Go.Lib.hid get2
                clear did keys2 get2 hF hS e5 e0
                go_wp2_with fail
                refine (N1.out _ _ _ _ H.out).mono ?_
                rintro e w2 ⟨A1, cc1, rfl, _, h2⟩
                have H2 := Go.Lib.hid h2
                clear h2
                go_wp2_with fail
                refine (N2.out _ _ _ _ H2.out).mono ?_
                rintro e w3 ⟨rfl, h3⟩
                have H3 := Go.Lib.hid h3
                have y0 := T0.out _ h3.bl
                have y1 := T1.out _ h3.bl
                have y2 := T2.out _ h3.bl
                have y3 := T3.out _ h3.bl
                clear h3
                go_wp2_with fail
                refine (DID.out _ H3.out).mono ?_
                rintro e w4 ⟨rfl, h4⟩
                have H4 := Go.Lib.hid h4
                clear h4 y0 y1 y2 y3
                go_wp2_with fail
                refine (KEYS2.out _ H4.out).mono ?_
                rintro e w5 ⟨A2, cc2, rfl, _, h5⟩
                have H5 := Go.Lib.hid h5
                have y1 := T1.out _ h5.bl
                have hK := h5.len now
                clear h5
                go_wp2_with fail
                refine (GET2.out _ H5.out).mono ?_
                rintro e w6 ⟨rfl, h6⟩
                have H6 := Go.Lib.hid h6
                have y0 := T0.out _ h6.bl
                clear h6
                go_wp2
                go_roundw
                case rel => exact ⟨_, k + 1, by go_num, by omega, OK2, H6⟩
                case measure => simp [intOf]; omega
          · by_cases k2 : kind = 2
            · subst k2
              by_cases e5 : E = 5
              · subst e5
                obtain ⟨q1, q2, q3, q4⟩ := hF (.inr rfl) rfl
                subst q1 q4
                rw [q3] at get2
                have q5 : ¬ ((pLive pm' now).length : Int) < room := by omega
                have DID := Go.Lib.hid did
                have KEYS2 := Go.Lib.hid keys2
                have GET2 := Go.Lib.hid get2
                clear did keys2 get2 hF hS q2 q3 k1
                go_wp2_with fail
                refine (N1.out _ _ _ _ H.out).mono ?_
                rintro e w2 ⟨A1, cc1, rfl, _, h2⟩
                have H2 := Go.Lib.hid h2
                clear h2
                go_wp2_with fail
                refine (N2.out _ _ _ _ H2.out).mono ?_
                rintro e w3 ⟨rfl, h3⟩
                have H3 := Go.Lib.hid h3
                have y0 := T0.out _ h3.bl
                have y1 := T1.out _ h3.bl
                have y2 := T2.out _ h3.bl
                have y3 := T3.out _ h3.bl
                clear h3
                go_wp2_with fail
                refine (DID.out _ H3.out).mono ?_
                rintro e w4 ⟨rfl, h4⟩
                have H4 := Go.Lib.hid h4
                clear h4 y0 y1 y2 y3
                go_wp2_with fail
                refine (KEYS2.out _ H4.out).mono ?_
                rintro e w5 ⟨A2, cc2, rfl, _, h5⟩
                have H5 := Go.Lib.hid h5
                have y1 := T1.out _ h5.bl
                have hK := h5.len now
                clear h5
                go_wp2_with fail
                refine (GET2.out _ H5.out).mono ?_
                rintro e w6 ⟨rfl, h6⟩
                have H6 := Go.Lib.hid h6
                have y0 := T0.out _ h6.bl
                clear h6
                go_wp2
                go_roundw
                case rel => exact ⟨_, k + 1, by go_num, by omega, OK2, H6⟩
                case measure => simp [intOf]; omega
              · have b5 : (E == 5) = false := by simpa using e5
                generalize (pFind pm' s.data.toList now).isSome = I at get2
                have DID := Go.Lib.hid did
                have KEYS2 := Go.Lib.hid keys2
                have GET2 := Go.Lib.hid get2
                clear did keys2 get2 hF hS e5 k1
                go_wp2_with fail
                refine (N1.out _ _ _ _ H.out).mono ?_
                rintro e w2 ⟨A1, cc1, rfl, _, h2⟩
                have H2 := Go.Lib.hid h2
                clear h2
                go_wp2_with fail
                refine (N2.out _ _ _ _ H2.out).mono ?_
                rintro e w3 ⟨rfl, h3⟩
                have H3 := Go.Lib.hid h3
                have y0 := T0.out _ h3.bl
                have y1 := T1.out _ h3.bl
                have y2 := T2.out _ h3.bl
                have y3 := T3.out _ h3.bl
                clear h3
                go_wp2_with fail
                refine (DID.out _ H3.out).mono ?_
                rintro e w4 ⟨rfl, h4⟩
                have H4 := Go.Lib.hid h4
                clear h4 y0 y1 y2 y3
                go_wp2_with fail
                refine (KEYS2.out _ H4.out).mono ?_
                rintro e w5 ⟨A2, cc2, rfl, _, h5⟩
                have H5 := Go.Lib.hid h5
                have y1 := T1.out _ h5.bl
                have hK := h5.len now
                clear h5
                go_wp2_with fail
                refine (GET2.out _ H5.out).mono ?_
                rintro e w6 ⟨rfl, h6⟩
                have H6 := Go.Lib.hid h6
                have y0 := T0.out _ h6.bl
                clear h6
                go_wp2
                go_roundw
                case rel => exact ⟨_, k + 1, by go_num, by omega, OK2, H6⟩
                case measure => simp [intOf]; omega
            · have b1 : (kind == 1) = false := by simpa using k1
              have b2 : (kind == 2) = false := by simpa using k2
              generalize (pFind pm' s.data.toList now).isSome = I at get2
              have DID := Go.Lib.hid did
              have KEYS2 := Go.Lib.hid keys2
              have GET2 := Go.Lib.hid get2
              clear did keys2 get2 hF hS k1 k2
              go_wp2_with fail
              refine (N1.out _ _ _ _ H.out).mono ?_
              rintro e w2 ⟨A1, cc1, rfl, _, h2⟩
              have H2 := Go.Lib.hid h2
              clear h2
              go_wp2_with fail
              refine (N2.out _ _ _ _ H2.out).mono ?_
              rintro e w3 ⟨rfl, h3⟩
              have H3 := Go.Lib.hid h3
              have y0 := T0.out _ h3.bl
              have y1 := T1.out _ h3.bl
              have y2 := T2.out _ h3.bl
              have y3 := T3.out _ h3.bl
              clear h3
              go_wp2_with fail
              refine (DID.out _ H3.out).mono ?_
              rintro e w4 ⟨rfl, h4⟩
              have H4 := Go.Lib.hid h4
              clear h4 y0 y1 y2 y3
              go_wp2_with fail
              refine (KEYS2.out _ H4.out).mono ?_
              rintro e w5 ⟨A2, cc2, rfl, _, h5⟩
              have H5 := Go.Lib.hid h5
              have y1 := T1.out _ h5.bl
              have hK := h5.len now
              clear h5
              go_wp2_with fail
              refine (GET2.out _ H5.out).mono ?_
              rintro e w6 ⟨rfl, h6⟩
              have H6 := Go.Lib.hid h6
              have y0 := T0.out _ h6.bl
              clear h6
              go_wp2
              go_roundw
              case rel => exact ⟨_, k + 1, by go_num, by omega, OK2, H6⟩
              case measure => simp [intOf]; omega
        · obtain rfl : k = len := by omega
          have hk1 : ¬ (k : Int) < (k : Int) := by omega
          go_wp2_with fail
          refine (KN.out _).mono ?_
          rintro e w3 ⟨rfl, h3⟩
          have H3 := Go.Lib.hid h3
          clear h3
          go_wp2
          go_ret
          exact ⟨rfl, bl_then H.out.bl H3.out⟩
end Go.Proofs.Ytkdhafndngcamaa
