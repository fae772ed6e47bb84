/-
  The law VarsOrder, walked: for every two slices of acts, every key and time it returns true.
-/
import Derived.Test.YtkdhafndngcamaaVarOrdL
import Derived.IntWalk
namespace Go.Proofs.Ytkdhafndngcamaa
open Go.RowKit Go.Maps
set_option linter.unusedVariables false

set_option maxRecDepth 100000 in
set_option maxHeartbeats 8000000 in
theorem order_walk (a0 : Option Addr) (len0 cap0 : Nat) (ds0 : Nat → Dd) (a1 : Option Addr) (len1 cap1 : Nat) (ds1 : Nat → Dd) (key : ByteArray) (now : Int) (w : World)
    (hz0 : DosIn w a0 len0 ds0) (hz1 : DosIn w a1 len1 ds1) (hk : key.size ≤ maxLen) (_hn0 : -9223372036854775808 ≤ now) (_hn1 : now ≤ 9223372036854775807) :
    Calls Try.prog 5 #[.slice a0 len0 cap0, .slice a1 len1 cap1, .string key, .int .i64 now] w fun e w' => e = .returned (.bool true) ∧ Below w.heap.size w w' := by
  have kn := known_any
  have lo0 := fun W h => long_any a0 len0 cap0 ds0 W h
  have lo1 := fun W h => long_any a1 len1 cap1 ds1 W h
  have KN := Go.Lib.hid kn
  have LO0 := Go.Lib.hid lo0
  have LO1 := Go.Lib.hid lo1
  have HZ0 := Go.Lib.hid hz0
  have HZ1 := Go.Lib.hid hz1
  have NW := Go.Lib.hid (fun W => new_any 30 W)
  have HK := Go.Lib.hid hk
  clear kn lo0 lo1 hz0 hz1 hk
  by_cases h40 : (40 : Int) < len0
  · go_enter Try.func5, Try.ntmps5
    go_wp2_with fail
    refine (KN.out _).mono ?_
    rintro e w' ⟨rfl, hb⟩
    go_wp2
    go_ret
    exact ⟨rfl, hb⟩
  · by_cases h41 : (40 : Int) < len1
    · go_enter Try.func5, Try.ntmps5
      go_wp2_with fail
      refine (KN.out _).mono ?_
      rintro e w' ⟨rfl, hb⟩
      go_wp2
      go_ret
      exact ⟨rfl, hb⟩
    · go_enter Try.func5, Try.ntmps5
      go_wp2_with fail
      refine (LO0.out _ HZ0.out).mono ?_
      rintro e w' ⟨lg0, rfl, rfl⟩
      go_wp2_with fail
      refine (LO1.out _ HZ1.out).mono ?_
      rintro e w' ⟨lg1, rfl, rfl⟩
      by_cases h900 : 900 < wrap64 (lg0 + lg1)
      · go_wp2_with fail
        refine (KN.out _).mono ?_
        rintro e w' ⟨rfl, hb⟩
        go_wp2
        go_ret
        exact ⟨rfl, hb⟩
      · by_cases h100 : (100 : Int) < key.size
        · go_wp2_with fail
          refine (KN.out _).mono ?_
          rintro e w' ⟨rfl, hb⟩
          go_wp2
          go_ret
          exact ⟨rfl, hb⟩
        · go_wp2_with fail
          refine (NW.out _).mono ?_
          rintro e w1 ⟨rfl, i1, b1⟩
          have I1 := Go.Lib.hid (And.intro i1 b1)
          clear i1 b1
          go_wp2_with fail
          refine (NW.out _).mono ?_
          rintro e w2 ⟨rfl, i2, b2⟩
          have I2 := Go.Lib.hid (And.intro i2 b2)
          clear i2 b2
          go_wp2_with fail
          refine (NW.out _).mono ?_
          rintro e w3 ⟨rfl, i3, b3⟩
          have T0 := Go.Lib.hid (Tri.new I1.out.1 I1.out.2 I2.out.1 I2.out.2 i3 b3)
          clear i3 b3
          have Rel0 : OrdRel w (w.heap.size + 1) (w1.heap.size + 1) (w2.heap.size + 1) w3 := ⟨[], [], okPM_nil, okPM_nil, T0.out⟩
          have hR := Go.Lib.hid Rel0
          generalize w.heap.size + 1 = va at hR
          generalize w1.heap.size + 1 = vb at hR
          generalize w2.heap.size + 1 = vc at hR
          clear Rel0 T0 I1 I2 h900 h100
          go_wp2_with fail
          go_loopw [12] (fun s12 wr => ∃ k : Nat, s12 = .int .i64 k ∧ k ≤ len0 + len1 ∧ Hid (OrdRel w va vb vc wr))
            (fun s12 _ => len0 + len1 - (intOf s12).toNat)
          case atStart => exact ⟨0, rfl, Nat.zero_le _, hR⟩
          case round =>
            obtain ⟨k, rfl, hk, HR⟩ := hrel
            have hk00 : (0 : Int) ≤ (k : Int) := by omega
            by_cases h1 : k < len1
            · obtain ⟨hd1, b1, off1, rfl, p0, p1, p2, p3⟩ := HZ1.out.2 k h1
              have hbl1 := World.block_lt_of_cell? w _ p0
              have PC1 := Go.Lib.hid (fun W (hb : Below w.heap.size w W) => And.intro ((hb.cell (p := ⟨b1, off1 + k * 4, none⟩) hbl1).trans p0) (And.intro ((hb.cell (p := ⟨b1, off1 + k * 4 + 1, none⟩) hbl1).trans p1) (And.intro ((hb.cell (p := ⟨b1, off1 + k * 4 + 2, none⟩) hbl1).trans p2) ((hb.cell (p := ⟨b1, off1 + k * 4 + 3, none⟩) hbl1).trans p3))))
              have hk1 : (k : Int) < (len1 : Int) := by omega
              clear p0 p1 p2 p3 hbl1
              by_cases h0 : k < len0
              · obtain ⟨hd0, b0, off0, rfl, p0, p1, p2, p3⟩ := HZ0.out.2 k h0
                have hbl0 := World.block_lt_of_cell? w _ p0
                have PC0 := Go.Lib.hid (fun W (hb : Below w.heap.size w W) => And.intro ((hb.cell (p := ⟨b0, off0 + k * 4, none⟩) hbl0).trans p0) (And.intro ((hb.cell (p := ⟨b0, off0 + k * 4 + 1, none⟩) hbl0).trans p1) (And.intro ((hb.cell (p := ⟨b0, off0 + k * 4 + 2, none⟩) hbl0).trans p2) ((hb.cell (p := ⟨b0, off0 + k * 4 + 3, none⟩) hbl0).trans p3))))
                have hk0 : (k : Int) < (len0 : Int) := by omega
                clear p0 p1 p2 p3 hbl0
                obtain ⟨y0, y1, y2, y3⟩ := PC1.out _ HR.out.bl
                go_wp2_with fail
                refine (HR.out.didB (ds1 k) hd1).mono ?_
                rintro e wb ⟨xb, yb, rfl, hb⟩
                have HB := Go.Lib.hid hb
                clear hb y0 y1 y2 y3
                obtain ⟨y0, y1, y2, y3⟩ := PC0.out _ HB.out.bl
                go_wp2_with fail
                refine (HB.out.didA (ds0 k) hd0).mono ?_
                rintro e wc ⟨xa, ya, rfl, hc⟩
                have HC := Go.Lib.hid hc
                clear hc y0 y1 y2 y3
                obtain ⟨y0, y1, y2, y3⟩ := PC0.out _ HC.out.bl
                go_wp2_with fail
                refine (HC.out.didC hd0).mono ?_
                rintro e wd ⟨rfl, hd⟩
                have HD := Go.Lib.hid hd
                clear hd y0 y1 y2 y3
                go_wp2
                go_roundw
                case rel => exact ⟨k + 1, by go_num, by omega, HD⟩
                case measure => simp [intOf]; omega
              · have hk0 : ¬ (k : Int) < (len0 : Int) := by omega
                obtain ⟨y0, y1, y2, y3⟩ := PC1.out _ HR.out.bl
                go_wp2_with fail
                refine (HR.out.didB (ds1 k) hd1).mono ?_
                rintro e wb ⟨xb, yb, rfl, hb⟩
                have HB := Go.Lib.hid hb
                clear hb y0 y1 y2 y3
                go_wp2
                go_roundw
                case rel => exact ⟨k + 1, by go_num, by omega, HB⟩
                case measure => simp [intOf]; omega
            · have hk1 : ¬ (k : Int) < (len1 : Int) := by omega
              by_cases h0 : k < len0
              · obtain ⟨hd0, b0, off0, rfl, p0, p1, p2, p3⟩ := HZ0.out.2 k h0
                have hbl0 := World.block_lt_of_cell? w _ p0
                have PC0 := Go.Lib.hid (fun W (hb : Below w.heap.size w W) => And.intro ((hb.cell (p := ⟨b0, off0 + k * 4, none⟩) hbl0).trans p0) (And.intro ((hb.cell (p := ⟨b0, off0 + k * 4 + 1, none⟩) hbl0).trans p1) (And.intro ((hb.cell (p := ⟨b0, off0 + k * 4 + 2, none⟩) hbl0).trans p2) ((hb.cell (p := ⟨b0, off0 + k * 4 + 3, none⟩) hbl0).trans p3))))
                have hk0 : (k : Int) < (len0 : Int) := by omega
                clear p0 p1 p2 p3 hbl0
                obtain ⟨y0, y1, y2, y3⟩ := PC0.out _ HR.out.bl
                go_wp2_with fail
                refine (HR.out.didA (ds0 k) hd0).mono ?_
                rintro e wc ⟨xa, ya, rfl, hc⟩
                have HC := Go.Lib.hid hc
                clear hc y0 y1 y2 y3
                obtain ⟨y0, y1, y2, y3⟩ := PC0.out _ HC.out.bl
                go_wp2_with fail
                refine (HC.out.didC hd0).mono ?_
                rintro e wd ⟨rfl, hd⟩
                have HD := Go.Lib.hid hd
                clear hd y0 y1 y2 y3
                go_wp2
                go_roundw
                case rel => exact ⟨k + 1, by go_num, by omega, HD⟩
                case measure => simp [intOf]; omega
              · have hk0 : ¬ (k : Int) < (len0 : Int) := by omega
                obtain ⟨pa, pb, oa, ob, ht⟩ := HR.out
                have hnv := ht.one
                have hrl := hnv.rise
                have NV := Go.Lib.hid hnv
                have RL := Go.Lib.hid hrl
                have hll : (pLive pa now).length ≤ 30 := by have h1 := NV.out.len now; omega
                have KL := Go.Lib.hid hll
                clear ht hnv hrl oa ob HR hll
                go_wp2_with fail
                refine (nv_keys now NV.out).mono ?_
                rintro e wk ⟨A, cc, rfl, hrd, hnk⟩
                have K0 := Go.Lib.hid (show KeyRel w va pa now A wk from ⟨hnk, hrd⟩)
                clear hrd hnk
                obtain ⟨L, HL⟩ : ∃ L : List Key, Hid (L = pLive pa now) := ⟨_, rfl⟩
                have KL := Go.Lib.hid (show L.length ≤ 30 by rw [HL.out]; exact KL.out)
                rw [← HL.out]
                go_wp2_with fail
                go_loopw [18, 19] (fun s18 s19 wr => ∃ i : Nat, s18 = .bool (seenK L key.data.toList i) ∧ s19 = .int .i64 i ∧ i ≤ L.length ∧ Hid (KeyRel w va pa now A wr))
                  (fun _ s19 _ => L.length - (intOf s19).toNat)
                case atStart => exact ⟨0, by rw [seen_zero], rfl, Nat.zero_le _, K0⟩
                case round =>
                  obtain ⟨i, rfl, rfl, hi, KR⟩ := hrel
                  by_cases hlt : i < L.length
                  · have hi0 : (0 : Int) ≤ (i : Int) := by omega
                    have hi1 : (i : Int) < (L.length : Int) := by omega
                    have hget := KR.out.get (i := i) (by rw [← HL.out]; exact hlt)
                    have hat := KR.out.at_ (i := i) (by rw [← HL.out]; exact hlt)
                    rw [← HL.out] at hget hat
                    change Calls _ _ #[_, .string (keyAt L i), _] _ _ at hget
                    obtain ⟨g, hA, hc⟩ := hat
                    have hci : wr.cell? ⟨g, i, none⟩ = some (.string (keyAt L i)) := hc i hlt
                    have HG := Go.Lib.hid hget
                    clear hget hc
                    subst hA
                    go_wp2_with fail
                    refine (HG.out).mono ?_
                    rintro e w2 ⟨⟨n, rfl⟩, hk2⟩
                    have K2 := Go.Lib.hid hk2
                    have hat := hk2.at_ (i := i) (by rw [← HL.out]; exact hlt)
                    rw [← HL.out] at hat
                    obtain ⟨g', hA, hc⟩ := hat
                    have hgg : g' = g := by injection hA with hA; injection hA with hA; exact hA.symm
                    subst hgg
                    have hci2 : w2.cell? ⟨g', i, none⟩ = some (.string (keyAt L i)) := hc i hlt
                    have HC := Go.Lib.hid hc
                    clear hk2 hc HG hci hA
                    cases i with
                    | zero =>
                      have hg0 : decide ((0 : Int) < ((0 : Nat) : Int)) = false := by simp
                      go_wp2_with fail
                      go_quiet (fail)
                      trace "q0"
                      cases hsn : seenK L key.data.toList 0
                      · cases heq : (keyAt L 0).toList == key.toList
                        · have hr := (seen_miss hlt heq).trans hsn
                          have HR1 := Go.Lib.hid hr
                          clear hr hsn
                          go_wp2
                          go_roundw
                          case rel => exact ⟨0 + 1, by rw [HR1.out], by go_num, by omega, K2.out.later (K2.out.1.drewN nq) (bl_drewN (bl_refl _) nq)⟩
                          case measure => simp [intOf]; omega
                        · have hr := seen_hit hlt heq
                          have HR1 := Go.Lib.hid hr
                          clear hr hsn
                          go_wp2
                          go_roundw
                          case rel => exact ⟨0 + 1, by rw [HR1.out], by go_num, by omega, K2.out.later (K2.out.1.drewN nq) (bl_drewN (bl_refl _) nq)⟩
                          case measure => simp [intOf]; omega
                      · have hr := seen_stays hlt hsn
                        have HR1 := Go.Lib.hid hr
                        clear hr hsn
                        go_wp2
                        go_roundw
                        case rel => exact ⟨0 + 1, by rw [HR1.out], by go_num, by omega, K2.out.later (K2.out.1.drewN nq) (bl_drewN (bl_refl _) nq)⟩
                        case measure => simp [intOf]; omega
                    | succ j =>
                      have hcj : w2.cell? ⟨g', j, none⟩ = some (.string (keyAt L j)) := HC.out j (by omega)
                      have hj0 : (0 : Int) < (j : Int) + 1 := by omega
                      have hj1 : (0 : Int) ≤ (j : Int) := by omega
                      have hj2 : (j : Int) < (L.length : Int) := by omega
                      have hless : (Op.bytesLess (keyAt L (j + 1)).toList (keyAt L j).toList || (keyAt L (j + 1)).toList == (keyAt L j).toList) = false := by
                        have := live_less RL.out.1 now (j := j) (by rw [← HL.out]; exact hlt)
                        rw [← HL.out] at this
                        exact this
                      have hs0 : (0 : Int) ≤ (j : Int) + 1 := by omega
                      have hs1 : (j : Int) + 1 < (L.length : Int) := by omega
                      have hjb : (j : Int) ≤ 9223372036854775806 := by have := KL.out; omega
                      have hjb2 : (j : Int) + 1 + 1 ≤ 9223372036854775807 := by have := KL.out; omega
                      have hwc : IntKind.i64.wrap ((j : Int) + 1 + 1) = (j : Int) + 1 + 1 := IntWalk.i64_in _ (by omega)
                      have hwa : IntKind.i64.wrap (j : Int) = (j : Int) := IntWalk.i64_in _ (by omega)
                      have hwb : IntKind.i64.wrap ((j : Int) + 1 - 1) = (j : Int) := by rw [show (j : Int) + 1 - 1 = (j : Int) by omega]; exact hwa
                      have ht1 : ((j : Int) + 1).toNat = j + 1 := by omega
                      go_wp2_with fail
                      go_quiet (fail)
                      trace "q1"
                      cases hsn : seenK L key.data.toList (j + 1)
                      · cases heq : (keyAt L (j + 1)).toList == key.toList
                        · have hr := (seen_miss hlt heq).trans hsn
                          have HR1 := Go.Lib.hid hr
                          clear hr hsn
                          go_wp2
                          go_roundw
                          case rel => exact ⟨(j + 1) + 1, by rw [HR1.out], by go_num, by omega, K2.out.later (K2.out.1.drewN nq) (bl_drewN (bl_refl _) nq)⟩
                          case measure => simp [intOf]; omega
                        · have hr := seen_hit hlt heq
                          have HR1 := Go.Lib.hid hr
                          clear hr hsn
                          go_wp2
                          go_roundw
                          case rel => exact ⟨(j + 1) + 1, by rw [HR1.out], by go_num, by omega, K2.out.later (K2.out.1.drewN nq) (bl_drewN (bl_refl _) nq)⟩
                          case measure => simp [intOf]; omega
                      · have hr := seen_stays hlt hsn
                        have HR1 := Go.Lib.hid hr
                        clear hr hsn
                        go_wp2
                        go_roundw
                        case rel => exact ⟨(j + 1) + 1, by rw [HR1.out], by go_num, by omega, K2.out.later (K2.out.1.drewN nq) (bl_drewN (bl_refl _) nq)⟩
                        case measure => simp [intOf]; omega
                  · obtain rfl : i = L.length := by omega
                    have hi1 : ¬ (L.length : Int) < (L.length : Int) := by omega
                    have hsn := seen_all RL.out.1 key.data.toList now
                    rw [← HL.out] at hsn
                    rw [hsn]
                    have hg := nv_get key HK.out now KR.out.1
                    generalize (pFind pa key.data.toList now).isSome = I at hg
                    have HG := Go.Lib.hid hg
                    have hl := fun W (h : NewVars w W va 30 pa) => nv_len now h
                    rw [← HL.out] at hl
                    have HLEN := Go.Lib.hid hl
                    clear hg hl hsn
                    go_wp2_with fail
                    refine (HG.out).mono ?_
                    rintro e w3 ⟨rfl, h3⟩
                    have H3 := Go.Lib.hid h3
                    clear h3
                    go_wp2_with fail
                    refine (HLEN.out _ H3.out).mono ?_
                    rintro e w4 ⟨rfl, h4⟩
                    have H4 := Go.Lib.hid h4
                    clear h4
                    go_wp2_with fail
                    refine (KN.out _).mono ?_
                    rintro e w5 ⟨rfl, h5⟩
                    have H5 := Go.Lib.hid h5
                    clear h5
                    go_wp2
                    go_ret
                    exact ⟨rfl, bl_then H4.out.bl H5.out⟩
end Go.Proofs.Ytkdhafndngcamaa
