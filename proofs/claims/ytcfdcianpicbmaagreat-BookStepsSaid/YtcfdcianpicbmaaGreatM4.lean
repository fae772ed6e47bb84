/-
  What tapsterref12.Lay answers where it lays.
  What tapsterref12.Lay and Step answer.
  The library's functions that this program calls are the ones of which the kit has contracts: number by number, at this translation. Written by the kit's own tool.
  What a book's Names answers: the names, rising, in new memory.
  No condition.
-/
import Derived.Test.YtcfdcianpicbmaaGreatM2
import Derived.Test.YtcfdcianpicbmaaGreatM3
import Derived.Shelf.SlIter.Nil
import Derived.Shelf.SortM.Plain
import Derived.Shelf.SortM.SortNone
import Derived.Test.YtcfdcianpicbmaaGreatProg
import Derived.Lib.SliceRun
namespace Go.Proofs.YtcfdcianpicbmaaGreat
open Go.RowKit Go.Maps
set_option linter.unusedVariables false
set_option linter.unusedSimpArgs false

set_option maxHeartbeats 8000000 in
set_option maxRecDepth 100000 in
theorem rlay_new (a : Option Addr) (n c : Nat) (l : List (Key × EV)) (V : Int) (s : ByteArray) (p : Pol) (w : World) (h : EsAt w a n c l) (hn : n ≤ 900) (hs : s.size ≤ maxLen) (hb : nameR s = true) (hc : chkP p = 0) (hV : 0 ≤ V ∧ V ≤ 1000000) (hi : bIs (l, V) s.data.toList = true ∧ ¬ (bGet (l, V) s.data.toList).1 = p ∨ bIs (l, V) s.data.toList = false ∧ ¬ 100 ≤ n) : Calls Tryz.prog 37 #[.agg #[.slice a n c, .int .i64 V], .string s, .agg #[.int .i64 p.kind, .int .i64 p.limit, .int .i64 p.period, .int .i64 p.burst, .int .i64 p.cap, .bool p.opn]] w (fun e w' => ∃ a' n' c', e = .returned (.tuple #[.agg #[.slice a' n' c', .int .i64 (V + 1)], .int .i64 (V + 1), .int .i64 0]) ∧ EsAt w' a' n' c' (sPut s.data.toList (p, V + 1) l) ∧ Sr a n w.heap.size a' n' ∧ Below w.heap.size w w') := by
  have hdr := fun w hw => rdrop_any a n c l V s w hw (by omega)
  unfold sPut
  have hdl : (sDel s.data.toList l).length ≤ n := by rw [← h.1]; exact List.length_filter_le _ _
  have hkd : ∀ y ∈ sDel s.data.toList l, y.1.length ≤ maxLen := fun y hy => by
    obtain ⟨i, hi, e⟩ := List.mem_iff_getElem.1 (List.mem_filter.1 hy).1
    obtain ⟨b, off, -, hl, -⟩ := h.2.2.2 i (by rw [← h.1]; exact hi)
    unfold lk at hl
    rw [List.getD_eq_getElem?_getD, List.getElem?_eq_getElem hi] at hl
    rw [← e]
    exact hl
  have hks : s.data.toList.length ≤ maxLen := by simpa using hs
  generalize hDD : sDel s.data.toList l = D at *
  have hst : ∀ j, j < D.length → (D.take (j + 1)).foldl (lyStep (s.data.toList, (p, V + 1))) (false, []) = lyStep (s.data.toList, (p, V + 1)) ((D.take j).foldl (lyStep (s.data.toList, (p, V + 1))) (false, [])) (lk D j) := fun j hj => ly_take _ D j hj
  have hfn := ly_false (s.data.toList, (p, V + 1)) D []
  rw [List.nil_append] at hfn
  have hln : ∀ j, j ≤ D.length → ((D.take j).foldl (lyStep (s.data.toList, (p, V + 1))) (false, [])).2.length ≤ j + 1 := fun j hj => by
    have := ly_len (s.data.toList, (p, V + 1)) (D.take j) (false, [])
    rw [List.length_take] at this
    simp at this
    omega
  have hky : ∀ y ∈ sIns (s.data.toList, (p, V + 1)) D, y.1.length ≤ maxLen := fun y hy => by
    rcases mem_sIns.1 hy with rfl | hy
    · exact hks
    · exact hkd y hy
  generalize sIns (s.data.toList, (p, V + 1)) D = R at *
  have hF0 : (D.take 0).foldl (lyStep (s.data.toList, (p, V + 1))) (false, []) = (false, []) := rfl
  have hFn : (D.take D.length).foldl (lyStep (s.data.toList, (p, V + 1))) (false, []) = D.foldl (lyStep (s.data.toList, (p, V + 1))) (false, []) := by rw [List.take_length]
  generalize hF : (fun j => (D.take j).foldl (lyStep (s.data.toList, (p, V + 1))) (false, [])) = F at *
  have hFF : ∀ j, (D.take j).foldl (lyStep (s.data.toList, (p, V + 1))) (false, []) = F j := fun j => by rw [← hF]
  simp only [hFF] at hst hln hF0 hFn
  rw [← hFn] at hfn
  clear hFF hF hFn hDD hkd hks
  generalize hSK : s.data.toList = SK at *
  have hnm := fun w => rnamed_any s hs w
  have hck := fun w => r8chk p w
  have hge := fun w hw => rget_any a n c l V s w hw
  unfold Pol.v at hck hge
  try rw [hSK] at hge
  rw [hb] at hnm
  rw [hc] at hck
  generalize bGet (l, V) SK = G at *
  generalize bIs (l, V) SK = I at *
  obtain ⟨g, gv⟩ := G
  dsimp only at *
  clear hb hc
  have HNM := Go.Lib.hid hnm
  have HCK := Go.Lib.hid hck
  have HGE := Go.Lib.hid hge
  have HDR := Go.Lib.hid hdr
  have HST := Go.Lib.hid hst
  have HFN := Go.Lib.hid hfn
  have HLN := Go.Lib.hid hln
  have HKY := Go.Lib.hid hky
  have HF0 := Go.Lib.hid hF0
  have HSK := Go.Lib.hid hSK
  clear hnm hck hge hdr hst hfn hln hky hF0 hSK
  have HE := Go.Lib.hid h
  clear h
  have wv : IntKind.i64.wrap (V + 1) = V + 1 := IntWalk.i64_in _ (by omega)
  go_enter Tryz.func37, Tryz.ntmps37
  go_wp2_with fail
  refine (HNM.out _).mono ?_
  rintro e w1 ⟨rfl, hb⟩
  have hx : Below w.heap.size w w1 := bl_then (bl_alloc (bl_alloc (bl_alloc (bl_refl _) _) _) _) hb
  have hsz1 : w.heap.size + 3 ≤ w1.heap.size := by have h := hb.size; first | omega | (simp at h; omega) | (simp at h ⊢; omega)
  have t0 := bl_cell (v := .slice a n c) hb (show World.cell? _ ⟨w.heap.size, 0, none⟩ = _ by go_simp)
  have t1 := bl_cell (v := .int .i64 V) hb (show World.cell? _ ⟨w.heap.size, 1, none⟩ = _ by go_simp)
  have p0 := bl_cell (v := .int .i64 p.kind) hb (show World.cell? _ ⟨w.heap.size + 1, 0, none⟩ = _ by go_simp)
  have p1 := bl_cell (v := .int .i64 p.limit) hb (show World.cell? _ ⟨w.heap.size + 1, 1, none⟩ = _ by go_simp)
  have p2 := bl_cell (v := .int .i64 p.period) hb (show World.cell? _ ⟨w.heap.size + 1, 2, none⟩ = _ by go_simp)
  have p3 := bl_cell (v := .int .i64 p.burst) hb (show World.cell? _ ⟨w.heap.size + 1, 3, none⟩ = _ by go_simp)
  have p4 := bl_cell (v := .int .i64 p.cap) hb (show World.cell? _ ⟨w.heap.size + 1, 4, none⟩ = _ by go_simp)
  have p5 := bl_cell (v := .bool p.opn) hb (show World.cell? _ ⟨w.heap.size + 1, 5, none⟩ = _ by go_simp)
  have rR := res2_bl (b := w.heap.size + 1 + 1) (res2_new _ _ _ _ (by simp)) hb
  have hB : Below w.heap.size w w1 := hx
  have lb_t := World.block_lt_of_cell? w1 _ t0
  dsimp only at lb_t
  have lb_p := World.block_lt_of_cell? w1 _ p0
  dsimp only at lb_p
  clear hb hx
  go_wp2_with fail
  refine (HCK.out _).mono ?_
  rintro e w2 ⟨rfl, hb⟩
  have hsz2 : w1.heap.size + 0 ≤ w2.heap.size := by have h := hb.size; first | omega | (simp at h; omega) | (simp at h ⊢; omega)
  replace t0 := bl_cell hb t0
  replace t1 := bl_cell hb t1
  replace p0 := bl_cell hb p0
  replace p1 := bl_cell hb p1
  replace p2 := bl_cell hb p2
  replace p3 := bl_cell hb p3
  replace p4 := bl_cell hb p4
  replace p5 := bl_cell hb p5
  replace rR := res2_bl rR hb
  replace hB : Below w.heap.size w w2 := bl_then hB hb
  replace lb_t := World.block_lt_of_cell? w2 _ t0
  dsimp only at lb_t
  replace lb_p := World.block_lt_of_cell? w2 _ p0
  dsimp only at lb_p
  clear hb
  go_wp2_with fail
  refine (HGE.out _ (es_bl HE.out (hB))).mono ?_
  rintro e w3 ⟨rfl, hb⟩
  have hsz3 : w2.heap.size + 0 ≤ w3.heap.size := by have h := hb.size; first | omega | (simp at h; omega) | (simp at h ⊢; omega)
  replace t0 := bl_cell hb t0
  replace t1 := bl_cell hb t1
  replace p0 := bl_cell hb p0
  replace p1 := bl_cell hb p1
  replace p2 := bl_cell hb p2
  replace p3 := bl_cell hb p3
  replace p4 := bl_cell hb p4
  replace p5 := bl_cell hb p5
  replace rR := res2_bl rR hb
  replace hB : Below w.heap.size w w3 := bl_then hB hb
  replace lb_t := World.block_lt_of_cell? w3 _ t0
  dsimp only at lb_t
  replace lb_p := World.block_lt_of_cell? w3 _ p0
  dsimp only at lb_p
  clear hb
  have heq := fun w => pol_eql g p w
  rcases hi with ⟨rfl, he⟩ | ⟨rfl, h100⟩
  all_goals first | (rw [decide_eq_false he] at heq; clear he) | (clear heq; have h99 : (n : Int) < 100 := (by omega); have h98 : n < 100 := (by omega))
  all_goals go_wp2_with fail
  all_goals
    refine (HDR.out _ (es_bl HE.out (bl_alloc (hB) _))).mono ?_
    rintro e w4 ⟨a1, n1, c1, rfl, hes, -, hb⟩
    have hx : Below w3.heap.size w3 w4 := bl_then (bl_alloc (bl_refl _) _) hb
    have hsz4 : w3.heap.size + 1 ≤ w4.heap.size := by have h := hb.size; first | omega | (simp at h; omega) | (simp at h ⊢; omega)
    replace t0 := bl_cell hx t0
    replace t1 := bl_cell hx t1
    replace p0 := bl_cell hx p0
    replace p1 := bl_cell hx p1
    replace p2 := bl_cell hx p2
    replace p3 := bl_cell hx p3
    replace p4 := bl_cell hx p4
    replace p5 := bl_cell hx p5
    replace rR := res2_bl rR hx
    have q0 := bl_cell (v := .int .i64 g.kind) hb (show World.cell? _ ⟨w3.heap.size, 0, none⟩ = _ by go_simp)
    have q1 := bl_cell (v := .int .i64 g.limit) hb (show World.cell? _ ⟨w3.heap.size, 1, none⟩ = _ by go_simp)
    have q2 := bl_cell (v := .int .i64 g.period) hb (show World.cell? _ ⟨w3.heap.size, 2, none⟩ = _ by go_simp)
    have q3 := bl_cell (v := .int .i64 g.burst) hb (show World.cell? _ ⟨w3.heap.size, 3, none⟩ = _ by go_simp)
    have q4 := bl_cell (v := .int .i64 g.cap) hb (show World.cell? _ ⟨w3.heap.size, 4, none⟩ = _ by go_simp)
    have q5 := bl_cell (v := .bool g.opn) hb (show World.cell? _ ⟨w3.heap.size, 5, none⟩ = _ by go_simp)
    replace hB : Below w.heap.size w w4 := bl_then hB hx
    replace lb_t := World.block_lt_of_cell? w4 _ t0
    dsimp only at lb_t
    replace lb_p := World.block_lt_of_cell? w4 _ p0
    dsimp only at lb_p
    have lb_q := World.block_lt_of_cell? w4 _ q0
    dsimp only at lb_q
    clear hb hx
    clear t0 q0 q1 q2 q3 q4 q5
    have hn1 : D.length = n1 := hes.1
    have HES := Go.Lib.hid hes
    clear hes
    have hW := bl_refl w4
    have sz0 : w.heap.size + 3 ≤ w4.heap.size := by omega
    go_wp2_with fail
    skip
    refine wp_abs (S0 := fun X => (fun w' => w'.cell? ⟨w.heap.size, 1, none⟩ = some (.int .i64 V) ∧ w'.cell? ⟨w.heap.size + 1, 0, none⟩ = some (.int .i64 p.kind) ∧ w'.cell? ⟨w.heap.size + 1, 1, none⟩ = some (.int .i64 p.limit) ∧ w'.cell? ⟨w.heap.size + 1, 2, none⟩ = some (.int .i64 p.period) ∧ w'.cell? ⟨w.heap.size + 1, 3, none⟩ = some (.int .i64 p.burst) ∧ w'.cell? ⟨w.heap.size + 1, 4, none⟩ = some (.int .i64 p.cap) ∧ w'.cell? ⟨w.heap.size + 1, 5, none⟩ = some (.bool p.opn) ∧ Res2 w' (w.heap.size + 1 + 1) ∧ Below w4.heap.size w4 w' ∧ w'.cell? ⟨w4.heap.size, 0, none⟩ = some (.slice a1 n1 c1) ∧ w'.cell? ⟨w4.heap.size, 1, none⟩ = some (.int .i64 V) ∧ w'.cell? ⟨w4.heap.size + 1, 0, none⟩ = some (.slice none 0 0) ∧ w'.cell? ⟨w4.heap.size + 1, 1, none⟩ = some (.int .i64 (V + 1)) ∧ Res2 w' (w4.heap.size + 1) ∧ Below w.heap.size w w') X ∧ w4.heap.size + 2 ≤ X.heap.size) ⟨⟨bl_cell (bl_alloc (bl_alloc (bl_refl _) _) _) t1, bl_cell (bl_alloc (bl_alloc (bl_refl _) _) _) p0, bl_cell (bl_alloc (bl_alloc (bl_refl _) _) _) p1, bl_cell (bl_alloc (bl_alloc (bl_refl _) _) _) p2, bl_cell (bl_alloc (bl_alloc (bl_refl _) _) _) p3, bl_cell (bl_alloc (bl_alloc (bl_refl _) _) _) p4, bl_cell (bl_alloc (bl_alloc (bl_refl _) _) _) p5, res2_bl rR (bl_alloc (bl_alloc (bl_refl _) _) _), bl_then hW (bl_alloc (bl_alloc (bl_refl _) _) _), by go_simp, by go_simp, by go_simp, by go_simp, res2_new _ _ _ _ (by simp), bl_alloc (bl_alloc (hB) _) _⟩, by simp⟩ ?_
    clear t1 p0 p1 p2 p3 p4 p5 rR hW hB
    rintro w5 ⟨⟨t1, p0, p1, p2, p3, p4, p5, rR, hW, x0, x1, u0, u1, uR, hB⟩, hsz5⟩
    replace lb_p := World.block_lt_of_cell? w5 _ p0
    dsimp only at lb_p
    have lb_x := World.block_lt_of_cell? w5 _ x0
    dsimp only at lb_x
    have lb_u := World.block_lt_of_cell? w5 _ u0
    dsimp only at lb_u
    have sz : w4.heap.size + 1 + 1 ≤ w5.heap.size := by omega
    clear x1 t1
    go_loopw [15, 16] (fun s15 s16 wr => ∃ (j : Nat) (v : Value), s16 = .int .i64 j ∧ j ≤ n1 ∧ s15 = .bool (F j).1 ∧ Hid (wr.cell? ⟨w4.heap.size + 1, 0, none⟩ = some v ∧ OwnE wr (w4.heap.size + 1 + 1) v (F j).2.length (F j).2) ∧ Hid ((fun w' => w'.cell? ⟨w.heap.size + 1, 0, none⟩ = some (.int .i64 p.kind) ∧ w'.cell? ⟨w.heap.size + 1, 1, none⟩ = some (.int .i64 p.limit) ∧ w'.cell? ⟨w.heap.size + 1, 2, none⟩ = some (.int .i64 p.period) ∧ w'.cell? ⟨w.heap.size + 1, 3, none⟩ = some (.int .i64 p.burst) ∧ w'.cell? ⟨w.heap.size + 1, 4, none⟩ = some (.int .i64 p.cap) ∧ w'.cell? ⟨w.heap.size + 1, 5, none⟩ = some (.bool p.opn) ∧ Res2 w' (w.heap.size + 1 + 1) ∧ Below w4.heap.size w4 w' ∧ w'.cell? ⟨w4.heap.size, 0, none⟩ = some (.slice a1 n1 c1) ∧ w'.cell? ⟨w4.heap.size + 1, 1, none⟩ = some (.int .i64 (V + 1)) ∧ Res2 w' (w4.heap.size + 1) ∧ w4.heap.size + 1 + 1 ≤ w'.heap.size ∧ Below w.heap.size w w') wr)) (fun _ s16 _ => n1 - (intOf s16).toNat)
    case atStart => exact ⟨0, _, rfl, Nat.zero_le _, by rw [HF0.out], ⟨u0, by rw [HF0.out]; exact ⟨rfl, .inl ⟨rfl, rfl⟩⟩⟩, ⟨p0, p1, p2, p3, p4, p5, rR, hW, x0, u1, uR, sz, hB⟩⟩
    case round =>
      obtain ⟨j, v, rfl, hj, rfl, HV, H⟩ := hrel
      clear u0
      replace H := H.out
      clear hB p0 p1 p2 p3 p4 p5 rR hW x0 u1 uR sz
      obtain ⟨p0, p1, p2, p3, p4, p5, rR, hW, x0, u1, uR, sz, hB⟩ := H
      replace lb_p := World.block_lt_of_cell? wr _ p0
      dsimp only at lb_p
      replace lb_x := World.block_lt_of_cell? wr _ x0
      dsimp only at lb_x
      obtain ⟨u0, ow⟩ := HV.out
      clear HV
      have lnj := HLN.out j (by omega)
      by_cases hjn : j < n1
      · have hst := HST.out j (by omega)
        obtain ⟨g9, off, rfl, hky, y0, y1, y2, y3, y4, y5, y6, y7⟩ := HES.out.2.2.2 j hjn
        have x_0 := bl_cell hW y0
        have x_1 := bl_cell hW y1
        have x_2 := bl_cell hW y2
        have x_3 := bl_cell hW y3
        have x_4 := bl_cell hW y4
        have x_5 := bl_cell hW y5
        have x_6 := bl_cell hW y6
        have x_7 := bl_cell hW y7
        have lbx := World.block_lt_of_cell? _ _ y0
        dsimp only at lbx
        clear y0 y1 y2 y3 y4 y5 y6 y7 hky
        have hTe := less_txt s (lk D j).1
        rw [HSK.out] at hTe
        generalize hLK : lk D j = Y at *
        obtain ⟨KJ, e⟩ := Y
        obtain ⟨ep, ev⟩ := e
        dsimp only at *
        generalize hTT : txt KJ = T at *
        have HTT := Go.Lib.hid hTT
        clear hTT hLK
        generalize hFj : F j = FJ at *
        obtain ⟨fb, fl⟩ := FJ
        dsimp only at *
        have k0 : (0 : Int) ≤ (j : Int) := by omega
        have k1 : (j : Int) < (n1 : Int) := by omega
        have hj1 : j + 1 ≤ n1 := hjn
        have hms : n1 - (j + 1) < n1 - j := by omega
        have wj : IntKind.i64.wrap ((j : Int) + 1) = (j : Int) + 1 := IntWalk.i64_in _ (by omega)
        have ln1 : fl.length ≤ 902 := by omega
        clear hFj lnj
        unfold lyStep at hst
        dsimp only at hst
        generalize hBF : bytesBefore SK KJ = bf at *
        clear hBF
        have hcase : (fb = true ∨ fb = false ∧ bf = false) ∨ fb = false ∧ bf = true := by cases fb <;> cases bf <;> simp
        rcases hcase with (rfl | ⟨rfl, rfl⟩) | ⟨rfl, rfl⟩
        case' pos.inl.inl =>
          rw [if_neg (by simp)] at hst
          replace ln1 : fl.length ≤ 903 := by omega
          go_wp2_with fail
          refine wp_abs (S0 := fun X => (fun w' => w'.cell? ⟨w.heap.size + 1, 0, none⟩ = some (.int .i64 p.kind) ∧ w'.cell? ⟨w.heap.size + 1, 1, none⟩ = some (.int .i64 p.limit) ∧ w'.cell? ⟨w.heap.size + 1, 2, none⟩ = some (.int .i64 p.period) ∧ w'.cell? ⟨w.heap.size + 1, 3, none⟩ = some (.int .i64 p.burst) ∧ w'.cell? ⟨w.heap.size + 1, 4, none⟩ = some (.int .i64 p.cap) ∧ w'.cell? ⟨w.heap.size + 1, 5, none⟩ = some (.bool p.opn) ∧ Res2 w' (w.heap.size + 1 + 1) ∧ Below w4.heap.size w4 w' ∧ w'.cell? ⟨w4.heap.size, 0, none⟩ = some (.slice (some ⟨g9, off, none⟩) n1 c1) ∧ w'.cell? ⟨w4.heap.size + 1, 1, none⟩ = some (.int .i64 (V + 1)) ∧ Res2 w' (w4.heap.size + 1) ∧ w4.heap.size + 1 + 1 ≤ w'.heap.size ∧ w'.cell? ⟨g9, off + j * 8, none⟩ = some (.string T) ∧ w'.cell? ⟨g9, off + j * 8 + 1, none⟩ = some (.int .i64 ep.kind) ∧ w'.cell? ⟨g9, off + j * 8 + 2, none⟩ = some (.int .i64 ep.limit) ∧ w'.cell? ⟨g9, off + j * 8 + 3, none⟩ = some (.int .i64 ep.period) ∧ w'.cell? ⟨g9, off + j * 8 + 4, none⟩ = some (.int .i64 ep.burst) ∧ w'.cell? ⟨g9, off + j * 8 + 5, none⟩ = some (.int .i64 ep.cap) ∧ w'.cell? ⟨g9, off + j * 8 + 6, none⟩ = some (.bool ep.opn) ∧ w'.cell? ⟨g9, off + j * 8 + 7, none⟩ = some (.int .i64 ev) ∧ w'.cell? ⟨w4.heap.size + 1, 0, none⟩ = some (v) ∧ OwnE w' (w4.heap.size + 1 + 1) v fl.length fl ∧ Below w.heap.size w w') X) ⟨p0, p1, p2, p3, p4, p5, rR, hW, x0, u1, uR, sz, x_0, x_1, x_2, x_3, x_4, x_5, x_6, x_7, u0, ow, hB⟩ ?_
          clear p0 p1 p2 p3 p4 p5 rR hW x0 u1 uR sz x_0 x_1 x_2 x_3 x_4 x_5 x_6 x_7 u0 ow hB
          rintro w8 ⟨p0, p1, p2, p3, p4, p5, rR, hW, x0, u1, uR, sz, x_0, x_1, x_2, x_3, x_4, x_5, x_6, x_7, u0, ow, hB⟩
        case' pos.inl.inr =>
          rw [if_neg (by simp)] at hst
          replace ln1 : fl.length ≤ 903 := by omega
          go_wp2_with fail
          refine wp_abs (S0 := fun X => (fun w' => w'.cell? ⟨w.heap.size + 1, 0, none⟩ = some (.int .i64 p.kind) ∧ w'.cell? ⟨w.heap.size + 1, 1, none⟩ = some (.int .i64 p.limit) ∧ w'.cell? ⟨w.heap.size + 1, 2, none⟩ = some (.int .i64 p.period) ∧ w'.cell? ⟨w.heap.size + 1, 3, none⟩ = some (.int .i64 p.burst) ∧ w'.cell? ⟨w.heap.size + 1, 4, none⟩ = some (.int .i64 p.cap) ∧ w'.cell? ⟨w.heap.size + 1, 5, none⟩ = some (.bool p.opn) ∧ Res2 w' (w.heap.size + 1 + 1) ∧ Below w4.heap.size w4 w' ∧ w'.cell? ⟨w4.heap.size, 0, none⟩ = some (.slice (some ⟨g9, off, none⟩) n1 c1) ∧ w'.cell? ⟨w4.heap.size + 1, 1, none⟩ = some (.int .i64 (V + 1)) ∧ Res2 w' (w4.heap.size + 1) ∧ w4.heap.size + 1 + 1 ≤ w'.heap.size ∧ w'.cell? ⟨g9, off + j * 8, none⟩ = some (.string T) ∧ w'.cell? ⟨g9, off + j * 8 + 1, none⟩ = some (.int .i64 ep.kind) ∧ w'.cell? ⟨g9, off + j * 8 + 2, none⟩ = some (.int .i64 ep.limit) ∧ w'.cell? ⟨g9, off + j * 8 + 3, none⟩ = some (.int .i64 ep.period) ∧ w'.cell? ⟨g9, off + j * 8 + 4, none⟩ = some (.int .i64 ep.burst) ∧ w'.cell? ⟨g9, off + j * 8 + 5, none⟩ = some (.int .i64 ep.cap) ∧ w'.cell? ⟨g9, off + j * 8 + 6, none⟩ = some (.bool ep.opn) ∧ w'.cell? ⟨g9, off + j * 8 + 7, none⟩ = some (.int .i64 ev) ∧ w'.cell? ⟨w4.heap.size + 1, 0, none⟩ = some (v) ∧ OwnE w' (w4.heap.size + 1 + 1) v fl.length fl ∧ Below w.heap.size w w') X) ⟨p0, p1, p2, p3, p4, p5, rR, hW, x0, u1, uR, sz, x_0, x_1, x_2, x_3, x_4, x_5, x_6, x_7, u0, ow, hB⟩ ?_
          clear p0 p1 p2 p3 p4 p5 rR hW x0 u1 uR sz x_0 x_1 x_2 x_3 x_4 x_5 x_6 x_7 u0 ow hB
          rintro w8 ⟨p0, p1, p2, p3, p4, p5, rR, hW, x0, u1, uR, sz, x_0, x_1, x_2, x_3, x_4, x_5, x_6, x_7, u0, ow, hB⟩
        case' pos.inr =>
          obtain ⟨fr0, fr1, k2, k3, j0, j1⟩ := res2_all uR
          have HOW := Go.Lib.hid ow
          clear ow
          have hne : ∀ gg, Value.ownBlock v = some gg → w4.heap.size + 1 + 1 ≤ gg := fun gg hgg => (World.ownsRow.lt HOW.out gg hgg).1
          have hT5 : txt SK = s := by rw [← HSK.out]; exact txt_data s
          go_wp2_with (at_builtin; refine wpList_es _ rfl _ _ rfl (w4.heap.size + 1 + 1) v fl.length fl rfl (owne_bl HOW.out (bl_alloc (bl_refl _) _)) wr.heap.size _ (SK, (p, V + 1)) rfl (ecell_at (by rw [hT5]; go_simp) (by go_simp) (by go_simp) (by go_simp) (by go_simp) (by go_simp) (by go_simp) (by go_simp)) (by omega) (by simp; omega) ?_)
          intro v5 w5 hO5 hg5
          obtain ⟨a5, c5, rfl⟩ := owne_form hO5
          have ha5 := bl_alloc (bl_refl wr) (.cells #[.string s, .int .i64 p.kind, .int .i64 p.limit, .int .i64 p.period, .int .i64 p.burst, .int .i64 p.cap, .bool p.opn, .int .i64 (V + 1)] 85)
          replace p0 := grown_cell0 hg5 (bl_cell ha5 p0) (by intro he; have := hne _ he.symm; omega)
          replace p1 := grown_cell0 hg5 (bl_cell ha5 p1) (by intro he; have := hne _ he.symm; omega)
          replace p2 := grown_cell0 hg5 (bl_cell ha5 p2) (by intro he; have := hne _ he.symm; omega)
          replace p3 := grown_cell0 hg5 (bl_cell ha5 p3) (by intro he; have := hne _ he.symm; omega)
          replace p4 := grown_cell0 hg5 (bl_cell ha5 p4) (by intro he; have := hne _ he.symm; omega)
          replace p5 := grown_cell0 hg5 (bl_cell ha5 p5) (by intro he; have := hne _ he.symm; omega)
          replace rR := grown_res2 hg5 (res2_bl rR ha5) (by intro he; have := hne _ he.symm; omega)
          replace hW := Below.grown (bl_then hW ha5) hg5 (by simp; omega) (fun gg hgg => by have := hne gg hgg; omega)
          replace x0 := grown_cell0 hg5 (bl_cell ha5 x0) (by intro he; have := hne _ he.symm; omega)
          replace u1 := grown_cell0 hg5 (bl_cell ha5 u1) (by intro he; have := hne _ he.symm; omega)
          replace uR := grown_res2 hg5 (res2_bl uR ha5) (by intro he; have := hne _ he.symm; omega)
          replace sz := Nat.le_trans (sz_bl sz ha5) hg5.size
          replace x_0 := grown_cell0 hg5 (bl_cell ha5 x_0) (by intro he; have := hne _ he.symm; omega)
          replace x_1 := grown_cell0 hg5 (bl_cell ha5 x_1) (by intro he; have := hne _ he.symm; omega)
          replace x_2 := grown_cell0 hg5 (bl_cell ha5 x_2) (by intro he; have := hne _ he.symm; omega)
          replace x_3 := grown_cell0 hg5 (bl_cell ha5 x_3) (by intro he; have := hne _ he.symm; omega)
          replace x_4 := grown_cell0 hg5 (bl_cell ha5 x_4) (by intro he; have := hne _ he.symm; omega)
          replace x_5 := grown_cell0 hg5 (bl_cell ha5 x_5) (by intro he; have := hne _ he.symm; omega)
          replace x_6 := grown_cell0 hg5 (bl_cell ha5 x_6) (by intro he; have := hne _ he.symm; omega)
          replace x_7 := grown_cell0 hg5 (bl_cell ha5 x_7) (by intro he; have := hne _ he.symm; omega)
          replace u0 := grown_cell0 hg5 (bl_cell ha5 u0) (by intro he; have := hne _ he.symm; omega)
          replace hB := Below.grown (bl_then hB ha5) hg5 (by simp; omega) (fun gg hgg => by have := hne gg hgg; omega)
          clear fr0 fr1 j0 j1 HOW hne ha5 hg5
          obtain ⟨fr0, fr1, k4, k5, j0, j1⟩ := res2_all uR
          have HO5 := Go.Lib.hid hO5
          clear hO5
          go_wp2_with fail
          replace p0 := far_set p0 ⟨w4.heap.size + 1, 0, none⟩ (.slice a5 (fl.length + 1) c5) (by dsimp only; omega)
          replace p1 := far_set p1 ⟨w4.heap.size + 1, 0, none⟩ (.slice a5 (fl.length + 1) c5) (by dsimp only; omega)
          replace p2 := far_set p2 ⟨w4.heap.size + 1, 0, none⟩ (.slice a5 (fl.length + 1) c5) (by dsimp only; omega)
          replace p3 := far_set p3 ⟨w4.heap.size + 1, 0, none⟩ (.slice a5 (fl.length + 1) c5) (by dsimp only; omega)
          replace p4 := far_set p4 ⟨w4.heap.size + 1, 0, none⟩ (.slice a5 (fl.length + 1) c5) (by dsimp only; omega)
          replace p5 := far_set p5 ⟨w4.heap.size + 1, 0, none⟩ (.slice a5 (fl.length + 1) c5) (by dsimp only; omega)
          replace rR := res2_set rR ⟨w4.heap.size + 1, 0, none⟩ (.slice a5 (fl.length + 1) c5)
          replace hW := bl_set hW (a := ⟨w4.heap.size + 1, 0, none⟩) (by dsimp only; omega) (.slice a5 (fl.length + 1) c5)
          replace x0 := far_set x0 ⟨w4.heap.size + 1, 0, none⟩ (.slice a5 (fl.length + 1) c5) (by dsimp only; omega)
          replace u1 := set_other0 u1 (.slice a5 (fl.length + 1) c5) (a := ⟨w4.heap.size + 1, 0, none⟩) (by simp)
          replace uR := res2_set uR ⟨w4.heap.size + 1, 0, none⟩ (.slice a5 (fl.length + 1) c5)
          replace sz := sz_set (a := ⟨w4.heap.size + 1, 0, none⟩) (v := .slice a5 (fl.length + 1) c5) sz
          replace x_0 := far_set x_0 ⟨w4.heap.size + 1, 0, none⟩ (.slice a5 (fl.length + 1) c5) (by dsimp only; omega)
          replace x_1 := far_set x_1 ⟨w4.heap.size + 1, 0, none⟩ (.slice a5 (fl.length + 1) c5) (by dsimp only; omega)
          replace x_2 := far_set x_2 ⟨w4.heap.size + 1, 0, none⟩ (.slice a5 (fl.length + 1) c5) (by dsimp only; omega)
          replace x_3 := far_set x_3 ⟨w4.heap.size + 1, 0, none⟩ (.slice a5 (fl.length + 1) c5) (by dsimp only; omega)
          replace x_4 := far_set x_4 ⟨w4.heap.size + 1, 0, none⟩ (.slice a5 (fl.length + 1) c5) (by dsimp only; omega)
          replace x_5 := far_set x_5 ⟨w4.heap.size + 1, 0, none⟩ (.slice a5 (fl.length + 1) c5) (by dsimp only; omega)
          replace x_6 := far_set x_6 ⟨w4.heap.size + 1, 0, none⟩ (.slice a5 (fl.length + 1) c5) (by dsimp only; omega)
          replace x_7 := far_set x_7 ⟨w4.heap.size + 1, 0, none⟩ (.slice a5 (fl.length + 1) c5) (by dsimp only; omega)
          replace hB := bl_set hB (a := ⟨w4.heap.size + 1, 0, none⟩) (by dsimp only; omega) (.slice a5 (fl.length + 1) c5)
          have hlen9 : (fl ++ [(SK, (p, V + 1))]).length = fl.length + 1 := by simp
          have pk : ∃ (vm : Value) (fm : List (Key × EV)), (w5.setCell ⟨w4.heap.size + 1, 0, none⟩ (.slice a5 (fl.length + 1) c5)).cell? ⟨w4.heap.size + 1, 0, none⟩ = some vm ∧ OwnE (w5.setCell ⟨w4.heap.size + 1, 0, none⟩ (.slice a5 (fl.length + 1) c5)) (w4.heap.size + 1 + 1) vm fm.length fm ∧ fm.length ≤ 903 ∧ F (j + 1) = (true, fm ++ [(KJ, ep, ev)]) := ⟨.slice a5 (fl.length + 1) c5, fl ++ [(SK, (p, V + 1))], World.cell?_setCell_same' w5 ⟨w4.heap.size + 1, 0, none⟩ _ (by rw [u0]; rfl), by rw [hlen9]; exact owne_set HO5.out ⟨w4.heap.size + 1, 0, none⟩ _ (by dsimp only; omega), by simp; omega, by rw [hst, if_pos (by simp)]⟩
          clear u0 HO5 hst ln1
          obtain ⟨v, fl, u0, ow, ln1, hst⟩ := pk
          refine wp_abs (S0 := fun X => (fun w' => w'.cell? ⟨w.heap.size + 1, 0, none⟩ = some (.int .i64 p.kind) ∧ w'.cell? ⟨w.heap.size + 1, 1, none⟩ = some (.int .i64 p.limit) ∧ w'.cell? ⟨w.heap.size + 1, 2, none⟩ = some (.int .i64 p.period) ∧ w'.cell? ⟨w.heap.size + 1, 3, none⟩ = some (.int .i64 p.burst) ∧ w'.cell? ⟨w.heap.size + 1, 4, none⟩ = some (.int .i64 p.cap) ∧ w'.cell? ⟨w.heap.size + 1, 5, none⟩ = some (.bool p.opn) ∧ Res2 w' (w.heap.size + 1 + 1) ∧ Below w4.heap.size w4 w' ∧ w'.cell? ⟨w4.heap.size, 0, none⟩ = some (.slice (some ⟨g9, off, none⟩) n1 c1) ∧ w'.cell? ⟨w4.heap.size + 1, 1, none⟩ = some (.int .i64 (V + 1)) ∧ Res2 w' (w4.heap.size + 1) ∧ w4.heap.size + 1 + 1 ≤ w'.heap.size ∧ w'.cell? ⟨g9, off + j * 8, none⟩ = some (.string T) ∧ w'.cell? ⟨g9, off + j * 8 + 1, none⟩ = some (.int .i64 ep.kind) ∧ w'.cell? ⟨g9, off + j * 8 + 2, none⟩ = some (.int .i64 ep.limit) ∧ w'.cell? ⟨g9, off + j * 8 + 3, none⟩ = some (.int .i64 ep.period) ∧ w'.cell? ⟨g9, off + j * 8 + 4, none⟩ = some (.int .i64 ep.burst) ∧ w'.cell? ⟨g9, off + j * 8 + 5, none⟩ = some (.int .i64 ep.cap) ∧ w'.cell? ⟨g9, off + j * 8 + 6, none⟩ = some (.bool ep.opn) ∧ w'.cell? ⟨g9, off + j * 8 + 7, none⟩ = some (.int .i64 ev) ∧ w'.cell? ⟨w4.heap.size + 1, 0, none⟩ = some (v) ∧ OwnE w' (w4.heap.size + 1 + 1) v fl.length fl ∧ Below w.heap.size w w') X) ⟨p0, p1, p2, p3, p4, p5, rR, hW, x0, u1, uR, sz, x_0, x_1, x_2, x_3, x_4, x_5, x_6, x_7, u0, ow, hB⟩ ?_
          clear p0 p1 p2 p3 p4 p5 rR hW x0 u1 uR sz x_0 x_1 x_2 x_3 x_4 x_5 x_6 x_7 u0 ow hB
          rintro w8 ⟨p0, p1, p2, p3, p4, p5, rR, hW, x0, u1, uR, sz, x_0, x_1, x_2, x_3, x_4, x_5, x_6, x_7, u0, ow, hB⟩
        all_goals
          have lb_p := World.block_lt_of_cell? w8 _ p0
          dsimp only at lb_p
          have lb_x := World.block_lt_of_cell? w8 _ x0
          dsimp only at lb_x
          have lb_x_ := World.block_lt_of_cell? w8 _ x_0
          dsimp only at lb_x_
          have lb_u := World.block_lt_of_cell? w8 _ u0
          dsimp only at lb_u
          go_wp2_with fail
          refine wp_region_held_drew (S := fun w' => w'.cell? ⟨w.heap.size + 1, 0, none⟩ = some (.int .i64 p.kind) ∧ w'.cell? ⟨w.heap.size + 1, 1, none⟩ = some (.int .i64 p.limit) ∧ w'.cell? ⟨w.heap.size + 1, 2, none⟩ = some (.int .i64 p.period) ∧ w'.cell? ⟨w.heap.size + 1, 3, none⟩ = some (.int .i64 p.burst) ∧ w'.cell? ⟨w.heap.size + 1, 4, none⟩ = some (.int .i64 p.cap) ∧ w'.cell? ⟨w.heap.size + 1, 5, none⟩ = some (.bool p.opn) ∧ Res2 w' (w.heap.size + 1 + 1) ∧ Below w4.heap.size w4 w' ∧ w'.cell? ⟨w4.heap.size, 0, none⟩ = some (.slice (some ⟨g9, off, none⟩) n1 c1) ∧ w'.cell? ⟨w4.heap.size + 1, 1, none⟩ = some (.int .i64 (V + 1)) ∧ Res2 w' (w4.heap.size + 1) ∧ w4.heap.size + 1 + 1 ≤ w'.heap.size ∧ w'.cell? ⟨g9, off + j * 8, none⟩ = some (.string T) ∧ w'.cell? ⟨g9, off + j * 8 + 1, none⟩ = some (.int .i64 ep.kind) ∧ w'.cell? ⟨g9, off + j * 8 + 2, none⟩ = some (.int .i64 ep.limit) ∧ w'.cell? ⟨g9, off + j * 8 + 3, none⟩ = some (.int .i64 ep.period) ∧ w'.cell? ⟨g9, off + j * 8 + 4, none⟩ = some (.int .i64 ep.burst) ∧ w'.cell? ⟨g9, off + j * 8 + 5, none⟩ = some (.int .i64 ep.cap) ∧ w'.cell? ⟨g9, off + j * 8 + 6, none⟩ = some (.bool ep.opn) ∧ w'.cell? ⟨g9, off + j * 8 + 7, none⟩ = some (.int .i64 ev) ∧ Below w.heap.size w w') (by kernel_rfl) ?_ (fun hHeld => ?_)
          · exact ⟨p0, p1, p2, p3, p4, p5, rR, bl_drew hW, x0, u1, uR, sz, x_0, x_1, x_2, x_3, x_4, x_5, x_6, x_7, bl_drew hB⟩
          try simp only [Act.put, List.setIfInBounds_toArray, List.set_cons_zero, List.set_cons_succ]
          have hC := bl_cell (bl_drew (bl_refl w8)) u0
          have hO := owne_bl ow (bl_drew (bl_refl w8))
          clear hB p0 p1 p2 p3 p4 p5 rR hW x0 u1 uR sz x_0 x_1 x_2 x_3 x_4 x_5 x_6 x_7 u0 ow
          (refine tk (i := 0) rfl rfl hHeld ?_)
          (refine tk (i := 2) rfl rfl hHeld ?_)
          (refine tk (i := 3) rfl rfl hHeld ?_)
          (refine tk (i := 4) rfl rfl hHeld ?_)
          (refine tk (i := 5) rfl rfl hHeld ?_)
          (refine tk (i := 6) rfl rfl hHeld ?_)
          generalize hWd : w8.drew = Wd at *
          clear hWd
          refine callC2 (i := 1) (j := 7) rfl rfl ?_ ?_
          case' refine_1 =>
            intro K hK
            go_simp
            refine hK.out _ _ hHeld (fun hHeld => ?_)
            clear hK K
            try simp only [Act.put, List.setIfInBounds_toArray, List.set_cons_zero, List.set_cons_succ]
            refine callC (i := 7) rfl (fun K hK => ?_)
            obtain ⟨h_p0, h_p1, h_p2, h_p3, h_p4, h_p5, h_rR, h_hW, h_x0, h_u1, h_uR, h_sz, h_x_0, h_x_1, h_x_2, h_x_3, h_x_4, h_x_5, h_x_6, h_x_7, h_B⟩ := (id hHeld)
            go_simp
            have ha := bl_alloc (bl_refl Wd) (.cells #[.string T, .int .i64 ep.kind, .int .i64 ep.limit, .int .i64 ep.period, .int .i64 ep.burst, .int .i64 ep.cap, .bool ep.opn, .int .i64 ev] 85)
            refine hK.out _ _ ?_ (fun hHeld2 => ?_)
            · (try dsimp only); exact ⟨bl_cell ha h_p0, bl_cell ha h_p1, bl_cell ha h_p2, bl_cell ha h_p3, bl_cell ha h_p4, bl_cell ha h_p5, res2_bl h_rR ha, bl_then h_hW ha, bl_cell ha h_x0, bl_cell ha h_u1, res2_bl h_uR ha, sz_bl h_sz ha, bl_cell ha h_x_0, bl_cell ha h_x_1, bl_cell ha h_x_2, bl_cell ha h_x_3, bl_cell ha h_x_4, bl_cell ha h_x_5, bl_cell ha h_x_6, bl_cell ha h_x_7, bl_then h_B ha⟩
            clear hHeld h_p0 h_p1 h_p2 h_p3 h_p4 h_p5 h_rR h_hW h_x0 h_u1 h_uR h_sz h_x_0 h_x_1 h_x_2 h_x_3 h_x_4 h_x_5 h_x_6 h_x_7 h_B
            have hHeld := hHeld2
            clear hHeld2
            have lwq : Wd.heap.size < (Wd.alloc (.cells #[.string T, .int .i64 ep.kind, .int .i64 ep.limit, .int .i64 ep.period, .int .i64 ep.burst, .int .i64 ep.cap, .bool ep.opn, .int .i64 ev] 85)).heap.size := by simp
            replace hC := bl_cell ha hC
            replace hO := owne_bl hO ha
            clear ha
            have hn0 : World.cell? (Wd.alloc (.cells #[.string T, .int .i64 ep.kind, .int .i64 ep.limit, .int .i64 ep.period, .int .i64 ep.burst, .int .i64 ep.cap, .bool ep.opn, .int .i64 ev] 85)) ⟨Wd.heap.size, 0, none⟩ = some (.string T) := by go_simp
            have hn1 : World.cell? (Wd.alloc (.cells #[.string T, .int .i64 ep.kind, .int .i64 ep.limit, .int .i64 ep.period, .int .i64 ep.burst, .int .i64 ep.cap, .bool ep.opn, .int .i64 ev] 85)) ⟨Wd.heap.size, 1, none⟩ = some (.int .i64 ep.kind) := by go_simp
            have hn2 : World.cell? (Wd.alloc (.cells #[.string T, .int .i64 ep.kind, .int .i64 ep.limit, .int .i64 ep.period, .int .i64 ep.burst, .int .i64 ep.cap, .bool ep.opn, .int .i64 ev] 85)) ⟨Wd.heap.size, 2, none⟩ = some (.int .i64 ep.limit) := by go_simp
            have hn3 : World.cell? (Wd.alloc (.cells #[.string T, .int .i64 ep.kind, .int .i64 ep.limit, .int .i64 ep.period, .int .i64 ep.burst, .int .i64 ep.cap, .bool ep.opn, .int .i64 ev] 85)) ⟨Wd.heap.size, 3, none⟩ = some (.int .i64 ep.period) := by go_simp
            have hn4 : World.cell? (Wd.alloc (.cells #[.string T, .int .i64 ep.kind, .int .i64 ep.limit, .int .i64 ep.period, .int .i64 ep.burst, .int .i64 ep.cap, .bool ep.opn, .int .i64 ev] 85)) ⟨Wd.heap.size, 4, none⟩ = some (.int .i64 ep.burst) := by go_simp
            have hn5 : World.cell? (Wd.alloc (.cells #[.string T, .int .i64 ep.kind, .int .i64 ep.limit, .int .i64 ep.period, .int .i64 ep.burst, .int .i64 ep.cap, .bool ep.opn, .int .i64 ev] 85)) ⟨Wd.heap.size, 5, none⟩ = some (.int .i64 ep.cap) := by go_simp
            have hn6 : World.cell? (Wd.alloc (.cells #[.string T, .int .i64 ep.kind, .int .i64 ep.limit, .int .i64 ep.period, .int .i64 ep.burst, .int .i64 ep.cap, .bool ep.opn, .int .i64 ev] 85)) ⟨Wd.heap.size, 6, none⟩ = some (.bool ep.opn) := by go_simp
            have hn7 : World.cell? (Wd.alloc (.cells #[.string T, .int .i64 ep.kind, .int .i64 ep.limit, .int .i64 ep.period, .int .i64 ep.burst, .int .i64 ep.cap, .bool ep.opn, .int .i64 ev] 85)) ⟨Wd.heap.size, 7, none⟩ = some (.int .i64 ev) := by go_simp
            clear hK K
            try simp only [Act.put, List.setIfInBounds_toArray, List.set_cons_zero, List.set_cons_succ]
          case' refine_2 =>
            intro K hK
            obtain ⟨h_p0, h_p1, h_p2, h_p3, h_p4, h_p5, h_rR, h_hW, h_x0, h_u1, h_uR, h_sz, h_x_0, h_x_1, h_x_2, h_x_3, h_x_4, h_x_5, h_x_6, h_x_7, h_B⟩ := (id hHeld)
            go_simp
            have ha := bl_alloc (bl_refl Wd) (.cells #[.string T, .int .i64 ep.kind, .int .i64 ep.limit, .int .i64 ep.period, .int .i64 ep.burst, .int .i64 ep.cap, .bool ep.opn, .int .i64 ev] 85)
            refine hK.out _ _ ?_ (fun hHeld2 => ?_)
            · (try dsimp only); exact ⟨bl_cell ha h_p0, bl_cell ha h_p1, bl_cell ha h_p2, bl_cell ha h_p3, bl_cell ha h_p4, bl_cell ha h_p5, res2_bl h_rR ha, bl_then h_hW ha, bl_cell ha h_x0, bl_cell ha h_u1, res2_bl h_uR ha, sz_bl h_sz ha, bl_cell ha h_x_0, bl_cell ha h_x_1, bl_cell ha h_x_2, bl_cell ha h_x_3, bl_cell ha h_x_4, bl_cell ha h_x_5, bl_cell ha h_x_6, bl_cell ha h_x_7, bl_then h_B ha⟩
            clear hHeld h_p0 h_p1 h_p2 h_p3 h_p4 h_p5 h_rR h_hW h_x0 h_u1 h_uR h_sz h_x_0 h_x_1 h_x_2 h_x_3 h_x_4 h_x_5 h_x_6 h_x_7 h_B
            have hHeld := hHeld2
            clear hHeld2
            have lwq : Wd.heap.size < (Wd.alloc (.cells #[.string T, .int .i64 ep.kind, .int .i64 ep.limit, .int .i64 ep.period, .int .i64 ep.burst, .int .i64 ep.cap, .bool ep.opn, .int .i64 ev] 85)).heap.size := by simp
            replace hC := bl_cell ha hC
            replace hO := owne_bl hO ha
            clear ha
            have hn0 : World.cell? (Wd.alloc (.cells #[.string T, .int .i64 ep.kind, .int .i64 ep.limit, .int .i64 ep.period, .int .i64 ep.burst, .int .i64 ep.cap, .bool ep.opn, .int .i64 ev] 85)) ⟨Wd.heap.size, 0, none⟩ = some (.string T) := by go_simp
            have hn1 : World.cell? (Wd.alloc (.cells #[.string T, .int .i64 ep.kind, .int .i64 ep.limit, .int .i64 ep.period, .int .i64 ep.burst, .int .i64 ep.cap, .bool ep.opn, .int .i64 ev] 85)) ⟨Wd.heap.size, 1, none⟩ = some (.int .i64 ep.kind) := by go_simp
            have hn2 : World.cell? (Wd.alloc (.cells #[.string T, .int .i64 ep.kind, .int .i64 ep.limit, .int .i64 ep.period, .int .i64 ep.burst, .int .i64 ep.cap, .bool ep.opn, .int .i64 ev] 85)) ⟨Wd.heap.size, 2, none⟩ = some (.int .i64 ep.limit) := by go_simp
            have hn3 : World.cell? (Wd.alloc (.cells #[.string T, .int .i64 ep.kind, .int .i64 ep.limit, .int .i64 ep.period, .int .i64 ep.burst, .int .i64 ep.cap, .bool ep.opn, .int .i64 ev] 85)) ⟨Wd.heap.size, 3, none⟩ = some (.int .i64 ep.period) := by go_simp
            have hn4 : World.cell? (Wd.alloc (.cells #[.string T, .int .i64 ep.kind, .int .i64 ep.limit, .int .i64 ep.period, .int .i64 ep.burst, .int .i64 ep.cap, .bool ep.opn, .int .i64 ev] 85)) ⟨Wd.heap.size, 4, none⟩ = some (.int .i64 ep.burst) := by go_simp
            have hn5 : World.cell? (Wd.alloc (.cells #[.string T, .int .i64 ep.kind, .int .i64 ep.limit, .int .i64 ep.period, .int .i64 ep.burst, .int .i64 ep.cap, .bool ep.opn, .int .i64 ev] 85)) ⟨Wd.heap.size, 5, none⟩ = some (.int .i64 ep.cap) := by go_simp
            have hn6 : World.cell? (Wd.alloc (.cells #[.string T, .int .i64 ep.kind, .int .i64 ep.limit, .int .i64 ep.period, .int .i64 ep.burst, .int .i64 ep.cap, .bool ep.opn, .int .i64 ev] 85)) ⟨Wd.heap.size, 6, none⟩ = some (.bool ep.opn) := by go_simp
            have hn7 : World.cell? (Wd.alloc (.cells #[.string T, .int .i64 ep.kind, .int .i64 ep.limit, .int .i64 ep.period, .int .i64 ep.burst, .int .i64 ep.cap, .bool ep.opn, .int .i64 ev] 85)) ⟨Wd.heap.size, 7, none⟩ = some (.int .i64 ev) := by go_simp
            clear hK K
            try simp only [Act.put, List.setIfInBounds_toArray, List.set_cons_zero, List.set_cons_succ]
            refine callC (i := 1) rfl (fun K hK => ?_)
            go_simp
            refine hK.out _ _ hHeld (fun hHeld => ?_)
            clear hK K
            try simp only [Act.put, List.setIfInBounds_toArray, List.set_cons_zero, List.set_cons_succ]
          all_goals (generalize Wd.alloc (.cells #[.string T, .int .i64 ep.kind, .int .i64 ep.limit, .int .i64 ep.period, .int .i64 ep.burst, .int .i64 ep.cap, .bool ep.opn, .int .i64 ev] 85) = Wa at *)
          all_goals (refine callC (i := 8) rfl (fun K hK => ?_))
          all_goals
            rw [if_pos (by rfl)]
            refine wp_es _ _ _ rfl (w4.heap.size + 1 + 1) v fl.length fl rfl hO Wd.heap.size 1 (KJ, ep, ev) rfl (ecell_at (y := (KJ, ep, ev)) (by rw [HTT.out]; exact hn0) hn1 hn2 hn3 hn4 hn5 hn6 hn7) (by omega) (by obtain ⟨h_p0, h_p1, h_p2, h_p3, h_p4, h_p5, h_rR, h_hW, h_x0, h_u1, h_uR, h_sz, h_x_0, h_x_1, h_x_2, h_x_3, h_x_4, h_x_5, h_x_6, h_x_7, h_B⟩ := (id hHeld); exact h_sz) (fun v5 w5 hO5 hg5 => ?_)
            obtain ⟨h_p0, h_p1, h_p2, h_p3, h_p4, h_p5, h_rR, h_hW, h_x0, h_u1, h_uR, h_sz, h_x_0, h_x_1, h_x_2, h_x_3, h_x_4, h_x_5, h_x_6, h_x_7, h_B⟩ := (id hHeld)
            have hne : ∀ gg, Value.ownBlock (v) = some gg → w4.heap.size + 1 + 1 ≤ gg := fun gg hgg => (World.ownsRow.lt hO gg hgg).1
            refine hK.out _ _ ?_ (fun hHeld2 => ?_)
            · (try dsimp only); exact ⟨grown_cell0 hg5 h_p0 (by intro he; have := hne _ he.symm; omega), grown_cell0 hg5 h_p1 (by intro he; have := hne _ he.symm; omega), grown_cell0 hg5 h_p2 (by intro he; have := hne _ he.symm; omega), grown_cell0 hg5 h_p3 (by intro he; have := hne _ he.symm; omega), grown_cell0 hg5 h_p4 (by intro he; have := hne _ he.symm; omega), grown_cell0 hg5 h_p5 (by intro he; have := hne _ he.symm; omega), grown_res2 hg5 h_rR (by intro he; have := hne _ he.symm; omega), h_hW.grown hg5 h_hW.size (fun gg hgg => by have := hne gg hgg; omega), grown_cell0 hg5 h_x0 (by intro he; have := hne _ he.symm; omega), grown_cell0 hg5 h_u1 (by intro he; have := hne _ he.symm; omega), grown_res2 hg5 h_uR (by intro he; have := hne _ he.symm; omega), Nat.le_trans h_sz hg5.size, grown_cell0 hg5 h_x_0 (by intro he; have := hne _ he.symm; omega), grown_cell0 hg5 h_x_1 (by intro he; have := hne _ he.symm; omega), grown_cell0 hg5 h_x_2 (by intro he; have := hne _ he.symm; omega), grown_cell0 hg5 h_x_3 (by intro he; have := hne _ he.symm; omega), grown_cell0 hg5 h_x_4 (by intro he; have := hne _ he.symm; omega), grown_cell0 hg5 h_x_5 (by intro he; have := hne _ he.symm; omega), grown_cell0 hg5 h_x_6 (by intro he; have := hne _ he.symm; omega), grown_cell0 hg5 h_x_7 (by intro he; have := hne _ he.symm; omega), h_B.grown hg5 h_B.size (fun gg hgg => by have := hne gg hgg; omega)⟩
            clear hHeld hC hO hn0 hn1 hn2 hn3 hn4 hn5 hn6 hn7 h_p0 h_p1 h_p2 h_p3 h_p4 h_p5 h_rR h_hW h_x0 h_u1 h_uR h_sz h_x_0 h_x_1 h_x_2 h_x_3 h_x_4 h_x_5 h_x_6 h_x_7 h_B hne hg5
            have hHeld := hHeld2
            clear hHeld2
            clear hK K
            try simp only [Act.put, List.setIfInBounds_toArray, List.set_cons_zero, List.set_cons_succ]
            (refine tk (i := 9) rfl rfl hHeld ?_)
            obtain ⟨a5, c5, rfl⟩ := owne_form hO5
            refine callC (i := 10) rfl (fun K hK => ?_)
            obtain ⟨h_p0, h_p1, h_p2, h_p3, h_p4, h_p5, h_rR, h_hW, h_x0, h_u1, h_uR, h_sz, h_x_0, h_x_1, h_x_2, h_x_3, h_x_4, h_x_5, h_x_6, h_x_7, h_B⟩ := (id hHeld)
            obtain ⟨fr0, fr1, u0, u1, j0, j1⟩ := res2_all h_uR
            go_simp
            refine hK.out _ _ ?_ (fun hHeld2 => ?_)
            · (try dsimp only); exact ⟨far_set h_p0 _ _ (by dsimp only; omega), far_set h_p1 _ _ (by dsimp only; omega), far_set h_p2 _ _ (by dsimp only; omega), far_set h_p3 _ _ (by dsimp only; omega), far_set h_p4 _ _ (by dsimp only; omega), far_set h_p5 _ _ (by dsimp only; omega), res2_set h_rR _ _, bl_set h_hW (by dsimp only; omega) _, far_set h_x0 _ _ (by dsimp only; omega), set_other0 h_u1 _ (by simp), res2_set h_uR _ _, sz_set h_sz, far_set h_x_0 _ _ (by dsimp only; omega), far_set h_x_1 _ _ (by dsimp only; omega), far_set h_x_2 _ _ (by dsimp only; omega), far_set h_x_3 _ _ (by dsimp only; omega), far_set h_x_4 _ _ (by dsimp only; omega), far_set h_x_5 _ _ (by dsimp only; omega), far_set h_x_6 _ _ (by dsimp only; omega), far_set h_x_7 _ _ (by dsimp only; omega), bl_set h_B (by dsimp only; omega) _⟩
            have hC9 := World.cell?_setCell_same' w5 ⟨w4.heap.size + 1, 0, none⟩ (.slice a5 (fl.length + 1) c5) (by rw [j0]; rfl)
            have hO9 := owne_set hO5 ⟨w4.heap.size + 1, 0, none⟩ (.slice a5 (fl.length + 1) c5) (by dsimp only; omega)
            clear hHeld hK K hO5 h_p0 h_p1 h_p2 h_p3 h_p4 h_p5 h_rR h_hW h_x0 h_u1 h_uR h_sz h_x_0 h_x_1 h_x_2 h_x_3 h_x_4 h_x_5 h_x_6 h_x_7 h_B fr0 fr1 j0 j1 u0 u1
            have hHeld := hHeld2
            clear hHeld2
            try simp only [Act.put, List.setIfInBounds_toArray, List.set_cons_zero, List.set_cons_succ]
            refine wpAnyH_done (by kernel_rfl) ?_ _
            generalize w5.setCell ⟨w4.heap.size + 1, 0, none⟩ (.slice a5 (fl.length + 1) c5) = w99 at *
            obtain ⟨p0, p1, p2, p3, p4, p5, rR, hW, x0, u1, uR, sz, x_0, x_1, x_2, x_3, x_4, x_5, x_6, x_7, hB⟩ := hHeld
            have u0 := hC9
            have ow := hO9
            clear hC9 hO9
            have lb_p := World.block_lt_of_cell? w99 _ p0
            dsimp only at lb_p
            have lb_x := World.block_lt_of_cell? w99 _ x0
            dsimp only at lb_x
            have lb_x_ := World.block_lt_of_cell? w99 _ x_0
            dsimp only at lb_x_
            go_wp2_with fail
            go_roundw
            case rel => exact ⟨j + 1, _, by go_num, hj1, by rw [hst], ⟨u0, by rw [hst, List.length_append]; exact ow⟩, ⟨p0, p1, p2, p3, p4, p5, rR, hW, x0, u1, uR, sz, hB⟩⟩
            case measure => (simp [intOf]; first | exact hms | omega)
      · have hje : n1 = j := by omega
        subst hje
        have hfn := HFN.out
        rw [hn1] at hfn
        generalize F n1 = FN at *
        obtain ⟨fb, fl⟩ := FN
        dsimp only at *
        have ln1 : fl.length ≤ 902 := by omega
        cases fb
        case' true =>
          rw [if_pos rfl] at hfn
          go_wp2_with fail
          refine wp_abs (S0 := fun X => (fun w' => w'.cell? ⟨w.heap.size + 1, 0, none⟩ = some (.int .i64 p.kind) ∧ w'.cell? ⟨w.heap.size + 1, 1, none⟩ = some (.int .i64 p.limit) ∧ w'.cell? ⟨w.heap.size + 1, 2, none⟩ = some (.int .i64 p.period) ∧ w'.cell? ⟨w.heap.size + 1, 3, none⟩ = some (.int .i64 p.burst) ∧ w'.cell? ⟨w.heap.size + 1, 4, none⟩ = some (.int .i64 p.cap) ∧ w'.cell? ⟨w.heap.size + 1, 5, none⟩ = some (.bool p.opn) ∧ Res2 w' (w.heap.size + 1 + 1) ∧ Below w4.heap.size w4 w' ∧ w'.cell? ⟨w4.heap.size, 0, none⟩ = some (.slice a1 n1 c1) ∧ w'.cell? ⟨w4.heap.size + 1, 1, none⟩ = some (.int .i64 (V + 1)) ∧ Res2 w' (w4.heap.size + 1) ∧ w4.heap.size + 1 + 1 ≤ w'.heap.size ∧ w'.cell? ⟨w4.heap.size + 1, 0, none⟩ = some (v) ∧ OwnE w' (w4.heap.size + 1 + 1) v fl.length fl ∧ Below w.heap.size w w') X) ⟨p0, p1, p2, p3, p4, p5, rR, hW, x0, u1, uR, sz, u0, ow, hB⟩ ?_
          clear p0 p1 p2 p3 p4 p5 rR hW x0 u1 uR sz u0 ow hB
          rintro w8 ⟨p0, p1, p2, p3, p4, p5, rR, hW, x0, u1, uR, sz, u0, ow, hB⟩
        case' false =>
          rw [if_neg (by simp)] at hfn
          have HFQ := Go.Lib.hid hfn
          clear hfn
          obtain ⟨fr0, fr1, k2, k3, j0, j1⟩ := res2_all uR
          have HOW := Go.Lib.hid ow
          clear ow
          have hne : ∀ gg, Value.ownBlock v = some gg → w4.heap.size + 1 + 1 ≤ gg := fun gg hgg => (World.ownsRow.lt HOW.out gg hgg).1
          have hT5 : txt SK = s := by rw [← HSK.out]; exact txt_data s
          go_wp2_with (at_builtin; refine wpList_es _ rfl _ _ rfl (w4.heap.size + 1 + 1) v fl.length fl rfl (owne_bl HOW.out (bl_alloc (bl_refl _) _)) wr.heap.size _ (SK, (p, V + 1)) rfl (ecell_at (by rw [hT5]; go_simp) (by go_simp) (by go_simp) (by go_simp) (by go_simp) (by go_simp) (by go_simp) (by go_simp)) (by omega) (by simp; omega) ?_)
          intro v5 w5 hO5 hg5
          obtain ⟨a5, c5, rfl⟩ := owne_form hO5
          have ha5 := bl_alloc (bl_refl wr) (.cells #[.string s, .int .i64 p.kind, .int .i64 p.limit, .int .i64 p.period, .int .i64 p.burst, .int .i64 p.cap, .bool p.opn, .int .i64 (V + 1)] 85)
          replace p0 := grown_cell0 hg5 (bl_cell ha5 p0) (by intro he; have := hne _ he.symm; omega)
          replace p1 := grown_cell0 hg5 (bl_cell ha5 p1) (by intro he; have := hne _ he.symm; omega)
          replace p2 := grown_cell0 hg5 (bl_cell ha5 p2) (by intro he; have := hne _ he.symm; omega)
          replace p3 := grown_cell0 hg5 (bl_cell ha5 p3) (by intro he; have := hne _ he.symm; omega)
          replace p4 := grown_cell0 hg5 (bl_cell ha5 p4) (by intro he; have := hne _ he.symm; omega)
          replace p5 := grown_cell0 hg5 (bl_cell ha5 p5) (by intro he; have := hne _ he.symm; omega)
          replace rR := grown_res2 hg5 (res2_bl rR ha5) (by intro he; have := hne _ he.symm; omega)
          replace hW := Below.grown (bl_then hW ha5) hg5 (by simp; omega) (fun gg hgg => by have := hne gg hgg; omega)
          replace x0 := grown_cell0 hg5 (bl_cell ha5 x0) (by intro he; have := hne _ he.symm; omega)
          replace u1 := grown_cell0 hg5 (bl_cell ha5 u1) (by intro he; have := hne _ he.symm; omega)
          replace uR := grown_res2 hg5 (res2_bl uR ha5) (by intro he; have := hne _ he.symm; omega)
          replace sz := Nat.le_trans (sz_bl sz ha5) hg5.size
          replace u0 := grown_cell0 hg5 (bl_cell ha5 u0) (by intro he; have := hne _ he.symm; omega)
          replace hB := Below.grown (bl_then hB ha5) hg5 (by simp; omega) (fun gg hgg => by have := hne gg hgg; omega)
          clear fr0 fr1 j0 j1 HOW hne ha5 hg5
          obtain ⟨fr0, fr1, k4, k5, j0, j1⟩ := res2_all uR
          have HO5 := Go.Lib.hid hO5
          clear hO5
          go_wp2_with fail
          replace p0 := far_set p0 ⟨w4.heap.size + 1, 0, none⟩ (.slice a5 (fl.length + 1) c5) (by dsimp only; omega)
          replace p1 := far_set p1 ⟨w4.heap.size + 1, 0, none⟩ (.slice a5 (fl.length + 1) c5) (by dsimp only; omega)
          replace p2 := far_set p2 ⟨w4.heap.size + 1, 0, none⟩ (.slice a5 (fl.length + 1) c5) (by dsimp only; omega)
          replace p3 := far_set p3 ⟨w4.heap.size + 1, 0, none⟩ (.slice a5 (fl.length + 1) c5) (by dsimp only; omega)
          replace p4 := far_set p4 ⟨w4.heap.size + 1, 0, none⟩ (.slice a5 (fl.length + 1) c5) (by dsimp only; omega)
          replace p5 := far_set p5 ⟨w4.heap.size + 1, 0, none⟩ (.slice a5 (fl.length + 1) c5) (by dsimp only; omega)
          replace rR := res2_set rR ⟨w4.heap.size + 1, 0, none⟩ (.slice a5 (fl.length + 1) c5)
          replace hW := bl_set hW (a := ⟨w4.heap.size + 1, 0, none⟩) (by dsimp only; omega) (.slice a5 (fl.length + 1) c5)
          replace x0 := far_set x0 ⟨w4.heap.size + 1, 0, none⟩ (.slice a5 (fl.length + 1) c5) (by dsimp only; omega)
          replace u1 := set_other0 u1 (.slice a5 (fl.length + 1) c5) (a := ⟨w4.heap.size + 1, 0, none⟩) (by simp)
          replace uR := res2_set uR ⟨w4.heap.size + 1, 0, none⟩ (.slice a5 (fl.length + 1) c5)
          replace sz := sz_set (a := ⟨w4.heap.size + 1, 0, none⟩) (v := .slice a5 (fl.length + 1) c5) sz
          replace hB := bl_set hB (a := ⟨w4.heap.size + 1, 0, none⟩) (by dsimp only; omega) (.slice a5 (fl.length + 1) c5)
          have hlen9 : (fl ++ [(SK, (p, V + 1))]).length = fl.length + 1 := by simp
          have pk : ∃ (vm : Value) (fm : List (Key × EV)), (w5.setCell ⟨w4.heap.size + 1, 0, none⟩ (.slice a5 (fl.length + 1) c5)).cell? ⟨w4.heap.size + 1, 0, none⟩ = some vm ∧ OwnE (w5.setCell ⟨w4.heap.size + 1, 0, none⟩ (.slice a5 (fl.length + 1) c5)) (w4.heap.size + 1 + 1) vm fm.length fm ∧ fm = R := ⟨.slice a5 (fl.length + 1) c5, fl ++ [(SK, (p, V + 1))], World.cell?_setCell_same' w5 ⟨w4.heap.size + 1, 0, none⟩ _ (by rw [u0]; rfl), by rw [hlen9]; exact owne_set HO5.out ⟨w4.heap.size + 1, 0, none⟩ _ (by dsimp only; omega), HFQ.out⟩
          clear u0 HO5 HFQ ln1
          obtain ⟨v, fl, u0, ow, hfn⟩ := pk
          refine wp_abs (S0 := fun X => (fun w' => w'.cell? ⟨w.heap.size + 1, 0, none⟩ = some (.int .i64 p.kind) ∧ w'.cell? ⟨w.heap.size + 1, 1, none⟩ = some (.int .i64 p.limit) ∧ w'.cell? ⟨w.heap.size + 1, 2, none⟩ = some (.int .i64 p.period) ∧ w'.cell? ⟨w.heap.size + 1, 3, none⟩ = some (.int .i64 p.burst) ∧ w'.cell? ⟨w.heap.size + 1, 4, none⟩ = some (.int .i64 p.cap) ∧ w'.cell? ⟨w.heap.size + 1, 5, none⟩ = some (.bool p.opn) ∧ Res2 w' (w.heap.size + 1 + 1) ∧ Below w4.heap.size w4 w' ∧ w'.cell? ⟨w4.heap.size, 0, none⟩ = some (.slice a1 n1 c1) ∧ w'.cell? ⟨w4.heap.size + 1, 1, none⟩ = some (.int .i64 (V + 1)) ∧ Res2 w' (w4.heap.size + 1) ∧ w4.heap.size + 1 + 1 ≤ w'.heap.size ∧ w'.cell? ⟨w4.heap.size + 1, 0, none⟩ = some (v) ∧ OwnE w' (w4.heap.size + 1 + 1) v fl.length fl ∧ Below w.heap.size w w') X) ⟨p0, p1, p2, p3, p4, p5, rR, hW, x0, u1, uR, sz, u0, ow, hB⟩ ?_
          clear p0 p1 p2 p3 p4 p5 rR hW x0 u1 uR sz u0 ow hB
          rintro w8 ⟨p0, p1, p2, p3, p4, p5, rR, hW, x0, u1, uR, sz, u0, ow, hB⟩
        all_goals
          have lb_p := World.block_lt_of_cell? w8 _ p0
          dsimp only at lb_p
          have lb_x := World.block_lt_of_cell? w8 _ x0
          dsimp only at lb_x
          have lb_u := World.block_lt_of_cell? w8 _ u0
          dsimp only at lb_u
          subst hfn
          obtain ⟨av, cv, rfl⟩ := owne_form ow
          generalize fl.length = M at *
          have HES := Go.Lib.hid ow
          clear ow
          go_wp2_with fail
          clear hW
          refine wp_region_held_drew (S := fun w' => w'.cell? ⟨w.heap.size + 1, 0, none⟩ = some (.int .i64 p.kind) ∧ w'.cell? ⟨w.heap.size + 1, 1, none⟩ = some (.int .i64 p.limit) ∧ w'.cell? ⟨w.heap.size + 1, 2, none⟩ = some (.int .i64 p.period) ∧ w'.cell? ⟨w.heap.size + 1, 3, none⟩ = some (.int .i64 p.burst) ∧ w'.cell? ⟨w.heap.size + 1, 4, none⟩ = some (.int .i64 p.cap) ∧ w'.cell? ⟨w.heap.size + 1, 5, none⟩ = some (.bool p.opn) ∧ Res2 w' (w.heap.size + 1 + 1) ∧ w'.cell? ⟨w4.heap.size, 0, none⟩ = some (.slice a1 n1 c1) ∧ w'.cell? ⟨w4.heap.size + 1, 1, none⟩ = some (.int .i64 (V + 1)) ∧ Res2 w' (w4.heap.size + 1) ∧ w4.heap.size + 1 + 1 ≤ w'.heap.size ∧ w'.cell? ⟨w4.heap.size + 1, 0, none⟩ = some (.slice av M cv) ∧ Below w.heap.size w w') (by kernel_rfl) ?_ (fun hHeld => ?_)
          · exact ⟨p0, p1, p2, p3, p4, p5, rR, x0, u1, uR, sz, u0, bl_drew hB⟩
          try simp only [Act.put, List.setIfInBounds_toArray, List.set_cons_zero, List.set_cons_succ]
          clear hB p0 p1 p2 p3 p4 p5 rR x0 u1 uR sz u0
          refine wpAnyH_abs (F := fun X => OwnE X (w4.heap.size + 1 + 1) (.slice av M cv) M fl) hHeld (owne_bl HES.out (bl_drew (bl_refl _))) ?_
          clear hHeld
          rintro X0 hHeld how
          (refine tk (i := 0) rfl rfl hHeld ?_)
          (refine tk (i := 1) rfl rfl hHeld ?_)
          (refine tk (i := 2) rfl rfl hHeld ?_)
          refine callC (i := 3) rfl (fun K hK => ?_)
          obtain ⟨h_p0, h_p1, h_p2, h_p3, h_p4, h_p5, h_rR, h_x0, h_u1, h_uR, h_sz, h_u0, h_B⟩ := (id hHeld)
          obtain ⟨fr0, fr1, k0, k1, j0, j1⟩ := res2_all h_rR
          go_simp
          refine hK.out _ _ ?_ (fun hHeld2 => ?_)
          · (try dsimp only); exact ⟨far_set (far_set h_p0 _ _ (by dsimp only; omega)) _ _ (by dsimp only; omega), far_set (far_set h_p1 _ _ (by dsimp only; omega)) _ _ (by dsimp only; omega), far_set (far_set h_p2 _ _ (by dsimp only; omega)) _ _ (by dsimp only; omega), far_set (far_set h_p3 _ _ (by dsimp only; omega)) _ _ (by dsimp only; omega), far_set (far_set h_p4 _ _ (by dsimp only; omega)) _ _ (by dsimp only; omega), far_set (far_set h_p5 _ _ (by dsimp only; omega)) _ _ (by dsimp only; omega), res2_set (res2_set h_rR _ _) _ _, far_set (far_set h_x0 _ _ (by dsimp only; omega)) _ _ (by dsimp only; omega), far_set (far_set h_u1 _ _ (by dsimp only; omega)) _ _ (by dsimp only; omega), res2_set (res2_set h_uR _ _) _ _, sz_set (sz_set h_sz), far_set (far_set h_u0 _ _ (by dsimp only; omega)) _ _ (by dsimp only; omega), bl_set (bl_set h_B (by dsimp only; omega) _) (by dsimp only; omega) _⟩
          have zz := set2r (v0 := .slice av M cv) (v1 := .int .i64 (V + 1)) h_rR
          replace how := owne_set (owne_set how ⟨w.heap.size + 1 + 1, 0, none⟩ (.slice av M cv) (by dsimp only; omega)) ⟨w.heap.size + 1 + 1, 1, none⟩ (.int .i64 (V + 1)) (by dsimp only; omega)
          clear hHeld hK K h_p0 h_p1 h_p2 h_p3 h_p4 h_p5 h_rR h_x0 h_u1 h_uR h_sz h_u0 h_B fr0 fr1 k0 k1 j0 j1
          have hHeld := hHeld2
          clear hHeld2
          try simp only [Act.put, List.setIfInBounds_toArray, List.set_cons_zero, List.set_cons_succ]
          (refine tk (i := 4) rfl rfl hHeld ?_)
          (refine tk (i := 5) rfl rfl hHeld ?_)
          refine wpAnyH_done (by kernel_rfl) ?_ _
          obtain ⟨-, -, -, -, -, -, -, -, -, -, -, -, hE⟩ := hHeld
          repeat' (first | go_skip | go_guarded | go_step | go_upon)
          (try simp only [Exit.inBlock, Exit.then])
          refine bodyPost_ret (results_T3 rfl _ _ (by rfl) zz) rfl ⟨av, M, cv, rfl, owne_es how HKY.out, .inr (fun ad e => by subst e; have := (World.ownsRow.lt how _ rfl).1; omega), hE⟩
end Go.Proofs.YtcfdcianpicbmaaGreat

namespace Go.Proofs.YtcfdcianpicbmaaGreat
open Go.RowKit Go.Maps
set_option linter.unusedVariables false
set_option linter.unusedSimpArgs false

theorem rlay_any (a : Option Addr) (n c : Nat) (l : List (Key × EV)) (V : Int) (s : ByteArray) (p : Pol) (w : World) (h : EsAt w a n c l) (hn : n ≤ 900) (hs : s.size ≤ maxLen) (hV : 0 ≤ V ∧ V ≤ 1000000) : Calls Tryz.prog 37 #[.agg #[.slice a n c, .int .i64 V], .string s, .agg #[.int .i64 p.kind, .int .i64 p.limit, .int .i64 p.period, .int .i64 p.burst, .int .i64 p.cap, .bool p.opn]] w (fun e w' => ∃ a' n' c', e = .returned (.tuple #[.agg #[.slice a' n' c', .int .i64 (layB namedB (l, V) s.data.toList p).2], .int .i64 (layV namedB (l, V) s.data.toList p), .int .i64 (layE namedB (l, V) s.data.toList p)]) ∧ EsAt w' a' n' c' (layB namedB (l, V) s.data.toList p).1 ∧ Sr a n w.heap.size a' n' ∧ Below w.heap.size w w') := by
  have hN : nameR s = namedB s.data.toList := by rw [namedB_s, named_same]
  have hl : l.length = n := h.1
  by_cases hb : nameR s = true
  · have hb' : namedB s.data.toList = true := by rw [← hN]; exact hb
    by_cases hc : chkP p = 0
    · by_cases hi : bIs (l, V) s.data.toList = true
      · have e0 : layE namedB (l, V) s.data.toList p = 0 := by unfold layE; simp [hb', hc, hi]
        by_cases he : (bGet (l, V) s.data.toList).1 = p
        · have e1 : bSame (l, V) s.data.toList p = true := by unfold bSame; simp [hi, he]
          have e2 : layB namedB (l, V) s.data.toList p = (l, V) := by unfold layB; simp [e0, e1]
          have e3 : layV namedB (l, V) s.data.toList p = (bGet (l, V) s.data.toList).2 := by unfold layV; simp [e0, e1]
          rw [e2, e3, e0]
          exact rlay_same a n c l V s p w h hn hs hb hc hi he
        · have e1 : bSame (l, V) s.data.toList p = false := by unfold bSame; simp [he]
          have e2 : layB namedB (l, V) s.data.toList p = (sPut s.data.toList (p, V + 1) l, V + 1) := by unfold layB; simp [e0, e1]
          have e3 : layV namedB (l, V) s.data.toList p = V + 1 := by unfold layV; simp [e0, e1]
          rw [e2, e3, e0]
          exact rlay_new a n c l V s p w h hn hs hb hc hV (.inl ⟨hi, he⟩)
      · have hi' : bIs (l, V) s.data.toList = false := by simpa using hi
        by_cases h100 : 100 ≤ n
        · have e0 : layE namedB (l, V) s.data.toList p = 5 := by unfold layE; simp [hb', hc, hi', hl, h100]
          have e2 : layB namedB (l, V) s.data.toList p = (l, V) := by unfold layB; simp [e0]
          have e3 : layV namedB (l, V) s.data.toList p = 0 := by unfold layV; simp [e0]
          rw [e2, e3, e0]
          exact rlay_full a n c l V s p w h hn hs hb hc hi' h100
        · have e0 : layE namedB (l, V) s.data.toList p = 0 := by unfold layE; simp [hb', hc, hl, h100]
          have e1 : bSame (l, V) s.data.toList p = false := by unfold bSame; simp [hi']
          have e2 : layB namedB (l, V) s.data.toList p = (sPut s.data.toList (p, V + 1) l, V + 1) := by unfold layB; simp [e0, e1]
          have e3 : layV namedB (l, V) s.data.toList p = V + 1 := by unfold layV; simp [e0, e1]
          rw [e2, e3, e0]
          exact rlay_new a n c l V s p w h hn hs hb hc hV (.inr ⟨hi', h100⟩)
    · have e0 : layE namedB (l, V) s.data.toList p = 2 := by unfold layE; simp [hc]
      have e2 : layB namedB (l, V) s.data.toList p = (l, V) := by unfold layB; simp [e0]
      have e3 : layV namedB (l, V) s.data.toList p = 0 := by unfold layV; simp [e0]
      rw [e2, e3, e0]
      exact rlay_bad2 a n c l V s p w h hn hs hb hc
  · have hb1 : nameR s = false := by simpa using hb
    have hb' : namedB s.data.toList = false := by rw [← hN]; exact hb1
    have e0 : layE namedB (l, V) s.data.toList p = 2 := by unfold layE; simp [hb']
    have e2 : layB namedB (l, V) s.data.toList p = (l, V) := by unfold layB; simp [e0]
    have e3 : layV namedB (l, V) s.data.toList p = 0 := by unfold layV; simp [e0]
    rw [e2, e3, e0]
    exact rlay_bad1 a n c l V s p w h hn hs hb1
theorem del_less (k : Key) (l : List (Key × EV)) : (sDel k l).length < l.length ↔ (sGet k l).isSome = true := by
  cases hg : sGet k l with
  | none => rw [sDel_of_none hg]; simp
  | some v =>
    have hm := sGet_mem hg
    unfold sDel
    rw [List.length_filter_lt_length_iff_exists]
    simp
    exact ⟨v.1, v.2, hm⟩
set_option maxHeartbeats 2000000 in
set_option maxRecDepth 100000 in
theorem rstep_any (a : Option Addr) (n c : Nat) (l : List (Key × EV)) (V : Int) (d : BD) (w : World) (h : EsAt w a n c l) (hn : n ≤ 900) (hs : d.name.size ≤ maxLen) (hV : 0 ≤ V ∧ V ≤ 1000000) : Calls Tryz.prog 13 #[.agg #[.slice a n c, .int .i64 V], d.v] w (fun e w' => ∃ a' n' c', e = .returned (.tuple #[.agg #[.slice a' n' c', .int .i64 (didB (l, V) d).2], .int .i64 (didV (l, V) d).1, .int .i64 (didV (l, V) d).2]) ∧ EsAt w' a' n' c' (didB (l, V) d).1 ∧ Sr a n w.heap.size a' n' ∧ Below w.heap.size w w') := by
  have hly := fun w hw => rlay_any a n c l V d.name d.p w hw hn hs hV
  have hdr := fun w hw => rdrop_any a n c l V d.name w hw (by omega)
  have hdl := del_less d.k l
  have hlt := es_lt h
  have hll : (sDel d.name.data.toList l).length ≤ l.length := List.length_filter_le _ _
  have hln := h.1
  unfold didV didB BD.k dropB
  unfold BD.k at hdl
  unfold bIs
  obtain ⟨dk, dn, p⟩ := d
  dsimp only at *
  generalize layB namedB (l, V) dn.data.toList p = LB at *
  generalize layV namedB (l, V) dn.data.toList p = LV at *
  generalize layE namedB (l, V) dn.data.toList p = LE at *
  generalize sDel dn.data.toList l = D at *
  generalize (sGet dn.data.toList l).isSome = I at *
  obtain ⟨LL, LN⟩ := LB
  dsimp only at *
  unfold BD.v
  dsimp only
  have HLY := Go.Lib.hid hly
  have HDR := Go.Lib.hid hdr
  clear hly hdr
  have HE := Go.Lib.hid h
  clear h
  by_cases hk : dk = 1
  · rw [if_pos hk, if_pos hk]
    subst hk
    dsimp only
    go_enter Tryz.func13, Tryz.ntmps13
    go_wp2_with fail
    refine (HLY.out _ (es_bl HE.out (bl_alloc (bl_alloc (bl_alloc (bl_refl _) _) _) _))).mono ?_
    rintro e w1 ⟨a1, n1, c1, rfl, hes, hsr, hb⟩
    have hx : Below w.heap.size w w1 := bl_then (bl_alloc (bl_alloc (bl_alloc (bl_refl _) _) _) _) hb
    have hsz1 : w.heap.size + 3 ≤ w1.heap.size := by have h := hb.size; first | omega | (simp at h; omega) | (simp at h ⊢; omega)
    have t0 := bl_cell (v := .slice a n c) hb (show World.cell? _ ⟨w.heap.size, 0, none⟩ = _ by go_simp)
    have t1 := bl_cell (v := .int .i64 V) hb (show World.cell? _ ⟨w.heap.size, 1, none⟩ = _ by go_simp)
    have d0 := bl_cell (v := .int .i64 1) hb (show World.cell? _ ⟨w.heap.size + 1, 0, none⟩ = _ by go_simp)
    have d1 := bl_cell (v := .string dn) hb (show World.cell? _ ⟨w.heap.size + 1, 1, none⟩ = _ by go_simp)
    have d2 := bl_cell (v := .int .i64 p.kind) hb (show World.cell? _ ⟨w.heap.size + 1, 2, none⟩ = _ by go_simp)
    have d3 := bl_cell (v := .int .i64 p.limit) hb (show World.cell? _ ⟨w.heap.size + 1, 3, none⟩ = _ by go_simp)
    have d4 := bl_cell (v := .int .i64 p.period) hb (show World.cell? _ ⟨w.heap.size + 1, 4, none⟩ = _ by go_simp)
    have d5 := bl_cell (v := .int .i64 p.burst) hb (show World.cell? _ ⟨w.heap.size + 1, 5, none⟩ = _ by go_simp)
    have d6 := bl_cell (v := .int .i64 p.cap) hb (show World.cell? _ ⟨w.heap.size + 1, 6, none⟩ = _ by go_simp)
    have d7 := bl_cell (v := .bool p.opn) hb (show World.cell? _ ⟨w.heap.size + 1, 7, none⟩ = _ by go_simp)
    have rR := res2_bl (b := w.heap.size + 1 + 1) (res2_new _ _ _ _ (by simp)) hb
    have hB : Below w.heap.size w w1 := hx
    have lb_t := World.block_lt_of_cell? w1 _ t0
    dsimp only at lb_t
    have lb_d := World.block_lt_of_cell? w1 _ d0
    dsimp only at lb_d
    clear hb hx
    obtain ⟨fr0, fr1, k0, k1, j0, j1⟩ := res2_all rR
    have hne : ∀ ad, a1 = some ad → n1 ≠ 0 → ad.block ≠ w.heap.size + 1 + 1 := fun ad e hn9 => by
      rcases hsr with ⟨rfl, rfl⟩ | h2
      · have := hlt ad e hn9; omega
      · have := h2 ad e; simp at this; omega
    have hsr2 : Sr a n w.heap.size a1 n1 := by
      rcases hsr with h2 | h2
      · exact .inl h2
      · exact .inr (fun ad e => by have := h2 ad e; simp at this; omega)
    have HES := Go.Lib.hid hes
    clear hes hsr
    go_wp2_with fail
    (try simp only [Exit.inBlock, Exit.then])
    exact bodyPost_ret (results_T3 rfl _ _ (by rfl) (set2r rR)) rfl ⟨a1, n1, c1, rfl, es_set (es_set HES.out _ _ hne) _ _ hne, hsr2, bl_set (bl_set hB (by dsimp only; omega) _) (by dsimp only; omega) _⟩
  · rw [if_neg hk, if_neg hk]
    dsimp only
    go_enter Tryz.func13, Tryz.ntmps13
    go_wp2_with fail
    refine (HDR.out _ (es_bl HE.out (bl_alloc (bl_alloc (bl_alloc (bl_refl _) _) _) _))).mono ?_
    rintro e w1 ⟨a1, n1, c1, rfl, hes, hfr, hb⟩
    have hx : Below w.heap.size w w1 := bl_then (bl_alloc (bl_alloc (bl_alloc (bl_refl _) _) _) _) hb
    have hsz1 : w.heap.size + 3 ≤ w1.heap.size := by have h := hb.size; first | omega | (simp at h; omega) | (simp at h ⊢; omega)
    have t0 := bl_cell (v := .slice a n c) hb (show World.cell? _ ⟨w.heap.size, 0, none⟩ = _ by go_simp)
    have t1 := bl_cell (v := .int .i64 V) hb (show World.cell? _ ⟨w.heap.size, 1, none⟩ = _ by go_simp)
    have d0 := bl_cell (v := .int .i64 dk) hb (show World.cell? _ ⟨w.heap.size + 1, 0, none⟩ = _ by go_simp)
    have d1 := bl_cell (v := .string dn) hb (show World.cell? _ ⟨w.heap.size + 1, 1, none⟩ = _ by go_simp)
    have d2 := bl_cell (v := .int .i64 p.kind) hb (show World.cell? _ ⟨w.heap.size + 1, 2, none⟩ = _ by go_simp)
    have d3 := bl_cell (v := .int .i64 p.limit) hb (show World.cell? _ ⟨w.heap.size + 1, 3, none⟩ = _ by go_simp)
    have d4 := bl_cell (v := .int .i64 p.period) hb (show World.cell? _ ⟨w.heap.size + 1, 4, none⟩ = _ by go_simp)
    have d5 := bl_cell (v := .int .i64 p.burst) hb (show World.cell? _ ⟨w.heap.size + 1, 5, none⟩ = _ by go_simp)
    have d6 := bl_cell (v := .int .i64 p.cap) hb (show World.cell? _ ⟨w.heap.size + 1, 6, none⟩ = _ by go_simp)
    have d7 := bl_cell (v := .bool p.opn) hb (show World.cell? _ ⟨w.heap.size + 1, 7, none⟩ = _ by go_simp)
    have rR := res2_bl (b := w.heap.size + 1 + 1) (res2_new _ _ _ _ (by simp)) hb
    have hB : Below w.heap.size w w1 := hx
    have lb_t := World.block_lt_of_cell? w1 _ t0
    dsimp only at lb_t
    have lb_d := World.block_lt_of_cell? w1 _ d0
    dsimp only at lb_d
    clear hb hx
    have hn1 := hes.1
    have hb1 : decide (n1 < n) = I := by rw [← hn1, ← hln, Bool.eq_iff_iff, decide_eq_true_eq]; exact hdl
    have hne : ∀ ad, a1 = some ad → n1 ≠ 0 → ad.block ≠ w.heap.size + 1 + 1 := fun ad e hn9 => by have := hfr ad e; simp at this; omega
    have hsr2 : Sr a n w.heap.size a1 n1 := .inr (fun ad e => by have := hfr ad e; simp at this; omega)
    have HES := Go.Lib.hid hes
    clear hes hfr hdl hll
    try rw [hb1]
    clear hb1
    cases I
    all_goals
      have hal := bl_alloc (bl_refl w1) (.cells #[.slice a1 n1 c1, .int .i64 V] 29)
      replace rR := res2_bl rR hal
      obtain ⟨fr0, fr1, k0, k1, j0, j1⟩ := res2_all rR
      replace hB := bl_then hB hal
      have hes := es_bl HES.out hal
      have HEQ := Go.Lib.hid hes
      clear hes hal HES
      go_wp2_with fail
      (try simp only [Exit.inBlock, Exit.then])
      exact bodyPost_ret (results_T3 rfl _ _ (by rfl) (set2r rR)) rfl ⟨a1, n1, c1, rfl, es_set (es_set HEQ.out _ _ hne) _ _ hne, hsr2, bl_set (bl_set hB (by dsimp only; omega) _) (by dsimp only; omega) _⟩
end Go.Proofs.YtcfdcianpicbmaaGreat

namespace Go.Proofs
open Go.Shelf
def Tryz.keysL_ren : Go.Shelf.Ren := ⟨fun | 7 => 40 | 10 => 63 | n => n, fun | 23 => 75 | 26 => 9 | 3 => 82 | 28 => 88 | 0 => 0 | 27 => 87 | 33 => 46 | 4 => 4 | n => n, fun | n => n⟩
theorem Tryz.keysL : Go.Proofs.SlLaysZ.n7 Tryz.prog Tryz.keysL_ren := {
  mixed := by kernel_rfl
  f7 := ⟨Tryz.f40.name, by decide, Tryz.func40.trans (congrArg some (by kernel_rfl))⟩
  f10 := ⟨Tryz.f63.name, by decide, Tryz.func63.trans (congrArg some (by kernel_rfl))⟩
  t0 := Tryz.underlying0
  a0 := Tryz.isAgg0
  z0 := Tryz.sizeOf0
  v0 := Tryz.zeroValue0
  t4 := Tryz.underlying4
  a4 := Tryz.isAgg4
  z4 := Tryz.sizeOf4
  v4 := Tryz.zeroValue4
  t23 := Tryz.underlying75
  a23 := Tryz.isAgg75
  z23 := Tryz.sizeOf75
  v23 := Tryz.zeroValue75
  t26 := Tryz.underlying9
  a26 := Tryz.isAgg9
  z26 := Tryz.sizeOf9
  v26 := Tryz.zeroValue9
  t27 := Tryz.underlying87
  a27 := Tryz.isAgg87
  z27 := Tryz.sizeOf87
  v27 := Tryz.zeroValue87
  t28 := Tryz.underlying88
  a28 := Tryz.isAgg88
  z28 := Tryz.sizeOf88
  v28 := Tryz.zeroValue88
  t33 := Tryz.underlying46
  a33 := Tryz.isAgg46
  z33 := Tryz.sizeOf46
  v33 := Tryz.zeroValue46 }
def Tryz.sortedL_ren : Go.Shelf.Ren := ⟨fun | 6 => 39 | 8 => 61 | 9 => 62 | 11 => 84 | 13 => 71 | 12 => 85 | 23 => 102 | 24 => 103 | 14 => 140 | 15 => 141 | 16 => 142 | 17 => 143 | 18 => 144 | 19 => 145 | 20 => 146 | 21 => 147 | 22 => 148 | 25 => 172 | 26 => 155 | 27 => 156 | 28 => 173 | 29 => 174 | 30 => 72 | 31 => 190 | n => n, fun | 26 => 9 | 28 => 88 | 24 => 43 | 0 => 0 | 3 => 3 | 37 => 128 | 48 => 149 | 50 => 125 | 4 => 4 | 40 => 166 | 39 => 165 | 45 => 71 | 5 => 5 | 9 => 9 | 51 => 194 | 55 => 198 | 57 => 239 | 58 => 30 | 33 => 46 | n => n, fun | n => n⟩
theorem Tryz.sortedL : Go.Proofs.SlLaysZ.n6 Tryz.prog Tryz.sortedL_ren := {
  mixed := by kernel_rfl
  f6 := ⟨Tryz.f39.name, by decide, Tryz.func39.trans (congrArg some (by kernel_rfl))⟩
  f8 := ⟨Tryz.f61.name, by decide, Tryz.func61.trans (congrArg some (by kernel_rfl))⟩
  f11 := ⟨Tryz.f84.name, by decide, Tryz.func84.trans (congrArg some (by kernel_rfl))⟩
  t0 := Tryz.underlying0
  a0 := Tryz.isAgg0
  z0 := Tryz.sizeOf0
  v0 := Tryz.zeroValue0
  t24 := Tryz.underlying43
  a24 := Tryz.isAgg43
  z24 := Tryz.sizeOf43
  v24 := Tryz.zeroValue43
  t26 := Tryz.underlying9
  a26 := Tryz.isAgg9
  z26 := Tryz.sizeOf9
  v26 := Tryz.zeroValue9
  t28 := Tryz.underlying88
  a28 := Tryz.isAgg88
  z28 := Tryz.sizeOf88
  v28 := Tryz.zeroValue88
  i26 := by kernel_rfl }
def Tryz.sortL_ren : Go.Shelf.Ren := ⟨fun | 6 => 62 | 8 => 71 | 9 => 85 | 19 => 102 | 20 => 103 | 21 => 140 | 22 => 141 | 23 => 142 | 24 => 143 | 25 => 144 | 26 => 145 | 27 => 146 | 28 => 147 | 29 => 148 | 36 => 172 | 31 => 155 | 32 => 156 | 37 => 173 | 38 => 174 | 39 => 72 | 41 => 190 | n => n, fun | 27 => 43 | 29 => 9 | 3 => 3 | 32 => 128 | 26 => 43 | 0 => 0 | 44 => 149 | 46 => 125 | 4 => 4 | 36 => 166 | 35 => 165 | 41 => 71 | 5 => 5 | 9 => 9 | 53 => 194 | 57 => 198 | 63 => 239 | 64 => 30 | n => n, fun | n => n⟩
theorem Tryz.sortL : Go.Proofs.SlLaysM.n6 Tryz.prog Tryz.sortL_ren := {
  mixed := by kernel_rfl
  f6 := ⟨Tryz.f62.name, by decide, Tryz.func62.trans (congrArg some (by kernel_rfl))⟩
  f8 := Tryz.func71.trans (congrArg some (by kernel_rfl))
  f9 := ⟨Tryz.f85.name, by decide, Tryz.func85.trans (congrArg some (by kernel_rfl))⟩
  f19 := Tryz.func102.trans (congrArg some (by kernel_rfl))
  f20 := Tryz.func103.trans (congrArg some (by kernel_rfl))
  f21 := ⟨Tryz.f140.name, by decide, Tryz.func140.trans (congrArg some (by kernel_rfl))⟩
  f22 := ⟨Tryz.f141.name, by decide, Tryz.func141.trans (congrArg some (by kernel_rfl))⟩
  f23 := ⟨Tryz.f142.name, by decide, Tryz.func142.trans (congrArg some (by kernel_rfl))⟩
  f24 := ⟨Tryz.f143.name, by decide, Tryz.func143.trans (congrArg some (by kernel_rfl))⟩
  f25 := ⟨Tryz.f144.name, by decide, Tryz.func144.trans (congrArg some (by kernel_rfl))⟩
  f26 := ⟨Tryz.f145.name, by decide, Tryz.func145.trans (congrArg some (by kernel_rfl))⟩
  f27 := ⟨Tryz.f146.name, by decide, Tryz.func146.trans (congrArg some (by kernel_rfl))⟩
  f28 := ⟨Tryz.f147.name, by decide, Tryz.func147.trans (congrArg some (by kernel_rfl))⟩
  f29 := ⟨Tryz.f148.name, by decide, Tryz.func148.trans (congrArg some (by kernel_rfl))⟩
  f31 := Tryz.func155.trans (congrArg some (by kernel_rfl))
  f32 := Tryz.func156.trans (congrArg some (by kernel_rfl))
  f36 := ⟨Tryz.f172.name, by decide, Tryz.func172.trans (congrArg some (by kernel_rfl))⟩
  f37 := ⟨Tryz.f173.name, by decide, Tryz.func173.trans (congrArg some (by kernel_rfl))⟩
  f38 := ⟨Tryz.f174.name, by decide, Tryz.func174.trans (congrArg some (by kernel_rfl))⟩
  f39 := ⟨Tryz.f72.name, by decide, Tryz.func72.trans (congrArg some (by kernel_rfl))⟩
  f41 := ⟨Tryz.f190.name, by decide, Tryz.func190.trans (congrArg some (by kernel_rfl))⟩
  t0 := Tryz.underlying0
  a0 := Tryz.isAgg0
  z0 := Tryz.sizeOf0
  v0 := Tryz.zeroValue0
  t3 := Tryz.underlying3
  a3 := Tryz.isAgg3
  z3 := Tryz.sizeOf3
  v3 := Tryz.zeroValue3
  t4 := Tryz.underlying4
  a4 := Tryz.isAgg4
  z4 := Tryz.sizeOf4
  v4 := Tryz.zeroValue4
  t5 := Tryz.underlying5
  a5 := Tryz.isAgg5
  z5 := Tryz.sizeOf5
  v5 := Tryz.zeroValue5
  t9 := Tryz.underlying9
  a9 := Tryz.isAgg9
  z9 := Tryz.sizeOf9
  v9 := Tryz.zeroValue9
  t26 := Tryz.underlying43
  a26 := Tryz.isAgg43
  z26 := Tryz.sizeOf43
  v26 := Tryz.zeroValue43
  t27 := Tryz.underlying43
  a27 := Tryz.isAgg43
  z27 := Tryz.sizeOf43
  v27 := Tryz.zeroValue43
  t29 := Tryz.underlying9
  a29 := Tryz.isAgg9
  z29 := Tryz.sizeOf9
  v29 := Tryz.zeroValue9
  t32 := Tryz.underlying128
  a32 := Tryz.isAgg128
  z32 := Tryz.sizeOf128
  v32 := Tryz.zeroValue128
  t35 := Tryz.underlying165
  a35 := Tryz.isAgg165
  z35 := Tryz.sizeOf165
  v35 := Tryz.zeroValue165
  t36 := Tryz.underlying166
  a36 := Tryz.isAgg166
  z36 := Tryz.sizeOf166
  v36 := Tryz.zeroValue166
  t41 := Tryz.underlying71
  a41 := Tryz.isAgg71
  z41 := Tryz.sizeOf71
  v41 := Tryz.zeroValue71
  t44 := Tryz.underlying149
  a44 := Tryz.isAgg149
  z44 := Tryz.sizeOf149
  v44 := Tryz.zeroValue149
  t46 := Tryz.underlying125
  a46 := Tryz.isAgg125
  z46 := Tryz.sizeOf125
  v46 := Tryz.zeroValue125
  t53 := Tryz.underlying194
  a53 := Tryz.isAgg194
  z53 := Tryz.sizeOf194
  v53 := Tryz.zeroValue194
  t57 := Tryz.underlying198
  a57 := Tryz.isAgg198
  z57 := Tryz.sizeOf198
  v57 := Tryz.zeroValue198
  t63 := Tryz.underlying239
  a63 := Tryz.isAgg239
  z63 := Tryz.sizeOf239
  v63 := Tryz.zeroValue239
  t64 := Tryz.underlying30
  a64 := Tryz.isAgg30
  z64 := Tryz.sizeOf30
  v64 := Tryz.zeroValue30 }
end Go.Proofs

namespace Go.Proofs.YtcfdcianpicbmaaGreat
open Go.RowKit Go.Maps Go.Sort Go.Shelf
open Go (strKeys)
set_option linter.unusedVariables false
set_option linter.unusedSimpArgs false

/-- slices.Sort at this program. -/
theorem sorts_any (m : Nat) : AnyZ.SortsIn Tryz.prog Tryz.sortedL_ren Fence.wide m :=
  ⟨fun blk off cap ss W hH hblk hsz => callsIn_wide.2 (AnyM.slices_Sort_string Tryz.sortL blk off cap ss W hH hblk hsz),
   fun p cap W => callsIn_wide.2 (AnyM.slices_Sort_string_none Tryz.sortL p cap W)⟩

/-- maps.Keys. -/
theorem maps_keys (mb : Option Nat) (W : World) : Calls Tryz.prog 40 #[.map mb] W fun e w' => e = .returned (.func (.func 63) #[] #[.pointer (some ⟨W.heap.size, 0, none⟩)]) ∧ w' = W.alloc (.cells #[.map mb] 75) :=
  callsIn_wide.1 (AnyZ.keys_in Tryz.keysL Fence.wide 5 trivial rfl mb W)

set_option maxHeartbeats 1000000 in
/-- slices.Sorted at what maps.Keys handed back. -/
theorem sorted_keys {H : Type} (b nn : Nat) (D0 : DataW H) (R : Value → Option (DataW H × List MemPlace)) (w : World) (hown : w.ownsMap Tryz.prog 9 R b nn D0) (hmax : Maps.size D0 ≤ maxLen) (hbytes : Maps.size D0 * 16 ≤ 140737488355328) :
    Calls Tryz.prog 39 #[.func (.func 63) #[] #[.pointer (some ⟨w.heap.size, 0, none⟩)]] (w.alloc (.cells #[.map (some b)] 75)) fun e w' => ∃ (v : Value) (ss : List (List UInt8)), e = .returned v ∧ ss.Perm (strKeys D0) ∧
      w'.ownsRow (w.alloc (.cells #[.map (some b)] 75)).heap.size 9 1 v ss.length ((ss.mergeSort (fun x y => decide (x ≤ y))).map encStr) ∧ (v = .slice none 0 0 ↔ ss = []) ∧ Below (w.alloc (.cells #[.map (some b)] 75)).heap.size (w.alloc (.cells #[.map (some b)] 75)) w' := by
  have hbl := hown.lt
  have hseq : SeqGives Fence.wide 2 Tryz.prog 63 #[.pointer (some ⟨w.heap.size, 0, none⟩)] encStr (fun ss => ss.Perm (strKeys D0)) (Maps.size D0) (w.alloc (.cells #[.map (some b)] 75)) :=
    AnyZ.keys_gives (ρ := Tryz.keysL_ren) { Tryz.keysL with } Fence.wide _ trivial rfl (by omega) w.heap.size b nn D0 _ (by simp) (by simp) (by
      obtain ⟨es, clock, hb, Ft, hs, hD⟩ := hown
      exact ⟨es, clock, (Below.heap_alloc _ _ b hbl).trans hb, Ft, hs, hD⟩)
  exact callsIn_wide.1 (AnyZ.sorted_in Tryz.sortedL Fence.wide 5 trivial trivial trivial trivial rfl (by omega) (sorts_any _) (enters_of Tryz.func62 (by kernel_rfl) rfl) 63 #[.pointer (some ⟨w.heap.size, 0, none⟩)] trivial (enters_of Tryz.func63 (by kernel_rfl) rfl) _ _ hmax hbytes _ hseq)

theorem kept_take {l : List Value} {n : Nat} {c : Array Value} (h : c.toList.take (n * 1) = l) (j : Nat) (hj : j < l.length) : c[j]? = some (l.getD j undef) := by
  subst h
  have h1 : j < c.toList.length := by
    have := List.length_take_le (n * 1) c.toList
    have h2 : (c.toList.take (n * 1)).length ≤ c.toList.length := by rw [List.length_take]; omega
    omega
  rw [List.getD_eq_getElem?_getD, List.getElem?_take_of_lt (by rw [List.length_take] at hj; omega), List.getElem?_eq_getElem h1]
  simp

/-- What lies sorted in memory, read. -/
theorem keys_read {w : World} {B : Nat} {u : Value} {ss ks : List Key} (hp : ss.Perm ks) (hs : (ss.mergeSort fun x y => decide (x ≤ y)) = ks) (hk : ∀ k ∈ ks, k.length ≤ maxLen)
    (hrow : w.ownsRow B 9 1 u ss.length ((ss.mergeSort fun x y => decide (x ≤ y)).map encStr)) (hnil : u = .slice none 0 0 ↔ ss = []) : ∃ A c, u = .slice A ks.length c ∧ KeysAt w B A ks := by
  rw [hs] at hrow
  have hsl := hp.length_eq
  by_cases hz : ss = []
  · have hu := hnil.2 hz
    subst hu hz
    have : ks = [] := by simpa using hsl.symm
    subst this
    exact ⟨none, 0, rfl, fun h => absurd h (by simp)⟩
  · have hu : u ≠ .slice none 0 0 := fun e => hz (hnil.1 e)
    rcases hrow.2 with ⟨e, _⟩ | ⟨g, cap, cur, rfl, hg, hblk, hnc, hcm, hcs, htake⟩
    · exact absurd e hu
    · refine ⟨some ⟨g, 0, none⟩, cap, by rw [hsl], fun h0 => ⟨g, rfl, hg, fun j hj => ⟨?_, ?_⟩⟩⟩
      · rw [List.getD_eq_getElem?_getD, List.getElem?_eq_getElem hj]
        exact hk _ (List.getElem_mem hj)
      · have e1 := kept_take htake j (by simpa using hj)
        have e2 : w.cell? ⟨g, j, none⟩ = cur[j]? := cell_of_row w g j cur _ _ hblk
        rw [e2, e1, List.getD_eq_getElem?_getD, List.getElem?_map, List.getElem?_eq_getElem hj, List.getD_eq_getElem?_getD, List.getElem?_eq_getElem hj]
        rfl

set_option maxHeartbeats 1000000 in
theorem names_book {v mb : Nat} {b : Bk} (w : World) (h : BookAt w v mb b) (hlen : b.1.length ≤ 100) :
    Calls Tryz.prog 18 #[.pointer (some ⟨v, 0, none⟩)] w fun e w' => ∃ A c, e = .returned (.slice A b.1.length c) ∧ KeysAt w' w.heap.size A (b.1.map (·.1)) ∧ Below w.heap.size w w' := by
  have hlt := h.lt.1
  obtain ⟨c0, -⟩ := h.cells
  have hk : ∀ k ∈ b.1.map (·.1), k.length ≤ maxLen := fun k hk => by
    obtain ⟨x, hx, rfl⟩ := List.mem_map.1 hk
    exact own_keys h.own Tryz.underlying9 x hx
  have hr := own_rise h.own Tryz.underlying9
  have hso := sorted_keys mb b.1.length _ _ _ h.own (by rw [sD_size]; unfold maxLen; omega) (by rw [sD_size]; omega)
  rw [sD_keys] at hso
  simp only [World.size_alloc] at hso
  have HS := Go.Lib.hid hso
  have HK := Go.Lib.hid hk
  have HR := Go.Lib.hid hr
  clear hso hk hr h
  go_enter Tryz.func18, Tryz.ntmps18
  go_wp2_with fail
  refine (maps_keys _ _).mono ?_
  rintro e w' ⟨rfl, rfl⟩
  go_wp2_with fail
  refine (HS.out).mono ?_
  rintro e w1 ⟨u, ss, rfl, hp, hrow, hnil, hb⟩
  obtain ⟨A, c, rfl, hka⟩ := keys_read hp (HR.out.sorted hp) HK.out hrow hnil
  have HA := Go.Lib.hid hka
  have H2 := Go.Lib.hid hb
  clear hp hrow hnil hka hb HS
  go_wp2_with fail
  go_ret
  refine ⟨A, c, rfl, fun h0 => ?_, ?_⟩
  · obtain ⟨g, e, hg, hc⟩ := HA.out h0
    exact ⟨g, e, by omega, hc⟩
  · exact (bl_alloc (bl_refl _) _).trans (H2.out.mono (by omega))
end Go.Proofs.YtcfdcianpicbmaaGreat
