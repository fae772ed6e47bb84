/-
  What gcra.Do answers where the cost may be.
  What counter.changes answers.
  What counter.Do answers where the state may be.
  No condition.
-/
import Derived.Test.YtmhikkbdhboodaaGreatZz1
import Derived.LoopN
import Derived.WalkMore
set_option maxHeartbeats 8000000
set_option maxRecDepth 100000
namespace Go.Proofs.YtmhikkbdhboodaaGreat
open Go.RowKit
set_option linter.unusedVariables false
set_option linter.unusedSimpArgs false

theorem gdo_1 (p:Pol) (s:St) (a:Option Addr) (c:Nat) (anow acost:Int) (A:St) (w:World) (h:rightG p s) (hc1:1≤acost) (hc2:acost≤p.burst) (hA:A=advG p s anow) (bad:Bool) (hbad:bad=true↔(A.held<0∨p.burst*p.period<A.level+acost*p.period)) :
    Calls Tryz.prog 100 #[p.v,s.v a 0 c,.agg #[.int .i64 1,.int .i64 anow,.int .i64 acost]] w fun e w' =>
      e=.returned (.tuple #[if bad then s.v a 0 c else .agg #[.int .i64 A.at_,.int .i64 (A.level+acost*p.period),.int .i64 (A.held),.slice none 0 0],.bool (!bad)])∧Below w.heap.size w w':=by
  have hlg:=h.2.2.2.2.2.2.2
  have hrt:=gright_any p s a 0 c (by rw[hlg];rfl)
  have hav:=gadv_any p s a 0 c anow (by rw[hlg];rfl)
  rw[decide_eq_true h] at hrt
  have hin:=in_any acost 1 p.burst
  rw[inB_iff.2 ⟨hc1,hc2⟩] at hin
  have hok:=h.1
  have hlv:=advG_level p s anow h
  have hhd:=advG_held p s anow h
  have hr3:=h.2.2.2.1
  have hr4:=h.2.2.2.2.1
  rw[← hA] at hav hlv hhd
  clear h hA
  obtain⟨k,l,d,b,cc,o⟩:=p
  obtain⟨at_,level,held,lg⟩:=s
  obtain⟨aat,alv,ahd,alg⟩:=A
  unfold St.v Pol.v at *
  dsimp only at *
  obtain⟨z0,z1,z2,z3,z4,z5,z6,z7⟩:=hok
  dsimp only at *
  have hM:acost*d≤1152921504606846976:=prod_le (by omega) (by omega) (by omega)
  have hM0:0≤acost*d:=Int.mul_nonneg (by omega) (by omega)
  have hw1:IntKind.i64.wrap (acost*d)=acost*d:=IntWalk.i64_in _ (by omega)
  have hwb:IntKind.i64.wrap (b*d)=b*d:=IntWalk.i64_in _ (by omega)
  have hw2:IntKind.i64.wrap (alv+acost*d)=alv+acost*d:=IntWalk.i64_in _ (by omega)
  have HRT:=Go.Lib.hid hrt
  have HAV:=Go.Lib.hid hav
  have HIN:=Go.Lib.hid hin
  have hcase:(bad=true∧ahd<0)∨(bad=true∧¬ ahd<0∧b*d<alv+acost*d)∨(bad=false∧¬ ahd<0∧¬ b*d<alv+acost*d):=by
    cases bad
    · simp at hbad
      exact .inr (.inr ⟨rfl,by omega,by omega⟩)
    · simp at hbad
      rcases hbad with hx|hx
      · exact .inl ⟨rfl,hx⟩
      · by_cases hy:ahd<0
        · exact .inl ⟨rfl,hy⟩
        · exact .inr (.inl ⟨rfl,hy,hx⟩)
  have HCS:=Go.Lib.hid hcase
  clear hbad hcase
  clear hrt hav hin hlv hhd hM hM0 z0 z1 z2 z3 z4 z5 z6 z7 hr3 hr4 hc1 hc2
  go_enter Tryz.func100,Tryz.ntmps100
  go_wp2_with fail
  refine(HRT.out _).mono ?_
  rintro e w1 ⟨rfl,hb⟩
  have hB:Below w.heap.size w w1:=bl_then k4 hb
  obtain⟨c0,c1,c2,c3,c4,c5⟩:=b6 (w.heap.size) k l d b cc o hb
  have c6:=bl_cell (v:=.int .i64 at_) hb (show World.cell? _ ⟨w.heap.size+1,0,none⟩=_ by go_simp)
  have c7:=bl_cell (v:=.int .i64 level) hb (show World.cell? _ ⟨w.heap.size+1,1,none⟩=_ by go_simp)
  have c8:=bl_cell (v:=.int .i64 held) hb (show World.cell? _ ⟨w.heap.size+1,2,none⟩=_ by go_simp)
  have c9:=bl_cell (v:=.slice a 0 c) hb (show World.cell? _ ⟨w.heap.size+1,3,none⟩=_ by go_simp)
  obtain⟨c10,c11,c12⟩:=b3 (w.heap.size+1+1) 1 anow acost hb
  have hR:ResB w1 (w.heap.size+1+1+1):=res_bl (res_new _ _ _ _ _ _ (by simp)) hb
  clear hb HRT
  go_wp2_with fail
  refine(HIN.out _).mono ?_
  rintro e w2 ⟨rfl,rfl⟩
  clear HIN
  go_wp2_with fail
  refine wp_region_held_drew (S:=fun w'=>P6 w' (w.heap.size) k l d b cc o (S4 w' (w.heap.size+1) at_ level held a 0 c (X3 w' (w.heap.size+1+1) 1 anow acost (ResB w' (w.heap.size+1+1+1)∧Below w.heap.size w w')))) (by kernel_rfl) ?_ (fun hHeld=>?_)
  · exact⟨c0,c1,c2,c3,c4,c5,c6,c7,c8,c9,c10,c11,c12,hR,bl_drew hB⟩
  try simp only[Act.put,List.setIfInBounds_toArray,List.set_cons_zero,List.set_cons_succ]
  refine wpAnyH_abs (F:=fun _=>True) hHeld trivial (fun W3 hHeld _=>?_)
  clear hR hB c0 c1 c2 c3 c4 c5 c6 c7 c8 c9 c10 c11 c12
  refine tkx 0 ?_
  refine tkx 1 ?_
  refine tkx 2 ?_
  refine tkx 3 ?_
  refine tkx 5 ?_
  refine tkx 6 ?_
  refine tkx 7 ?_
  refine tkx 8 ?_
  refine tkx 9 ?_
  refine callC2 (i:=4) (j:=10) rfl rfl (fun K hK=>?_) (fun K hK=>?_)
  · go_simp
    refine(HAV.out _).mono ?_
    rintro e w5 ⟨rfl,hb⟩
    go_wp2_with fail
    refine hK.out _ _ ?_ (fun hHeld'=>?_)
    · (try dsimp only)
      (obtain⟨h0,h1,h2,h3,h4,h5,h6,h7,h8,h9,h10,h11,h12,hr',hB'⟩:=hHeld;exact⟨bl_cell hb h0,bl_cell hb h1,bl_cell hb h2,bl_cell hb h3,bl_cell hb h4,bl_cell hb h5,bl_cell hb h6,bl_cell hb h7,bl_cell hb h8,bl_cell hb h9,bl_cell hb h10,bl_cell hb h11,bl_cell hb h12,res_bl hr' hb,bl_then hB' hb⟩)
    clear hHeld hK K
    rename _=>hHeld
    clear hb
    try simp only[Act.put,List.setIfInBounds_toArray,List.set_cons_zero,List.set_cons_succ]
    refine callC (i:=10) rfl (fun K hK=>?_)
    have hlt:w.heap.size+1+1+1<w5.heap.size:=by(obtain⟨h0,h1,h2,h3,h4,h5,h6,h7,h8,h9,h10,h11,h12,hr',hB'⟩:=hHeld;exact res_lt hr')
    go_simp
    refine hK.out _ _ ?_ (fun hHeld'=>?_)
    · (try dsimp only)
      (obtain⟨h0,h1,h2,h3,h4,h5,h6,h7,h8,h9,h10,h11,h12,hr',hB'⟩:=hHeld;exact⟨bl_cell k1 h0,bl_cell k1 h1,bl_cell k1 h2,bl_cell k1 h3,bl_cell k1 h4,bl_cell k1 h5,bl_cell k1 h6,bl_cell k1 h7,bl_cell k1 h8,bl_cell k1 h9,bl_cell k1 h10,bl_cell k1 h11,bl_cell k1 h12,res_bl hr' k1,bl_alloc hB' _⟩)
    clear hHeld hK K
    rename _=>hHeld
    try simp only[Act.put,List.setIfInBounds_toArray,List.set_cons_zero,List.set_cons_succ]
    refine wpAnyH_abs (F:=fun X=>ResB X w5.heap.size) hHeld (res_new _ _ _ _ _ _ rfl) (fun w6 hHeld hN=>?_)
    generalize w5.heap.size=nb at *
    refine callC (i:=11) rfl (fun K hK=>?_)
    obtain⟨h0,h1,h2,h3,h4,h5,h6,h7,h8,h9,h10,h11,h12,hr',hB'⟩:=hHeld
    obtain⟨f0,f1,f2,f3,u0,u1,u2,u3,i0,i1,i2,i3⟩:=res_all hN
    clear hHeld
    have hHeld:True:=trivial
    go_simp
    refine hK.out _ _ ?_ (fun hHeld'=>?_)
    · (try dsimp only)
      (have e0:nb≠w.heap.size:=(by omega);have e1:nb≠w.heap.size+1:=(by omega);have e2:nb≠w.heap.size+1+1:=(by omega);exact⟨far4 h0 e0,far4 h1 e0,far4 h2 e0,far4 h3 e0,far4 h4 e0,far4 h5 e0,far4 h6 e1,far4 h7 e1,far4 h8 e1,far4 h9 e1,far4 h10 e2,far4 h11 e2,far4 h12 e2,res4 hr',bl4 hB' (by omega)⟩)
    clear hHeld hK K
    rename _=>hHeld
    try simp only[Act.put,List.setIfInBounds_toArray,List.set_cons_zero,List.set_cons_succ]
    refine tkx 12 ?_
    refine wpAnyH_done (by kernel_rfl) ?_ _
    clear hr' hB'
    obtain⟨k0,k1,k2,k3,k4,k5,k6,k7,k8,k9,k10,k11,k12,hr'',hE⟩:=hHeld
    refine then_abs (F:=fun X=>(X3 X nb aat alv ahd (X.cell? ⟨nb,3,none⟩=some (.slice none 0 0)))∧P6 X (w.heap.size) k l d b cc o (S4 X (w.heap.size+1) at_ level held a 0 c (X3 X (w.heap.size+1+1) 1 anow acost (ResB X nb∧ResB X (w.heap.size+1+1+1)∧Below w.heap.size w X)))) ⟨set4 _ _ _ _ i0 i1 i2 i3,k0,k1,k2,k3,k4,k5,k6,k7,k8,k9,k10,k11,k12,res4 hN,hr'',hE⟩ ?_
    clear hN hr'' hE i0 i1 i2 i3 f0 f1 f2 f3 u0 u1 u2 u3 HAV k0 k1 k2 k3 k4 k5 k6 k7 k8 k9 k10 k11 k12 h0 h1 h2 h3 h4 h5 h6 h7 h8 h9 h10 h11 h12
    rintro X ⟨⟨x0,x1,x2,x3⟩,c0,c1,c2,c3,c4,c5,c6,c7,c8,c9,c10,c11,c12,hN,hR,hE⟩
    obtain⟨F0,F1,F2,F3,U0,U1,U2,U3,I0,I1,I2,I3⟩:=res_all hR
    have hz1:=(hN 1 (by omega)).1
    have hz2:=(hN 2 (by omega)).1
    have n0:¬ nb=w.heap.size:=by omega
    have m0:¬ w.heap.size=nb:=by omega
    have n1:¬ nb=w.heap.size+1:=by omega
    have m1:¬ w.heap.size+1=nb:=by omega
    have n2:¬ nb=w.heap.size+1+1:=by omega
    have m2:¬ w.heap.size+1+1=nb:=by omega
    have n3:¬ nb=w.heap.size+1+1+1:=by omega
    have m3:¬ w.heap.size+1+1+1=nb:=by omega
    rcases HCS.out with⟨rfl,e1⟩|⟨rfl,e1,e2⟩|⟨rfl,e1,e2⟩
    all_goals
      clear HCS
      repeat' (first|go_skip|go_guarded|go_step|go_upon)
      (try simp only[Exit.inBlock,Exit.then])
      refine bodyPost_ret (results_state2 rfl _ _ (by rfl) (set4r (res_set hR _ _))) rfl ⟨by first|rfl|simp,bl4 (bl_set hE (by dsimp only;omega) _) (by omega)⟩
  · have hlt:w.heap.size+1+1+1<W3.heap.size:=by(obtain⟨h0,h1,h2,h3,h4,h5,h6,h7,h8,h9,h10,h11,h12,hr',hB'⟩:=hHeld;exact res_lt hr')
    go_simp
    refine hK.out _ _ ?_ (fun hHeld'=>?_)
    · (try dsimp only)
      (obtain⟨h0,h1,h2,h3,h4,h5,h6,h7,h8,h9,h10,h11,h12,hr',hB'⟩:=hHeld;exact⟨bl_cell k1 h0,bl_cell k1 h1,bl_cell k1 h2,bl_cell k1 h3,bl_cell k1 h4,bl_cell k1 h5,bl_cell k1 h6,bl_cell k1 h7,bl_cell k1 h8,bl_cell k1 h9,bl_cell k1 h10,bl_cell k1 h11,bl_cell k1 h12,res_bl hr' k1,bl_alloc hB' _⟩)
    clear hHeld hK K
    rename _=>hHeld
    try simp only[Act.put,List.setIfInBounds_toArray,List.set_cons_zero,List.set_cons_succ]
    refine wpAnyH_abs (F:=fun X=>ResB X W3.heap.size) hHeld (res_new _ _ _ _ _ _ rfl) (fun w4 hHeld hN=>?_)
    generalize W3.heap.size=nb at *
    refine callC (i:=4) rfl (fun K hK=>?_)
    go_simp
    refine(HAV.out _).mono ?_
    rintro e w6 ⟨rfl,hb⟩
    go_wp2_with fail
    refine hK.out _ _ ?_ (fun hHeld'=>?_)
    · (try dsimp only)
      (obtain⟨h0,h1,h2,h3,h4,h5,h6,h7,h8,h9,h10,h11,h12,hr',hB'⟩:=hHeld;exact⟨bl_cell hb h0,bl_cell hb h1,bl_cell hb h2,bl_cell hb h3,bl_cell hb h4,bl_cell hb h5,bl_cell hb h6,bl_cell hb h7,bl_cell hb h8,bl_cell hb h9,bl_cell hb h10,bl_cell hb h11,bl_cell hb h12,res_bl hr' hb,bl_then hB' hb⟩)
    clear hHeld hK K
    rename _=>hHeld
    replace hN:=res_bl hN hb
    clear hb
    try simp only[Act.put,List.setIfInBounds_toArray,List.set_cons_zero,List.set_cons_succ]
    refine callC (i:=11) rfl (fun K hK=>?_)
    obtain⟨h0,h1,h2,h3,h4,h5,h6,h7,h8,h9,h10,h11,h12,hr',hB'⟩:=hHeld
    obtain⟨f0,f1,f2,f3,u0,u1,u2,u3,i0,i1,i2,i3⟩:=res_all hN
    clear hHeld
    have hHeld:True:=trivial
    go_simp
    refine hK.out _ _ ?_ (fun hHeld'=>?_)
    · (try dsimp only)
      (have e0:nb≠w.heap.size:=(by omega);have e1:nb≠w.heap.size+1:=(by omega);have e2:nb≠w.heap.size+1+1:=(by omega);exact⟨far4 h0 e0,far4 h1 e0,far4 h2 e0,far4 h3 e0,far4 h4 e0,far4 h5 e0,far4 h6 e1,far4 h7 e1,far4 h8 e1,far4 h9 e1,far4 h10 e2,far4 h11 e2,far4 h12 e2,res4 hr',bl4 hB' (by omega)⟩)
    clear hHeld hK K
    rename _=>hHeld
    try simp only[Act.put,List.setIfInBounds_toArray,List.set_cons_zero,List.set_cons_succ]
    refine tkx 12 ?_
    refine wpAnyH_done (by kernel_rfl) ?_ _
    clear hr' hB'
    obtain⟨k0,k1,k2,k3,k4,k5,k6,k7,k8,k9,k10,k11,k12,hr'',hE⟩:=hHeld
    refine then_abs (F:=fun X=>(X3 X nb aat alv ahd (X.cell? ⟨nb,3,none⟩=some (.slice none 0 0)))∧P6 X (w.heap.size) k l d b cc o (S4 X (w.heap.size+1) at_ level held a 0 c (X3 X (w.heap.size+1+1) 1 anow acost (ResB X nb∧ResB X (w.heap.size+1+1+1)∧Below w.heap.size w X)))) ⟨set4 _ _ _ _ i0 i1 i2 i3,k0,k1,k2,k3,k4,k5,k6,k7,k8,k9,k10,k11,k12,res4 hN,hr'',hE⟩ ?_
    clear hN hr'' hE i0 i1 i2 i3 f0 f1 f2 f3 u0 u1 u2 u3 HAV k0 k1 k2 k3 k4 k5 k6 k7 k8 k9 k10 k11 k12 h0 h1 h2 h3 h4 h5 h6 h7 h8 h9 h10 h11 h12
    rintro X ⟨⟨x0,x1,x2,x3⟩,c0,c1,c2,c3,c4,c5,c6,c7,c8,c9,c10,c11,c12,hN,hR,hE⟩
    obtain⟨F0,F1,F2,F3,U0,U1,U2,U3,I0,I1,I2,I3⟩:=res_all hR
    have hz1:=(hN 1 (by omega)).1
    have hz2:=(hN 2 (by omega)).1
    have n0:¬ nb=w.heap.size:=by omega
    have m0:¬ w.heap.size=nb:=by omega
    have n1:¬ nb=w.heap.size+1:=by omega
    have m1:¬ w.heap.size+1=nb:=by omega
    have n2:¬ nb=w.heap.size+1+1:=by omega
    have m2:¬ w.heap.size+1+1=nb:=by omega
    have n3:¬ nb=w.heap.size+1+1+1:=by omega
    have m3:¬ w.heap.size+1+1+1=nb:=by omega
    rcases HCS.out with⟨rfl,e1⟩|⟨rfl,e1,e2⟩|⟨rfl,e1,e2⟩
    all_goals
      clear HCS
      repeat' (first|go_skip|go_guarded|go_step|go_upon)
      (try simp only[Exit.inBlock,Exit.then])
      refine bodyPost_ret (results_state2 rfl _ _ (by rfl) (set4r (res_set hR _ _))) rfl ⟨by first|rfl|simp,bl4 (bl_set hE (by dsimp only;omega) _) (by omega)⟩

theorem gdo_2 (p:Pol) (s:St) (a:Option Addr) (c:Nat) (anow acost:Int) (A:St) (w:World) (h:rightG p s) (hc1:1≤acost) (hc2:acost≤p.burst) (hA:A=advG p s anow) (bad:Bool) (hbad:bad=true↔(A.held+acost<0∨p.burst*p.period<A.level+acost*p.period)) :
    Calls Tryz.prog 100 #[p.v,s.v a 0 c,.agg #[.int .i64 2,.int .i64 anow,.int .i64 acost]] w fun e w' =>
      e=.returned (.tuple #[if bad then s.v a 0 c else .agg #[.int .i64 A.at_,.int .i64 (A.level+acost*p.period),.int .i64 (A.held+acost),.slice none 0 0],.bool (!bad)])∧Below w.heap.size w w':=by
  have hlg:=h.2.2.2.2.2.2.2
  have hrt:=gright_any p s a 0 c (by rw[hlg];rfl)
  have hav:=gadv_any p s a 0 c anow (by rw[hlg];rfl)
  rw[decide_eq_true h] at hrt
  have hin:=in_any acost 1 p.burst
  rw[inB_iff.2 ⟨hc1,hc2⟩] at hin
  have hok:=h.1
  have hlv:=advG_level p s anow h
  have hhd:=advG_held p s anow h
  have hr3:=h.2.2.2.1
  have hr4:=h.2.2.2.2.1
  rw[← hA] at hav hlv hhd
  clear h hA
  obtain⟨k,l,d,b,cc,o⟩:=p
  obtain⟨at_,level,held,lg⟩:=s
  obtain⟨aat,alv,ahd,alg⟩:=A
  unfold St.v Pol.v at *
  dsimp only at *
  obtain⟨z0,z1,z2,z3,z4,z5,z6,z7⟩:=hok
  dsimp only at *
  have hM:acost*d≤1152921504606846976:=prod_le (by omega) (by omega) (by omega)
  have hM0:0≤acost*d:=Int.mul_nonneg (by omega) (by omega)
  have hw1:IntKind.i64.wrap (acost*d)=acost*d:=IntWalk.i64_in _ (by omega)
  have hwb:IntKind.i64.wrap (b*d)=b*d:=IntWalk.i64_in _ (by omega)
  have hw2:IntKind.i64.wrap (alv+acost*d)=alv+acost*d:=IntWalk.i64_in _ (by omega)
  have hw0:IntKind.i64.wrap (ahd+acost)=ahd+acost:=IntWalk.i64_in _ (by omega)
  have HRT:=Go.Lib.hid hrt
  have HAV:=Go.Lib.hid hav
  have HIN:=Go.Lib.hid hin
  have hcase:(bad=true∧ahd+acost<0)∨(bad=true∧¬ ahd+acost<0∧b*d<alv+acost*d)∨(bad=false∧¬ ahd+acost<0∧¬ b*d<alv+acost*d):=by
    cases bad
    · simp at hbad
      exact .inr (.inr ⟨rfl,by omega,by omega⟩)
    · simp at hbad
      rcases hbad with hx|hx
      · exact .inl ⟨rfl,hx⟩
      · by_cases hy:ahd+acost<0
        · exact .inl ⟨rfl,hy⟩
        · exact .inr (.inl ⟨rfl,hy,hx⟩)
  have HCS:=Go.Lib.hid hcase
  clear hbad hcase
  clear hrt hav hin hlv hhd hM hM0 z0 z1 z2 z3 z4 z5 z6 z7 hr3 hr4 hc1 hc2
  go_enter Tryz.func100,Tryz.ntmps100
  go_wp2_with fail
  refine(HRT.out _).mono ?_
  rintro e w1 ⟨rfl,hb⟩
  have hB:Below w.heap.size w w1:=bl_then k4 hb
  obtain⟨c0,c1,c2,c3,c4,c5⟩:=b6 (w.heap.size) k l d b cc o hb
  have c6:=bl_cell (v:=.int .i64 at_) hb (show World.cell? _ ⟨w.heap.size+1,0,none⟩=_ by go_simp)
  have c7:=bl_cell (v:=.int .i64 level) hb (show World.cell? _ ⟨w.heap.size+1,1,none⟩=_ by go_simp)
  have c8:=bl_cell (v:=.int .i64 held) hb (show World.cell? _ ⟨w.heap.size+1,2,none⟩=_ by go_simp)
  have c9:=bl_cell (v:=.slice a 0 c) hb (show World.cell? _ ⟨w.heap.size+1,3,none⟩=_ by go_simp)
  obtain⟨c10,c11,c12⟩:=b3 (w.heap.size+1+1) 2 anow acost hb
  have hR:ResB w1 (w.heap.size+1+1+1):=res_bl (res_new _ _ _ _ _ _ (by simp)) hb
  clear hb HRT
  go_wp2_with fail
  refine(HIN.out _).mono ?_
  rintro e w2 ⟨rfl,rfl⟩
  clear HIN
  go_wp2_with fail
  refine wp_region_held_drew (S:=fun w'=>P6 w' (w.heap.size) k l d b cc o (S4 w' (w.heap.size+1) at_ level held a 0 c (X3 w' (w.heap.size+1+1) 2 anow acost (ResB w' (w.heap.size+1+1+1)∧Below w.heap.size w w')))) (by kernel_rfl) ?_ (fun hHeld=>?_)
  · exact⟨c0,c1,c2,c3,c4,c5,c6,c7,c8,c9,c10,c11,c12,hR,bl_drew hB⟩
  try simp only[Act.put,List.setIfInBounds_toArray,List.set_cons_zero,List.set_cons_succ]
  refine wpAnyH_abs (F:=fun _=>True) hHeld trivial (fun W3 hHeld _=>?_)
  clear hR hB c0 c1 c2 c3 c4 c5 c6 c7 c8 c9 c10 c11 c12
  refine tkx 0 ?_
  refine tkx 1 ?_
  refine tkx 2 ?_
  refine tkx 3 ?_
  refine tkx 5 ?_
  refine tkx 6 ?_
  refine tkx 7 ?_
  refine tkx 8 ?_
  refine tkx 9 ?_
  refine callC2 (i:=4) (j:=10) rfl rfl (fun K hK=>?_) (fun K hK=>?_)
  · go_simp
    refine(HAV.out _).mono ?_
    rintro e w5 ⟨rfl,hb⟩
    go_wp2_with fail
    refine hK.out _ _ ?_ (fun hHeld'=>?_)
    · (try dsimp only)
      (obtain⟨h0,h1,h2,h3,h4,h5,h6,h7,h8,h9,h10,h11,h12,hr',hB'⟩:=hHeld;exact⟨bl_cell hb h0,bl_cell hb h1,bl_cell hb h2,bl_cell hb h3,bl_cell hb h4,bl_cell hb h5,bl_cell hb h6,bl_cell hb h7,bl_cell hb h8,bl_cell hb h9,bl_cell hb h10,bl_cell hb h11,bl_cell hb h12,res_bl hr' hb,bl_then hB' hb⟩)
    clear hHeld hK K
    rename _=>hHeld
    clear hb
    try simp only[Act.put,List.setIfInBounds_toArray,List.set_cons_zero,List.set_cons_succ]
    refine callC (i:=10) rfl (fun K hK=>?_)
    have hlt:w.heap.size+1+1+1<w5.heap.size:=by(obtain⟨h0,h1,h2,h3,h4,h5,h6,h7,h8,h9,h10,h11,h12,hr',hB'⟩:=hHeld;exact res_lt hr')
    go_simp
    refine hK.out _ _ ?_ (fun hHeld'=>?_)
    · (try dsimp only)
      (obtain⟨h0,h1,h2,h3,h4,h5,h6,h7,h8,h9,h10,h11,h12,hr',hB'⟩:=hHeld;exact⟨bl_cell k1 h0,bl_cell k1 h1,bl_cell k1 h2,bl_cell k1 h3,bl_cell k1 h4,bl_cell k1 h5,bl_cell k1 h6,bl_cell k1 h7,bl_cell k1 h8,bl_cell k1 h9,bl_cell k1 h10,bl_cell k1 h11,bl_cell k1 h12,res_bl hr' k1,bl_alloc hB' _⟩)
    clear hHeld hK K
    rename _=>hHeld
    try simp only[Act.put,List.setIfInBounds_toArray,List.set_cons_zero,List.set_cons_succ]
    refine wpAnyH_abs (F:=fun X=>ResB X w5.heap.size) hHeld (res_new _ _ _ _ _ _ rfl) (fun w6 hHeld hN=>?_)
    generalize w5.heap.size=nb at *
    refine callC (i:=11) rfl (fun K hK=>?_)
    obtain⟨h0,h1,h2,h3,h4,h5,h6,h7,h8,h9,h10,h11,h12,hr',hB'⟩:=hHeld
    obtain⟨f0,f1,f2,f3,u0,u1,u2,u3,i0,i1,i2,i3⟩:=res_all hN
    clear hHeld
    have hHeld:True:=trivial
    go_simp
    refine hK.out _ _ ?_ (fun hHeld'=>?_)
    · (try dsimp only)
      (have e0:nb≠w.heap.size:=(by omega);have e1:nb≠w.heap.size+1:=(by omega);have e2:nb≠w.heap.size+1+1:=(by omega);exact⟨far4 h0 e0,far4 h1 e0,far4 h2 e0,far4 h3 e0,far4 h4 e0,far4 h5 e0,far4 h6 e1,far4 h7 e1,far4 h8 e1,far4 h9 e1,far4 h10 e2,far4 h11 e2,far4 h12 e2,res4 hr',bl4 hB' (by omega)⟩)
    clear hHeld hK K
    rename _=>hHeld
    try simp only[Act.put,List.setIfInBounds_toArray,List.set_cons_zero,List.set_cons_succ]
    refine tkx 12 ?_
    refine wpAnyH_done (by kernel_rfl) ?_ _
    clear hr' hB'
    obtain⟨k0,k1,k2,k3,k4,k5,k6,k7,k8,k9,k10,k11,k12,hr'',hE⟩:=hHeld
    refine then_abs (F:=fun X=>(X3 X nb aat alv ahd (X.cell? ⟨nb,3,none⟩=some (.slice none 0 0)))∧P6 X (w.heap.size) k l d b cc o (S4 X (w.heap.size+1) at_ level held a 0 c (X3 X (w.heap.size+1+1) 2 anow acost (ResB X nb∧ResB X (w.heap.size+1+1+1)∧Below w.heap.size w X)))) ⟨set4 _ _ _ _ i0 i1 i2 i3,k0,k1,k2,k3,k4,k5,k6,k7,k8,k9,k10,k11,k12,res4 hN,hr'',hE⟩ ?_
    clear hN hr'' hE i0 i1 i2 i3 f0 f1 f2 f3 u0 u1 u2 u3 HAV k0 k1 k2 k3 k4 k5 k6 k7 k8 k9 k10 k11 k12 h0 h1 h2 h3 h4 h5 h6 h7 h8 h9 h10 h11 h12
    rintro X ⟨⟨x0,x1,x2,x3⟩,c0,c1,c2,c3,c4,c5,c6,c7,c8,c9,c10,c11,c12,hN,hR,hE⟩
    obtain⟨F0,F1,F2,F3,U0,U1,U2,U3,I0,I1,I2,I3⟩:=res_all hR
    have hz1:=(hN 1 (by omega)).1
    have hz2:=(hN 2 (by omega)).1
    have n0:¬ nb=w.heap.size:=by omega
    have m0:¬ w.heap.size=nb:=by omega
    have n1:¬ nb=w.heap.size+1:=by omega
    have m1:¬ w.heap.size+1=nb:=by omega
    have n2:¬ nb=w.heap.size+1+1:=by omega
    have m2:¬ w.heap.size+1+1=nb:=by omega
    have n3:¬ nb=w.heap.size+1+1+1:=by omega
    have m3:¬ w.heap.size+1+1+1=nb:=by omega
    rcases HCS.out with⟨rfl,e1⟩|⟨rfl,e1,e2⟩|⟨rfl,e1,e2⟩
    all_goals
      clear HCS
      repeat' (first|go_skip|go_guarded|go_step|go_upon)
      (try simp only[Exit.inBlock,Exit.then])
      refine bodyPost_ret (results_state2 rfl _ _ (by rfl) (set4r (res_set (res_set hR _ _) _ _))) rfl ⟨by first|rfl|simp,bl4 (bl_set (bl_set hE (by dsimp only;omega) _) (by dsimp only;omega) _) (by omega)⟩
  · have hlt:w.heap.size+1+1+1<W3.heap.size:=by(obtain⟨h0,h1,h2,h3,h4,h5,h6,h7,h8,h9,h10,h11,h12,hr',hB'⟩:=hHeld;exact res_lt hr')
    go_simp
    refine hK.out _ _ ?_ (fun hHeld'=>?_)
    · (try dsimp only)
      (obtain⟨h0,h1,h2,h3,h4,h5,h6,h7,h8,h9,h10,h11,h12,hr',hB'⟩:=hHeld;exact⟨bl_cell k1 h0,bl_cell k1 h1,bl_cell k1 h2,bl_cell k1 h3,bl_cell k1 h4,bl_cell k1 h5,bl_cell k1 h6,bl_cell k1 h7,bl_cell k1 h8,bl_cell k1 h9,bl_cell k1 h10,bl_cell k1 h11,bl_cell k1 h12,res_bl hr' k1,bl_alloc hB' _⟩)
    clear hHeld hK K
    rename _=>hHeld
    try simp only[Act.put,List.setIfInBounds_toArray,List.set_cons_zero,List.set_cons_succ]
    refine wpAnyH_abs (F:=fun X=>ResB X W3.heap.size) hHeld (res_new _ _ _ _ _ _ rfl) (fun w4 hHeld hN=>?_)
    generalize W3.heap.size=nb at *
    refine callC (i:=4) rfl (fun K hK=>?_)
    go_simp
    refine(HAV.out _).mono ?_
    rintro e w6 ⟨rfl,hb⟩
    go_wp2_with fail
    refine hK.out _ _ ?_ (fun hHeld'=>?_)
    · (try dsimp only)
      (obtain⟨h0,h1,h2,h3,h4,h5,h6,h7,h8,h9,h10,h11,h12,hr',hB'⟩:=hHeld;exact⟨bl_cell hb h0,bl_cell hb h1,bl_cell hb h2,bl_cell hb h3,bl_cell hb h4,bl_cell hb h5,bl_cell hb h6,bl_cell hb h7,bl_cell hb h8,bl_cell hb h9,bl_cell hb h10,bl_cell hb h11,bl_cell hb h12,res_bl hr' hb,bl_then hB' hb⟩)
    clear hHeld hK K
    rename _=>hHeld
    replace hN:=res_bl hN hb
    clear hb
    try simp only[Act.put,List.setIfInBounds_toArray,List.set_cons_zero,List.set_cons_succ]
    refine callC (i:=11) rfl (fun K hK=>?_)
    obtain⟨h0,h1,h2,h3,h4,h5,h6,h7,h8,h9,h10,h11,h12,hr',hB'⟩:=hHeld
    obtain⟨f0,f1,f2,f3,u0,u1,u2,u3,i0,i1,i2,i3⟩:=res_all hN
    clear hHeld
    have hHeld:True:=trivial
    go_simp
    refine hK.out _ _ ?_ (fun hHeld'=>?_)
    · (try dsimp only)
      (have e0:nb≠w.heap.size:=(by omega);have e1:nb≠w.heap.size+1:=(by omega);have e2:nb≠w.heap.size+1+1:=(by omega);exact⟨far4 h0 e0,far4 h1 e0,far4 h2 e0,far4 h3 e0,far4 h4 e0,far4 h5 e0,far4 h6 e1,far4 h7 e1,far4 h8 e1,far4 h9 e1,far4 h10 e2,far4 h11 e2,far4 h12 e2,res4 hr',bl4 hB' (by omega)⟩)
    clear hHeld hK K
    rename _=>hHeld
    try simp only[Act.put,List.setIfInBounds_toArray,List.set_cons_zero,List.set_cons_succ]
    refine tkx 12 ?_
    refine wpAnyH_done (by kernel_rfl) ?_ _
    clear hr' hB'
    obtain⟨k0,k1,k2,k3,k4,k5,k6,k7,k8,k9,k10,k11,k12,hr'',hE⟩:=hHeld
    refine then_abs (F:=fun X=>(X3 X nb aat alv ahd (X.cell? ⟨nb,3,none⟩=some (.slice none 0 0)))∧P6 X (w.heap.size) k l d b cc o (S4 X (w.heap.size+1) at_ level held a 0 c (X3 X (w.heap.size+1+1) 2 anow acost (ResB X nb∧ResB X (w.heap.size+1+1+1)∧Below w.heap.size w X)))) ⟨set4 _ _ _ _ i0 i1 i2 i3,k0,k1,k2,k3,k4,k5,k6,k7,k8,k9,k10,k11,k12,res4 hN,hr'',hE⟩ ?_
    clear hN hr'' hE i0 i1 i2 i3 f0 f1 f2 f3 u0 u1 u2 u3 HAV k0 k1 k2 k3 k4 k5 k6 k7 k8 k9 k10 k11 k12 h0 h1 h2 h3 h4 h5 h6 h7 h8 h9 h10 h11 h12
    rintro X ⟨⟨x0,x1,x2,x3⟩,c0,c1,c2,c3,c4,c5,c6,c7,c8,c9,c10,c11,c12,hN,hR,hE⟩
    obtain⟨F0,F1,F2,F3,U0,U1,U2,U3,I0,I1,I2,I3⟩:=res_all hR
    have hz1:=(hN 1 (by omega)).1
    have hz2:=(hN 2 (by omega)).1
    have n0:¬ nb=w.heap.size:=by omega
    have m0:¬ w.heap.size=nb:=by omega
    have n1:¬ nb=w.heap.size+1:=by omega
    have m1:¬ w.heap.size+1=nb:=by omega
    have n2:¬ nb=w.heap.size+1+1:=by omega
    have m2:¬ w.heap.size+1+1=nb:=by omega
    have n3:¬ nb=w.heap.size+1+1+1:=by omega
    have m3:¬ w.heap.size+1+1+1=nb:=by omega
    rcases HCS.out with⟨rfl,e1⟩|⟨rfl,e1,e2⟩|⟨rfl,e1,e2⟩
    all_goals
      clear HCS
      repeat' (first|go_skip|go_guarded|go_step|go_upon)
      (try simp only[Exit.inBlock,Exit.then])
      refine bodyPost_ret (results_state2 rfl _ _ (by rfl) (set4r (res_set (res_set hR _ _) _ _))) rfl ⟨by first|rfl|simp,bl4 (bl_set (bl_set hE (by dsimp only;omega) _) (by dsimp only;omega) _) (by omega)⟩

theorem gdo_3 (p:Pol) (s:St) (a:Option Addr) (c:Nat) (anow acost:Int) (A:St) (w:World) (h:rightG p s) (hc1:1≤acost) (hc2:acost≤p.burst) (hA:A=advG p s anow) (bad:Bool) (hbad:bad=true↔(A.held - acost<0∨p.burst*p.period<A.level - acost*p.period)) :
    Calls Tryz.prog 100 #[p.v,s.v a 0 c,.agg #[.int .i64 3,.int .i64 anow,.int .i64 acost]] w fun e w' =>
      e=.returned (.tuple #[if bad then s.v a 0 c else .agg #[.int .i64 A.at_,.int .i64 (A.level - acost*p.period),.int .i64 (A.held - acost),.slice none 0 0],.bool (!bad)])∧Below w.heap.size w w':=by
  have hlg:=h.2.2.2.2.2.2.2
  have hrt:=gright_any p s a 0 c (by rw[hlg];rfl)
  have hav:=gadv_any p s a 0 c anow (by rw[hlg];rfl)
  rw[decide_eq_true h] at hrt
  have hin:=in_any acost 1 p.burst
  rw[inB_iff.2 ⟨hc1,hc2⟩] at hin
  have hok:=h.1
  have hlv:=advG_level p s anow h
  have hhd:=advG_held p s anow h
  have hr3:=h.2.2.2.1
  have hr4:=h.2.2.2.2.1
  rw[← hA] at hav hlv hhd
  clear h hA
  obtain⟨k,l,d,b,cc,o⟩:=p
  obtain⟨at_,level,held,lg⟩:=s
  obtain⟨aat,alv,ahd,alg⟩:=A
  unfold St.v Pol.v at *
  dsimp only at *
  obtain⟨z0,z1,z2,z3,z4,z5,z6,z7⟩:=hok
  dsimp only at *
  have hM:acost*d≤1152921504606846976:=prod_le (by omega) (by omega) (by omega)
  have hM0:0≤acost*d:=Int.mul_nonneg (by omega) (by omega)
  have hw1:IntKind.i64.wrap (acost*d)=acost*d:=IntWalk.i64_in _ (by omega)
  have hwb:IntKind.i64.wrap (b*d)=b*d:=IntWalk.i64_in _ (by omega)
  have hw2:IntKind.i64.wrap (alv - acost*d)=alv - acost*d:=IntWalk.i64_in _ (by omega)
  have hw0:IntKind.i64.wrap (ahd - acost)=ahd - acost:=IntWalk.i64_in _ (by omega)
  have HRT:=Go.Lib.hid hrt
  have HAV:=Go.Lib.hid hav
  have HIN:=Go.Lib.hid hin
  have hcase:(bad=true∧ahd - acost<0)∨(bad=true∧¬ ahd - acost<0∧b*d<alv - acost*d)∨(bad=false∧¬ ahd - acost<0∧¬ b*d<alv - acost*d):=by
    cases bad
    · simp at hbad
      exact .inr (.inr ⟨rfl,by omega,by omega⟩)
    · simp at hbad
      rcases hbad with hx|hx
      · exact .inl ⟨rfl,hx⟩
      · by_cases hy:ahd - acost<0
        · exact .inl ⟨rfl,hy⟩
        · exact .inr (.inl ⟨rfl,hy,hx⟩)
  have HCS:=Go.Lib.hid hcase
  clear hbad hcase
  clear hrt hav hin hlv hhd hM hM0 z0 z1 z2 z3 z4 z5 z6 z7 hr3 hr4 hc1 hc2
  go_enter Tryz.func100,Tryz.ntmps100
  go_wp2_with fail
  refine(HRT.out _).mono ?_
  rintro e w1 ⟨rfl,hb⟩
  have hB:Below w.heap.size w w1:=bl_then k4 hb
  obtain⟨c0,c1,c2,c3,c4,c5⟩:=b6 (w.heap.size) k l d b cc o hb
  have c6:=bl_cell (v:=.int .i64 at_) hb (show World.cell? _ ⟨w.heap.size+1,0,none⟩=_ by go_simp)
  have c7:=bl_cell (v:=.int .i64 level) hb (show World.cell? _ ⟨w.heap.size+1,1,none⟩=_ by go_simp)
  have c8:=bl_cell (v:=.int .i64 held) hb (show World.cell? _ ⟨w.heap.size+1,2,none⟩=_ by go_simp)
  have c9:=bl_cell (v:=.slice a 0 c) hb (show World.cell? _ ⟨w.heap.size+1,3,none⟩=_ by go_simp)
  obtain⟨c10,c11,c12⟩:=b3 (w.heap.size+1+1) 3 anow acost hb
  have hR:ResB w1 (w.heap.size+1+1+1):=res_bl (res_new _ _ _ _ _ _ (by simp)) hb
  clear hb HRT
  go_wp2_with fail
  refine(HIN.out _).mono ?_
  rintro e w2 ⟨rfl,rfl⟩
  clear HIN
  go_wp2_with fail
  refine wp_region_held_drew (S:=fun w'=>P6 w' (w.heap.size) k l d b cc o (S4 w' (w.heap.size+1) at_ level held a 0 c (X3 w' (w.heap.size+1+1) 3 anow acost (ResB w' (w.heap.size+1+1+1)∧Below w.heap.size w w')))) (by kernel_rfl) ?_ (fun hHeld=>?_)
  · exact⟨c0,c1,c2,c3,c4,c5,c6,c7,c8,c9,c10,c11,c12,hR,bl_drew hB⟩
  try simp only[Act.put,List.setIfInBounds_toArray,List.set_cons_zero,List.set_cons_succ]
  refine wpAnyH_abs (F:=fun _=>True) hHeld trivial (fun W3 hHeld _=>?_)
  clear hR hB c0 c1 c2 c3 c4 c5 c6 c7 c8 c9 c10 c11 c12
  refine tkx 0 ?_
  refine tkx 1 ?_
  refine tkx 2 ?_
  refine tkx 3 ?_
  refine tkx 5 ?_
  refine tkx 6 ?_
  refine tkx 7 ?_
  refine tkx 8 ?_
  refine tkx 9 ?_
  refine callC2 (i:=4) (j:=10) rfl rfl (fun K hK=>?_) (fun K hK=>?_)
  · go_simp
    refine(HAV.out _).mono ?_
    rintro e w5 ⟨rfl,hb⟩
    go_wp2_with fail
    refine hK.out _ _ ?_ (fun hHeld'=>?_)
    · (try dsimp only)
      (obtain⟨h0,h1,h2,h3,h4,h5,h6,h7,h8,h9,h10,h11,h12,hr',hB'⟩:=hHeld;exact⟨bl_cell hb h0,bl_cell hb h1,bl_cell hb h2,bl_cell hb h3,bl_cell hb h4,bl_cell hb h5,bl_cell hb h6,bl_cell hb h7,bl_cell hb h8,bl_cell hb h9,bl_cell hb h10,bl_cell hb h11,bl_cell hb h12,res_bl hr' hb,bl_then hB' hb⟩)
    clear hHeld hK K
    rename _=>hHeld
    clear hb
    try simp only[Act.put,List.setIfInBounds_toArray,List.set_cons_zero,List.set_cons_succ]
    refine callC (i:=10) rfl (fun K hK=>?_)
    have hlt:w.heap.size+1+1+1<w5.heap.size:=by(obtain⟨h0,h1,h2,h3,h4,h5,h6,h7,h8,h9,h10,h11,h12,hr',hB'⟩:=hHeld;exact res_lt hr')
    go_simp
    refine hK.out _ _ ?_ (fun hHeld'=>?_)
    · (try dsimp only)
      (obtain⟨h0,h1,h2,h3,h4,h5,h6,h7,h8,h9,h10,h11,h12,hr',hB'⟩:=hHeld;exact⟨bl_cell k1 h0,bl_cell k1 h1,bl_cell k1 h2,bl_cell k1 h3,bl_cell k1 h4,bl_cell k1 h5,bl_cell k1 h6,bl_cell k1 h7,bl_cell k1 h8,bl_cell k1 h9,bl_cell k1 h10,bl_cell k1 h11,bl_cell k1 h12,res_bl hr' k1,bl_alloc hB' _⟩)
    clear hHeld hK K
    rename _=>hHeld
    try simp only[Act.put,List.setIfInBounds_toArray,List.set_cons_zero,List.set_cons_succ]
    refine wpAnyH_abs (F:=fun X=>ResB X w5.heap.size) hHeld (res_new _ _ _ _ _ _ rfl) (fun w6 hHeld hN=>?_)
    generalize w5.heap.size=nb at *
    refine callC (i:=11) rfl (fun K hK=>?_)
    obtain⟨h0,h1,h2,h3,h4,h5,h6,h7,h8,h9,h10,h11,h12,hr',hB'⟩:=hHeld
    obtain⟨f0,f1,f2,f3,u0,u1,u2,u3,i0,i1,i2,i3⟩:=res_all hN
    clear hHeld
    have hHeld:True:=trivial
    go_simp
    refine hK.out _ _ ?_ (fun hHeld'=>?_)
    · (try dsimp only)
      (have e0:nb≠w.heap.size:=(by omega);have e1:nb≠w.heap.size+1:=(by omega);have e2:nb≠w.heap.size+1+1:=(by omega);exact⟨far4 h0 e0,far4 h1 e0,far4 h2 e0,far4 h3 e0,far4 h4 e0,far4 h5 e0,far4 h6 e1,far4 h7 e1,far4 h8 e1,far4 h9 e1,far4 h10 e2,far4 h11 e2,far4 h12 e2,res4 hr',bl4 hB' (by omega)⟩)
    clear hHeld hK K
    rename _=>hHeld
    try simp only[Act.put,List.setIfInBounds_toArray,List.set_cons_zero,List.set_cons_succ]
    refine tkx 12 ?_
    refine wpAnyH_done (by kernel_rfl) ?_ _
    clear hr' hB'
    obtain⟨k0,k1,k2,k3,k4,k5,k6,k7,k8,k9,k10,k11,k12,hr'',hE⟩:=hHeld
    refine then_abs (F:=fun X=>(X3 X nb aat alv ahd (X.cell? ⟨nb,3,none⟩=some (.slice none 0 0)))∧P6 X (w.heap.size) k l d b cc o (S4 X (w.heap.size+1) at_ level held a 0 c (X3 X (w.heap.size+1+1) 3 anow acost (ResB X nb∧ResB X (w.heap.size+1+1+1)∧Below w.heap.size w X)))) ⟨set4 _ _ _ _ i0 i1 i2 i3,k0,k1,k2,k3,k4,k5,k6,k7,k8,k9,k10,k11,k12,res4 hN,hr'',hE⟩ ?_
    clear hN hr'' hE i0 i1 i2 i3 f0 f1 f2 f3 u0 u1 u2 u3 HAV k0 k1 k2 k3 k4 k5 k6 k7 k8 k9 k10 k11 k12 h0 h1 h2 h3 h4 h5 h6 h7 h8 h9 h10 h11 h12
    rintro X ⟨⟨x0,x1,x2,x3⟩,c0,c1,c2,c3,c4,c5,c6,c7,c8,c9,c10,c11,c12,hN,hR,hE⟩
    obtain⟨F0,F1,F2,F3,U0,U1,U2,U3,I0,I1,I2,I3⟩:=res_all hR
    have hz1:=(hN 1 (by omega)).1
    have hz2:=(hN 2 (by omega)).1
    have n0:¬ nb=w.heap.size:=by omega
    have m0:¬ w.heap.size=nb:=by omega
    have n1:¬ nb=w.heap.size+1:=by omega
    have m1:¬ w.heap.size+1=nb:=by omega
    have n2:¬ nb=w.heap.size+1+1:=by omega
    have m2:¬ w.heap.size+1+1=nb:=by omega
    have n3:¬ nb=w.heap.size+1+1+1:=by omega
    have m3:¬ w.heap.size+1+1+1=nb:=by omega
    rcases HCS.out with⟨rfl,e1⟩|⟨rfl,e1,e2⟩|⟨rfl,e1,e2⟩
    all_goals
      clear HCS
      repeat' (first|go_skip|go_guarded|go_step|go_upon)
      (try simp only[Exit.inBlock,Exit.then])
      refine bodyPost_ret (results_state2 rfl _ _ (by rfl) (set4r (res_set (res_set hR _ _) _ _))) rfl ⟨by first|rfl|simp,bl4 (bl_set (bl_set hE (by dsimp only;omega) _) (by dsimp only;omega) _) (by omega)⟩
  · have hlt:w.heap.size+1+1+1<W3.heap.size:=by(obtain⟨h0,h1,h2,h3,h4,h5,h6,h7,h8,h9,h10,h11,h12,hr',hB'⟩:=hHeld;exact res_lt hr')
    go_simp
    refine hK.out _ _ ?_ (fun hHeld'=>?_)
    · (try dsimp only)
      (obtain⟨h0,h1,h2,h3,h4,h5,h6,h7,h8,h9,h10,h11,h12,hr',hB'⟩:=hHeld;exact⟨bl_cell k1 h0,bl_cell k1 h1,bl_cell k1 h2,bl_cell k1 h3,bl_cell k1 h4,bl_cell k1 h5,bl_cell k1 h6,bl_cell k1 h7,bl_cell k1 h8,bl_cell k1 h9,bl_cell k1 h10,bl_cell k1 h11,bl_cell k1 h12,res_bl hr' k1,bl_alloc hB' _⟩)
    clear hHeld hK K
    rename _=>hHeld
    try simp only[Act.put,List.setIfInBounds_toArray,List.set_cons_zero,List.set_cons_succ]
    refine wpAnyH_abs (F:=fun X=>ResB X W3.heap.size) hHeld (res_new _ _ _ _ _ _ rfl) (fun w4 hHeld hN=>?_)
    generalize W3.heap.size=nb at *
    refine callC (i:=4) rfl (fun K hK=>?_)
    go_simp
    refine(HAV.out _).mono ?_
    rintro e w6 ⟨rfl,hb⟩
    go_wp2_with fail
    refine hK.out _ _ ?_ (fun hHeld'=>?_)
    · (try dsimp only)
      (obtain⟨h0,h1,h2,h3,h4,h5,h6,h7,h8,h9,h10,h11,h12,hr',hB'⟩:=hHeld;exact⟨bl_cell hb h0,bl_cell hb h1,bl_cell hb h2,bl_cell hb h3,bl_cell hb h4,bl_cell hb h5,bl_cell hb h6,bl_cell hb h7,bl_cell hb h8,bl_cell hb h9,bl_cell hb h10,bl_cell hb h11,bl_cell hb h12,res_bl hr' hb,bl_then hB' hb⟩)
    clear hHeld hK K
    rename _=>hHeld
    replace hN:=res_bl hN hb
    clear hb
    try simp only[Act.put,List.setIfInBounds_toArray,List.set_cons_zero,List.set_cons_succ]
    refine callC (i:=11) rfl (fun K hK=>?_)
    obtain⟨h0,h1,h2,h3,h4,h5,h6,h7,h8,h9,h10,h11,h12,hr',hB'⟩:=hHeld
    obtain⟨f0,f1,f2,f3,u0,u1,u2,u3,i0,i1,i2,i3⟩:=res_all hN
    clear hHeld
    have hHeld:True:=trivial
    go_simp
    refine hK.out _ _ ?_ (fun hHeld'=>?_)
    · (try dsimp only)
      (have e0:nb≠w.heap.size:=(by omega);have e1:nb≠w.heap.size+1:=(by omega);have e2:nb≠w.heap.size+1+1:=(by omega);exact⟨far4 h0 e0,far4 h1 e0,far4 h2 e0,far4 h3 e0,far4 h4 e0,far4 h5 e0,far4 h6 e1,far4 h7 e1,far4 h8 e1,far4 h9 e1,far4 h10 e2,far4 h11 e2,far4 h12 e2,res4 hr',bl4 hB' (by omega)⟩)
    clear hHeld hK K
    rename _=>hHeld
    try simp only[Act.put,List.setIfInBounds_toArray,List.set_cons_zero,List.set_cons_succ]
    refine tkx 12 ?_
    refine wpAnyH_done (by kernel_rfl) ?_ _
    clear hr' hB'
    obtain⟨k0,k1,k2,k3,k4,k5,k6,k7,k8,k9,k10,k11,k12,hr'',hE⟩:=hHeld
    refine then_abs (F:=fun X=>(X3 X nb aat alv ahd (X.cell? ⟨nb,3,none⟩=some (.slice none 0 0)))∧P6 X (w.heap.size) k l d b cc o (S4 X (w.heap.size+1) at_ level held a 0 c (X3 X (w.heap.size+1+1) 3 anow acost (ResB X nb∧ResB X (w.heap.size+1+1+1)∧Below w.heap.size w X)))) ⟨set4 _ _ _ _ i0 i1 i2 i3,k0,k1,k2,k3,k4,k5,k6,k7,k8,k9,k10,k11,k12,res4 hN,hr'',hE⟩ ?_
    clear hN hr'' hE i0 i1 i2 i3 f0 f1 f2 f3 u0 u1 u2 u3 HAV k0 k1 k2 k3 k4 k5 k6 k7 k8 k9 k10 k11 k12 h0 h1 h2 h3 h4 h5 h6 h7 h8 h9 h10 h11 h12
    rintro X ⟨⟨x0,x1,x2,x3⟩,c0,c1,c2,c3,c4,c5,c6,c7,c8,c9,c10,c11,c12,hN,hR,hE⟩
    obtain⟨F0,F1,F2,F3,U0,U1,U2,U3,I0,I1,I2,I3⟩:=res_all hR
    have hz1:=(hN 1 (by omega)).1
    have hz2:=(hN 2 (by omega)).1
    have n0:¬ nb=w.heap.size:=by omega
    have m0:¬ w.heap.size=nb:=by omega
    have n1:¬ nb=w.heap.size+1:=by omega
    have m1:¬ w.heap.size+1=nb:=by omega
    have n2:¬ nb=w.heap.size+1+1:=by omega
    have m2:¬ w.heap.size+1+1=nb:=by omega
    have n3:¬ nb=w.heap.size+1+1+1:=by omega
    have m3:¬ w.heap.size+1+1+1=nb:=by omega
    rcases HCS.out with⟨rfl,e1⟩|⟨rfl,e1,e2⟩|⟨rfl,e1,e2⟩
    all_goals
      clear HCS
      repeat' (first|go_skip|go_guarded|go_step|go_upon)
      (try simp only[Exit.inBlock,Exit.then])
      refine bodyPost_ret (results_state2 rfl _ _ (by rfl) (set4r (res_set (res_set hR _ _) _ _))) rfl ⟨by first|rfl|simp,bl4 (bl_set (bl_set hE (by dsimp only;omega) _) (by dsimp only;omega) _) (by omega)⟩

theorem gdo_4 (p:Pol) (s:St) (a:Option Addr) (c:Nat) (anow acost:Int) (A:St) (w:World) (h:rightG p s) (hc1:1≤acost) (hc2:acost≤p.burst) (hA:A=advG p s anow) (bad:Bool) (hbad:bad=true↔(A.held - acost<0∨p.burst*p.period<A.level)) :
    Calls Tryz.prog 100 #[p.v,s.v a 0 c,.agg #[.int .i64 4,.int .i64 anow,.int .i64 acost]] w fun e w' =>
      e=.returned (.tuple #[if bad then s.v a 0 c else .agg #[.int .i64 A.at_,.int .i64 (A.level),.int .i64 (A.held - acost),.slice none 0 0],.bool (!bad)])∧Below w.heap.size w w':=by
  have hlg:=h.2.2.2.2.2.2.2
  have hrt:=gright_any p s a 0 c (by rw[hlg];rfl)
  have hav:=gadv_any p s a 0 c anow (by rw[hlg];rfl)
  rw[decide_eq_true h] at hrt
  have hin:=in_any acost 1 p.burst
  rw[inB_iff.2 ⟨hc1,hc2⟩] at hin
  have hok:=h.1
  have hlv:=advG_level p s anow h
  have hhd:=advG_held p s anow h
  have hr3:=h.2.2.2.1
  have hr4:=h.2.2.2.2.1
  rw[← hA] at hav hlv hhd
  clear h hA
  obtain⟨k,l,d,b,cc,o⟩:=p
  obtain⟨at_,level,held,lg⟩:=s
  obtain⟨aat,alv,ahd,alg⟩:=A
  unfold St.v Pol.v at *
  dsimp only at *
  obtain⟨z0,z1,z2,z3,z4,z5,z6,z7⟩:=hok
  dsimp only at *
  have hM:acost*d≤1152921504606846976:=prod_le (by omega) (by omega) (by omega)
  have hM0:0≤acost*d:=Int.mul_nonneg (by omega) (by omega)
  have hw1:IntKind.i64.wrap (acost*d)=acost*d:=IntWalk.i64_in _ (by omega)
  have hwb:IntKind.i64.wrap (b*d)=b*d:=IntWalk.i64_in _ (by omega)
  have hw0:IntKind.i64.wrap (ahd - acost)=ahd - acost:=IntWalk.i64_in _ (by omega)
  have HRT:=Go.Lib.hid hrt
  have HAV:=Go.Lib.hid hav
  have HIN:=Go.Lib.hid hin
  have hcase:(bad=true∧ahd - acost<0)∨(bad=true∧¬ ahd - acost<0∧b*d<alv)∨(bad=false∧¬ ahd - acost<0∧¬ b*d<alv):=by
    cases bad
    · simp at hbad
      exact .inr (.inr ⟨rfl,by omega,by omega⟩)
    · simp at hbad
      rcases hbad with hx|hx
      · exact .inl ⟨rfl,hx⟩
      · by_cases hy:ahd - acost<0
        · exact .inl ⟨rfl,hy⟩
        · exact .inr (.inl ⟨rfl,hy,hx⟩)
  have HCS:=Go.Lib.hid hcase
  clear hbad hcase
  clear hrt hav hin hlv hhd hM hM0 z0 z1 z2 z3 z4 z5 z6 z7 hr3 hr4 hc1 hc2
  go_enter Tryz.func100,Tryz.ntmps100
  go_wp2_with fail
  refine(HRT.out _).mono ?_
  rintro e w1 ⟨rfl,hb⟩
  have hB:Below w.heap.size w w1:=bl_then k4 hb
  obtain⟨c0,c1,c2,c3,c4,c5⟩:=b6 (w.heap.size) k l d b cc o hb
  have c6:=bl_cell (v:=.int .i64 at_) hb (show World.cell? _ ⟨w.heap.size+1,0,none⟩=_ by go_simp)
  have c7:=bl_cell (v:=.int .i64 level) hb (show World.cell? _ ⟨w.heap.size+1,1,none⟩=_ by go_simp)
  have c8:=bl_cell (v:=.int .i64 held) hb (show World.cell? _ ⟨w.heap.size+1,2,none⟩=_ by go_simp)
  have c9:=bl_cell (v:=.slice a 0 c) hb (show World.cell? _ ⟨w.heap.size+1,3,none⟩=_ by go_simp)
  obtain⟨c10,c11,c12⟩:=b3 (w.heap.size+1+1) 4 anow acost hb
  have hR:ResB w1 (w.heap.size+1+1+1):=res_bl (res_new _ _ _ _ _ _ (by simp)) hb
  clear hb HRT
  go_wp2_with fail
  refine(HIN.out _).mono ?_
  rintro e w2 ⟨rfl,rfl⟩
  clear HIN
  go_wp2_with fail
  refine wp_region_held_drew (S:=fun w'=>P6 w' (w.heap.size) k l d b cc o (S4 w' (w.heap.size+1) at_ level held a 0 c (X3 w' (w.heap.size+1+1) 4 anow acost (ResB w' (w.heap.size+1+1+1)∧Below w.heap.size w w')))) (by kernel_rfl) ?_ (fun hHeld=>?_)
  · exact⟨c0,c1,c2,c3,c4,c5,c6,c7,c8,c9,c10,c11,c12,hR,bl_drew hB⟩
  try simp only[Act.put,List.setIfInBounds_toArray,List.set_cons_zero,List.set_cons_succ]
  refine wpAnyH_abs (F:=fun _=>True) hHeld trivial (fun W3 hHeld _=>?_)
  clear hR hB c0 c1 c2 c3 c4 c5 c6 c7 c8 c9 c10 c11 c12
  refine tkx 0 ?_
  refine tkx 1 ?_
  refine tkx 2 ?_
  refine tkx 3 ?_
  refine tkx 5 ?_
  refine tkx 6 ?_
  refine tkx 7 ?_
  refine tkx 8 ?_
  refine tkx 9 ?_
  refine callC2 (i:=4) (j:=10) rfl rfl (fun K hK=>?_) (fun K hK=>?_)
  · go_simp
    refine(HAV.out _).mono ?_
    rintro e w5 ⟨rfl,hb⟩
    go_wp2_with fail
    refine hK.out _ _ ?_ (fun hHeld'=>?_)
    · (try dsimp only)
      (obtain⟨h0,h1,h2,h3,h4,h5,h6,h7,h8,h9,h10,h11,h12,hr',hB'⟩:=hHeld;exact⟨bl_cell hb h0,bl_cell hb h1,bl_cell hb h2,bl_cell hb h3,bl_cell hb h4,bl_cell hb h5,bl_cell hb h6,bl_cell hb h7,bl_cell hb h8,bl_cell hb h9,bl_cell hb h10,bl_cell hb h11,bl_cell hb h12,res_bl hr' hb,bl_then hB' hb⟩)
    clear hHeld hK K
    rename _=>hHeld
    clear hb
    try simp only[Act.put,List.setIfInBounds_toArray,List.set_cons_zero,List.set_cons_succ]
    refine callC (i:=10) rfl (fun K hK=>?_)
    have hlt:w.heap.size+1+1+1<w5.heap.size:=by(obtain⟨h0,h1,h2,h3,h4,h5,h6,h7,h8,h9,h10,h11,h12,hr',hB'⟩:=hHeld;exact res_lt hr')
    go_simp
    refine hK.out _ _ ?_ (fun hHeld'=>?_)
    · (try dsimp only)
      (obtain⟨h0,h1,h2,h3,h4,h5,h6,h7,h8,h9,h10,h11,h12,hr',hB'⟩:=hHeld;exact⟨bl_cell k1 h0,bl_cell k1 h1,bl_cell k1 h2,bl_cell k1 h3,bl_cell k1 h4,bl_cell k1 h5,bl_cell k1 h6,bl_cell k1 h7,bl_cell k1 h8,bl_cell k1 h9,bl_cell k1 h10,bl_cell k1 h11,bl_cell k1 h12,res_bl hr' k1,bl_alloc hB' _⟩)
    clear hHeld hK K
    rename _=>hHeld
    try simp only[Act.put,List.setIfInBounds_toArray,List.set_cons_zero,List.set_cons_succ]
    refine wpAnyH_abs (F:=fun X=>ResB X w5.heap.size) hHeld (res_new _ _ _ _ _ _ rfl) (fun w6 hHeld hN=>?_)
    generalize w5.heap.size=nb at *
    refine callC (i:=11) rfl (fun K hK=>?_)
    obtain⟨h0,h1,h2,h3,h4,h5,h6,h7,h8,h9,h10,h11,h12,hr',hB'⟩:=hHeld
    obtain⟨f0,f1,f2,f3,u0,u1,u2,u3,i0,i1,i2,i3⟩:=res_all hN
    clear hHeld
    have hHeld:True:=trivial
    go_simp
    refine hK.out _ _ ?_ (fun hHeld'=>?_)
    · (try dsimp only)
      (have e0:nb≠w.heap.size:=(by omega);have e1:nb≠w.heap.size+1:=(by omega);have e2:nb≠w.heap.size+1+1:=(by omega);exact⟨far4 h0 e0,far4 h1 e0,far4 h2 e0,far4 h3 e0,far4 h4 e0,far4 h5 e0,far4 h6 e1,far4 h7 e1,far4 h8 e1,far4 h9 e1,far4 h10 e2,far4 h11 e2,far4 h12 e2,res4 hr',bl4 hB' (by omega)⟩)
    clear hHeld hK K
    rename _=>hHeld
    try simp only[Act.put,List.setIfInBounds_toArray,List.set_cons_zero,List.set_cons_succ]
    refine tkx 12 ?_
    refine wpAnyH_done (by kernel_rfl) ?_ _
    clear hr' hB'
    obtain⟨k0,k1,k2,k3,k4,k5,k6,k7,k8,k9,k10,k11,k12,hr'',hE⟩:=hHeld
    refine then_abs (F:=fun X=>(X3 X nb aat alv ahd (X.cell? ⟨nb,3,none⟩=some (.slice none 0 0)))∧P6 X (w.heap.size) k l d b cc o (S4 X (w.heap.size+1) at_ level held a 0 c (X3 X (w.heap.size+1+1) 4 anow acost (ResB X nb∧ResB X (w.heap.size+1+1+1)∧Below w.heap.size w X)))) ⟨set4 _ _ _ _ i0 i1 i2 i3,k0,k1,k2,k3,k4,k5,k6,k7,k8,k9,k10,k11,k12,res4 hN,hr'',hE⟩ ?_
    clear hN hr'' hE i0 i1 i2 i3 f0 f1 f2 f3 u0 u1 u2 u3 HAV k0 k1 k2 k3 k4 k5 k6 k7 k8 k9 k10 k11 k12 h0 h1 h2 h3 h4 h5 h6 h7 h8 h9 h10 h11 h12
    rintro X ⟨⟨x0,x1,x2,x3⟩,c0,c1,c2,c3,c4,c5,c6,c7,c8,c9,c10,c11,c12,hN,hR,hE⟩
    obtain⟨F0,F1,F2,F3,U0,U1,U2,U3,I0,I1,I2,I3⟩:=res_all hR
    have hz1:=(hN 1 (by omega)).1
    have hz2:=(hN 2 (by omega)).1
    have n0:¬ nb=w.heap.size:=by omega
    have m0:¬ w.heap.size=nb:=by omega
    have n1:¬ nb=w.heap.size+1:=by omega
    have m1:¬ w.heap.size+1=nb:=by omega
    have n2:¬ nb=w.heap.size+1+1:=by omega
    have m2:¬ w.heap.size+1+1=nb:=by omega
    have n3:¬ nb=w.heap.size+1+1+1:=by omega
    have m3:¬ w.heap.size+1+1+1=nb:=by omega
    rcases HCS.out with⟨rfl,e1⟩|⟨rfl,e1,e2⟩|⟨rfl,e1,e2⟩
    all_goals
      clear HCS
      repeat' (first|go_skip|go_guarded|go_step|go_upon)
      (try simp only[Exit.inBlock,Exit.then])
      refine bodyPost_ret (results_state2 rfl _ _ (by rfl) (set4r (res_set hR _ _))) rfl ⟨by first|rfl|simp,bl4 (bl_set hE (by dsimp only;omega) _) (by omega)⟩
  · have hlt:w.heap.size+1+1+1<W3.heap.size:=by(obtain⟨h0,h1,h2,h3,h4,h5,h6,h7,h8,h9,h10,h11,h12,hr',hB'⟩:=hHeld;exact res_lt hr')
    go_simp
    refine hK.out _ _ ?_ (fun hHeld'=>?_)
    · (try dsimp only)
      (obtain⟨h0,h1,h2,h3,h4,h5,h6,h7,h8,h9,h10,h11,h12,hr',hB'⟩:=hHeld;exact⟨bl_cell k1 h0,bl_cell k1 h1,bl_cell k1 h2,bl_cell k1 h3,bl_cell k1 h4,bl_cell k1 h5,bl_cell k1 h6,bl_cell k1 h7,bl_cell k1 h8,bl_cell k1 h9,bl_cell k1 h10,bl_cell k1 h11,bl_cell k1 h12,res_bl hr' k1,bl_alloc hB' _⟩)
    clear hHeld hK K
    rename _=>hHeld
    try simp only[Act.put,List.setIfInBounds_toArray,List.set_cons_zero,List.set_cons_succ]
    refine wpAnyH_abs (F:=fun X=>ResB X W3.heap.size) hHeld (res_new _ _ _ _ _ _ rfl) (fun w4 hHeld hN=>?_)
    generalize W3.heap.size=nb at *
    refine callC (i:=4) rfl (fun K hK=>?_)
    go_simp
    refine(HAV.out _).mono ?_
    rintro e w6 ⟨rfl,hb⟩
    go_wp2_with fail
    refine hK.out _ _ ?_ (fun hHeld'=>?_)
    · (try dsimp only)
      (obtain⟨h0,h1,h2,h3,h4,h5,h6,h7,h8,h9,h10,h11,h12,hr',hB'⟩:=hHeld;exact⟨bl_cell hb h0,bl_cell hb h1,bl_cell hb h2,bl_cell hb h3,bl_cell hb h4,bl_cell hb h5,bl_cell hb h6,bl_cell hb h7,bl_cell hb h8,bl_cell hb h9,bl_cell hb h10,bl_cell hb h11,bl_cell hb h12,res_bl hr' hb,bl_then hB' hb⟩)
    clear hHeld hK K
    rename _=>hHeld
    replace hN:=res_bl hN hb
    clear hb
    try simp only[Act.put,List.setIfInBounds_toArray,List.set_cons_zero,List.set_cons_succ]
    refine callC (i:=11) rfl (fun K hK=>?_)
    obtain⟨h0,h1,h2,h3,h4,h5,h6,h7,h8,h9,h10,h11,h12,hr',hB'⟩:=hHeld
    obtain⟨f0,f1,f2,f3,u0,u1,u2,u3,i0,i1,i2,i3⟩:=res_all hN
    clear hHeld
    have hHeld:True:=trivial
    go_simp
    refine hK.out _ _ ?_ (fun hHeld'=>?_)
    · (try dsimp only)
      (have e0:nb≠w.heap.size:=(by omega);have e1:nb≠w.heap.size+1:=(by omega);have e2:nb≠w.heap.size+1+1:=(by omega);exact⟨far4 h0 e0,far4 h1 e0,far4 h2 e0,far4 h3 e0,far4 h4 e0,far4 h5 e0,far4 h6 e1,far4 h7 e1,far4 h8 e1,far4 h9 e1,far4 h10 e2,far4 h11 e2,far4 h12 e2,res4 hr',bl4 hB' (by omega)⟩)
    clear hHeld hK K
    rename _=>hHeld
    try simp only[Act.put,List.setIfInBounds_toArray,List.set_cons_zero,List.set_cons_succ]
    refine tkx 12 ?_
    refine wpAnyH_done (by kernel_rfl) ?_ _
    clear hr' hB'
    obtain⟨k0,k1,k2,k3,k4,k5,k6,k7,k8,k9,k10,k11,k12,hr'',hE⟩:=hHeld
    refine then_abs (F:=fun X=>(X3 X nb aat alv ahd (X.cell? ⟨nb,3,none⟩=some (.slice none 0 0)))∧P6 X (w.heap.size) k l d b cc o (S4 X (w.heap.size+1) at_ level held a 0 c (X3 X (w.heap.size+1+1) 4 anow acost (ResB X nb∧ResB X (w.heap.size+1+1+1)∧Below w.heap.size w X)))) ⟨set4 _ _ _ _ i0 i1 i2 i3,k0,k1,k2,k3,k4,k5,k6,k7,k8,k9,k10,k11,k12,res4 hN,hr'',hE⟩ ?_
    clear hN hr'' hE i0 i1 i2 i3 f0 f1 f2 f3 u0 u1 u2 u3 HAV k0 k1 k2 k3 k4 k5 k6 k7 k8 k9 k10 k11 k12 h0 h1 h2 h3 h4 h5 h6 h7 h8 h9 h10 h11 h12
    rintro X ⟨⟨x0,x1,x2,x3⟩,c0,c1,c2,c3,c4,c5,c6,c7,c8,c9,c10,c11,c12,hN,hR,hE⟩
    obtain⟨F0,F1,F2,F3,U0,U1,U2,U3,I0,I1,I2,I3⟩:=res_all hR
    have hz1:=(hN 1 (by omega)).1
    have hz2:=(hN 2 (by omega)).1
    have n0:¬ nb=w.heap.size:=by omega
    have m0:¬ w.heap.size=nb:=by omega
    have n1:¬ nb=w.heap.size+1:=by omega
    have m1:¬ w.heap.size+1=nb:=by omega
    have n2:¬ nb=w.heap.size+1+1:=by omega
    have m2:¬ w.heap.size+1+1=nb:=by omega
    have n3:¬ nb=w.heap.size+1+1+1:=by omega
    have m3:¬ w.heap.size+1+1+1=nb:=by omega
    rcases HCS.out with⟨rfl,e1⟩|⟨rfl,e1,e2⟩|⟨rfl,e1,e2⟩
    all_goals
      clear HCS
      repeat' (first|go_skip|go_guarded|go_step|go_upon)
      (try simp only[Exit.inBlock,Exit.then])
      refine bodyPost_ret (results_state2 rfl _ _ (by rfl) (set4r (res_set hR _ _))) rfl ⟨by first|rfl|simp,bl4 (bl_set hE (by dsimp only;omega) _) (by omega)⟩

theorem gdo_5 (p:Pol) (s:St) (a:Option Addr) (c:Nat) (anow acost:Int) (ak:Int) (A:St) (w:World) (h:rightG p s) (hc1:1≤acost) (hc2:acost≤p.burst) (hA:A=advG p s anow) (hk1:¬ ak=1) (hk2:¬ ak=2) (hk3:¬ ak=3) (hk4:¬ ak=4) :
    Calls Tryz.prog 100 #[p.v,s.v a 0 c,.agg #[.int .i64 ak,.int .i64 anow,.int .i64 acost]] w fun e w' =>
      e=.returned (.tuple #[s.v a 0 c,.bool false])∧Below w.heap.size w w':=by
  have hlg:=h.2.2.2.2.2.2.2
  have hrt:=gright_any p s a 0 c (by rw[hlg];rfl)
  have hav:=gadv_any p s a 0 c anow (by rw[hlg];rfl)
  rw[decide_eq_true h] at hrt
  have hin:=in_any acost 1 p.burst
  rw[inB_iff.2 ⟨hc1,hc2⟩] at hin
  have hok:=h.1
  have hlv:=advG_level p s anow h
  have hhd:=advG_held p s anow h
  have hr3:=h.2.2.2.1
  have hr4:=h.2.2.2.2.1
  rw[← hA] at hav hlv hhd
  clear h hA
  obtain⟨k,l,d,b,cc,o⟩:=p
  obtain⟨at_,level,held,lg⟩:=s
  obtain⟨aat,alv,ahd,alg⟩:=A
  unfold St.v Pol.v at *
  dsimp only at *
  obtain⟨z0,z1,z2,z3,z4,z5,z6,z7⟩:=hok
  dsimp only at *
  have hM:acost*d≤1152921504606846976:=prod_le (by omega) (by omega) (by omega)
  have hM0:0≤acost*d:=Int.mul_nonneg (by omega) (by omega)
  have hw1:IntKind.i64.wrap (acost*d)=acost*d:=IntWalk.i64_in _ (by omega)
  have hwb:IntKind.i64.wrap (b*d)=b*d:=IntWalk.i64_in _ (by omega)
  have HRT:=Go.Lib.hid hrt
  have HAV:=Go.Lib.hid hav
  have HIN:=Go.Lib.hid hin
  clear hrt hav hin hlv hhd hM hM0 z0 z1 z2 z3 z4 z5 z6 z7 hr3 hr4 hc1 hc2
  go_enter Tryz.func100,Tryz.ntmps100
  go_wp2_with fail
  refine(HRT.out _).mono ?_
  rintro e w1 ⟨rfl,hb⟩
  have hB:Below w.heap.size w w1:=bl_then k4 hb
  obtain⟨c0,c1,c2,c3,c4,c5⟩:=b6 (w.heap.size) k l d b cc o hb
  have c6:=bl_cell (v:=.int .i64 at_) hb (show World.cell? _ ⟨w.heap.size+1,0,none⟩=_ by go_simp)
  have c7:=bl_cell (v:=.int .i64 level) hb (show World.cell? _ ⟨w.heap.size+1,1,none⟩=_ by go_simp)
  have c8:=bl_cell (v:=.int .i64 held) hb (show World.cell? _ ⟨w.heap.size+1,2,none⟩=_ by go_simp)
  have c9:=bl_cell (v:=.slice a 0 c) hb (show World.cell? _ ⟨w.heap.size+1,3,none⟩=_ by go_simp)
  obtain⟨c10,c11,c12⟩:=b3 (w.heap.size+1+1) ak anow acost hb
  have hR:ResB w1 (w.heap.size+1+1+1):=res_bl (res_new _ _ _ _ _ _ (by simp)) hb
  clear hb HRT
  go_wp2_with fail
  refine(HIN.out _).mono ?_
  rintro e w2 ⟨rfl,rfl⟩
  clear HIN
  go_wp2_with fail
  refine wp_region_held_drew (S:=fun w'=>P6 w' (w.heap.size) k l d b cc o (S4 w' (w.heap.size+1) at_ level held a 0 c (X3 w' (w.heap.size+1+1) ak anow acost (ResB w' (w.heap.size+1+1+1)∧Below w.heap.size w w')))) (by kernel_rfl) ?_ (fun hHeld=>?_)
  · exact⟨c0,c1,c2,c3,c4,c5,c6,c7,c8,c9,c10,c11,c12,hR,bl_drew hB⟩
  try simp only[Act.put,List.setIfInBounds_toArray,List.set_cons_zero,List.set_cons_succ]
  refine wpAnyH_abs (F:=fun _=>True) hHeld trivial (fun W3 hHeld _=>?_)
  clear hR hB c0 c1 c2 c3 c4 c5 c6 c7 c8 c9 c10 c11 c12
  refine tkx 0 ?_
  refine tkx 1 ?_
  refine tkx 2 ?_
  refine tkx 3 ?_
  refine tkx 5 ?_
  refine tkx 6 ?_
  refine tkx 7 ?_
  refine tkx 8 ?_
  refine tkx 9 ?_
  refine callC2 (i:=4) (j:=10) rfl rfl (fun K hK=>?_) (fun K hK=>?_)
  · go_simp
    refine(HAV.out _).mono ?_
    rintro e w5 ⟨rfl,hb⟩
    go_wp2_with fail
    refine hK.out _ _ ?_ (fun hHeld'=>?_)
    · (try dsimp only)
      (obtain⟨h0,h1,h2,h3,h4,h5,h6,h7,h8,h9,h10,h11,h12,hr',hB'⟩:=hHeld;exact⟨bl_cell hb h0,bl_cell hb h1,bl_cell hb h2,bl_cell hb h3,bl_cell hb h4,bl_cell hb h5,bl_cell hb h6,bl_cell hb h7,bl_cell hb h8,bl_cell hb h9,bl_cell hb h10,bl_cell hb h11,bl_cell hb h12,res_bl hr' hb,bl_then hB' hb⟩)
    clear hHeld hK K
    rename _=>hHeld
    clear hb
    try simp only[Act.put,List.setIfInBounds_toArray,List.set_cons_zero,List.set_cons_succ]
    refine callC (i:=10) rfl (fun K hK=>?_)
    have hlt:w.heap.size+1+1+1<w5.heap.size:=by(obtain⟨h0,h1,h2,h3,h4,h5,h6,h7,h8,h9,h10,h11,h12,hr',hB'⟩:=hHeld;exact res_lt hr')
    go_simp
    refine hK.out _ _ ?_ (fun hHeld'=>?_)
    · (try dsimp only)
      (obtain⟨h0,h1,h2,h3,h4,h5,h6,h7,h8,h9,h10,h11,h12,hr',hB'⟩:=hHeld;exact⟨bl_cell k1 h0,bl_cell k1 h1,bl_cell k1 h2,bl_cell k1 h3,bl_cell k1 h4,bl_cell k1 h5,bl_cell k1 h6,bl_cell k1 h7,bl_cell k1 h8,bl_cell k1 h9,bl_cell k1 h10,bl_cell k1 h11,bl_cell k1 h12,res_bl hr' k1,bl_alloc hB' _⟩)
    clear hHeld hK K
    rename _=>hHeld
    try simp only[Act.put,List.setIfInBounds_toArray,List.set_cons_zero,List.set_cons_succ]
    refine wpAnyH_abs (F:=fun X=>ResB X w5.heap.size) hHeld (res_new _ _ _ _ _ _ rfl) (fun w6 hHeld hN=>?_)
    generalize w5.heap.size=nb at *
    refine callC (i:=11) rfl (fun K hK=>?_)
    obtain⟨h0,h1,h2,h3,h4,h5,h6,h7,h8,h9,h10,h11,h12,hr',hB'⟩:=hHeld
    obtain⟨f0,f1,f2,f3,u0,u1,u2,u3,i0,i1,i2,i3⟩:=res_all hN
    clear hHeld
    have hHeld:True:=trivial
    go_simp
    refine hK.out _ _ ?_ (fun hHeld'=>?_)
    · (try dsimp only)
      (have e0:nb≠w.heap.size:=(by omega);have e1:nb≠w.heap.size+1:=(by omega);have e2:nb≠w.heap.size+1+1:=(by omega);exact⟨far4 h0 e0,far4 h1 e0,far4 h2 e0,far4 h3 e0,far4 h4 e0,far4 h5 e0,far4 h6 e1,far4 h7 e1,far4 h8 e1,far4 h9 e1,far4 h10 e2,far4 h11 e2,far4 h12 e2,res4 hr',bl4 hB' (by omega)⟩)
    clear hHeld hK K
    rename _=>hHeld
    try simp only[Act.put,List.setIfInBounds_toArray,List.set_cons_zero,List.set_cons_succ]
    refine tkx 12 ?_
    refine wpAnyH_done (by kernel_rfl) ?_ _
    clear hr' hB'
    obtain⟨k0,k1,k2,k3,k4,k5,k6,k7,k8,k9,k10,k11,k12,hr'',hE⟩:=hHeld
    refine then_abs (F:=fun X=>(X3 X nb aat alv ahd (X.cell? ⟨nb,3,none⟩=some (.slice none 0 0)))∧P6 X (w.heap.size) k l d b cc o (S4 X (w.heap.size+1) at_ level held a 0 c (X3 X (w.heap.size+1+1) ak anow acost (ResB X nb∧ResB X (w.heap.size+1+1+1)∧Below w.heap.size w X)))) ⟨set4 _ _ _ _ i0 i1 i2 i3,k0,k1,k2,k3,k4,k5,k6,k7,k8,k9,k10,k11,k12,res4 hN,hr'',hE⟩ ?_
    clear hN hr'' hE i0 i1 i2 i3 f0 f1 f2 f3 u0 u1 u2 u3 HAV k0 k1 k2 k3 k4 k5 k6 k7 k8 k9 k10 k11 k12 h0 h1 h2 h3 h4 h5 h6 h7 h8 h9 h10 h11 h12
    rintro X ⟨⟨x0,x1,x2,x3⟩,c0,c1,c2,c3,c4,c5,c6,c7,c8,c9,c10,c11,c12,hN,hR,hE⟩
    obtain⟨F0,F1,F2,F3,U0,U1,U2,U3,I0,I1,I2,I3⟩:=res_all hR
    have hz1:=(hN 1 (by omega)).1
    have hz2:=(hN 2 (by omega)).1
    have n0:¬ nb=w.heap.size:=by omega
    have m0:¬ w.heap.size=nb:=by omega
    have n1:¬ nb=w.heap.size+1:=by omega
    have m1:¬ w.heap.size+1=nb:=by omega
    have n2:¬ nb=w.heap.size+1+1:=by omega
    have m2:¬ w.heap.size+1+1=nb:=by omega
    have n3:¬ nb=w.heap.size+1+1+1:=by omega
    have m3:¬ w.heap.size+1+1+1=nb:=by omega
    repeat' (first|go_skip|go_guarded|go_step|go_upon)
    (try simp only[Exit.inBlock,Exit.then])
    refine bodyPost_ret (results_state2 rfl _ _ (by rfl) (set4r hR)) rfl ⟨by first|rfl|simp,bl4 hE (by omega)⟩
  · have hlt:w.heap.size+1+1+1<W3.heap.size:=by(obtain⟨h0,h1,h2,h3,h4,h5,h6,h7,h8,h9,h10,h11,h12,hr',hB'⟩:=hHeld;exact res_lt hr')
    go_simp
    refine hK.out _ _ ?_ (fun hHeld'=>?_)
    · (try dsimp only)
      (obtain⟨h0,h1,h2,h3,h4,h5,h6,h7,h8,h9,h10,h11,h12,hr',hB'⟩:=hHeld;exact⟨bl_cell k1 h0,bl_cell k1 h1,bl_cell k1 h2,bl_cell k1 h3,bl_cell k1 h4,bl_cell k1 h5,bl_cell k1 h6,bl_cell k1 h7,bl_cell k1 h8,bl_cell k1 h9,bl_cell k1 h10,bl_cell k1 h11,bl_cell k1 h12,res_bl hr' k1,bl_alloc hB' _⟩)
    clear hHeld hK K
    rename _=>hHeld
    try simp only[Act.put,List.setIfInBounds_toArray,List.set_cons_zero,List.set_cons_succ]
    refine wpAnyH_abs (F:=fun X=>ResB X W3.heap.size) hHeld (res_new _ _ _ _ _ _ rfl) (fun w4 hHeld hN=>?_)
    generalize W3.heap.size=nb at *
    refine callC (i:=4) rfl (fun K hK=>?_)
    go_simp
    refine(HAV.out _).mono ?_
    rintro e w6 ⟨rfl,hb⟩
    go_wp2_with fail
    refine hK.out _ _ ?_ (fun hHeld'=>?_)
    · (try dsimp only)
      (obtain⟨h0,h1,h2,h3,h4,h5,h6,h7,h8,h9,h10,h11,h12,hr',hB'⟩:=hHeld;exact⟨bl_cell hb h0,bl_cell hb h1,bl_cell hb h2,bl_cell hb h3,bl_cell hb h4,bl_cell hb h5,bl_cell hb h6,bl_cell hb h7,bl_cell hb h8,bl_cell hb h9,bl_cell hb h10,bl_cell hb h11,bl_cell hb h12,res_bl hr' hb,bl_then hB' hb⟩)
    clear hHeld hK K
    rename _=>hHeld
    replace hN:=res_bl hN hb
    clear hb
    try simp only[Act.put,List.setIfInBounds_toArray,List.set_cons_zero,List.set_cons_succ]
    refine callC (i:=11) rfl (fun K hK=>?_)
    obtain⟨h0,h1,h2,h3,h4,h5,h6,h7,h8,h9,h10,h11,h12,hr',hB'⟩:=hHeld
    obtain⟨f0,f1,f2,f3,u0,u1,u2,u3,i0,i1,i2,i3⟩:=res_all hN
    clear hHeld
    have hHeld:True:=trivial
    go_simp
    refine hK.out _ _ ?_ (fun hHeld'=>?_)
    · (try dsimp only)
      (have e0:nb≠w.heap.size:=(by omega);have e1:nb≠w.heap.size+1:=(by omega);have e2:nb≠w.heap.size+1+1:=(by omega);exact⟨far4 h0 e0,far4 h1 e0,far4 h2 e0,far4 h3 e0,far4 h4 e0,far4 h5 e0,far4 h6 e1,far4 h7 e1,far4 h8 e1,far4 h9 e1,far4 h10 e2,far4 h11 e2,far4 h12 e2,res4 hr',bl4 hB' (by omega)⟩)
    clear hHeld hK K
    rename _=>hHeld
    try simp only[Act.put,List.setIfInBounds_toArray,List.set_cons_zero,List.set_cons_succ]
    refine tkx 12 ?_
    refine wpAnyH_done (by kernel_rfl) ?_ _
    clear hr' hB'
    obtain⟨k0,k1,k2,k3,k4,k5,k6,k7,k8,k9,k10,k11,k12,hr'',hE⟩:=hHeld
    refine then_abs (F:=fun X=>(X3 X nb aat alv ahd (X.cell? ⟨nb,3,none⟩=some (.slice none 0 0)))∧P6 X (w.heap.size) k l d b cc o (S4 X (w.heap.size+1) at_ level held a 0 c (X3 X (w.heap.size+1+1) ak anow acost (ResB X nb∧ResB X (w.heap.size+1+1+1)∧Below w.heap.size w X)))) ⟨set4 _ _ _ _ i0 i1 i2 i3,k0,k1,k2,k3,k4,k5,k6,k7,k8,k9,k10,k11,k12,res4 hN,hr'',hE⟩ ?_
    clear hN hr'' hE i0 i1 i2 i3 f0 f1 f2 f3 u0 u1 u2 u3 HAV k0 k1 k2 k3 k4 k5 k6 k7 k8 k9 k10 k11 k12 h0 h1 h2 h3 h4 h5 h6 h7 h8 h9 h10 h11 h12
    rintro X ⟨⟨x0,x1,x2,x3⟩,c0,c1,c2,c3,c4,c5,c6,c7,c8,c9,c10,c11,c12,hN,hR,hE⟩
    obtain⟨F0,F1,F2,F3,U0,U1,U2,U3,I0,I1,I2,I3⟩:=res_all hR
    have hz1:=(hN 1 (by omega)).1
    have hz2:=(hN 2 (by omega)).1
    have n0:¬ nb=w.heap.size:=by omega
    have m0:¬ w.heap.size=nb:=by omega
    have n1:¬ nb=w.heap.size+1:=by omega
    have m1:¬ w.heap.size+1=nb:=by omega
    have n2:¬ nb=w.heap.size+1+1:=by omega
    have m2:¬ w.heap.size+1+1=nb:=by omega
    have n3:¬ nb=w.heap.size+1+1+1:=by omega
    have m3:¬ w.heap.size+1+1+1=nb:=by omega
    repeat' (first|go_skip|go_guarded|go_step|go_upon)
    (try simp only[Exit.inBlock,Exit.then])
    refine bodyPost_ret (results_state2 rfl _ _ (by rfl) (set4r hR)) rfl ⟨by first|rfl|simp,bl4 hE (by omega)⟩
def chgs:Array Value := #[.int .i64 1,.int .i64 0,.int .i64 1,.bool true,.int .i64 2,.int .i64 1,.int .i64 0,.bool true,.int .i64 3,.int .i64 (-1),.int .i64 0,.bool false,.int .i64 4,.int .i64 (-1),.int .i64 1,.bool false]
theorem changes_any (w:World):Calls Tryz.prog 157 #[] w fun e w'=>e=.returned (.agg chgs)∧Below w.heap.size w w':=by
  go_enter Tryz.func157,Tryz.ntmps157
  go_wp2_with fail
  (try simp only[Exit.inBlock,Exit.then])
  refine bodyPost_ret (v:=.agg chgs) (by simp[results,Tryz.results157,go_sem,chgs]) rfl ⟨rfl,k1⟩
theorem idx0 (w:World):(Instr.index 136 (.agg chgs) (.int .i64 0)).run Tryz.prog w=.ok (.agg #[.int .i64 1,.int .i64 0,.int .i64 1,.bool true]) w:=by kernel_rfl
theorem idx1 (w:World):(Instr.index 136 (.agg chgs) (.int .i64 1)).run Tryz.prog w=.ok (.agg #[.int .i64 2,.int .i64 1,.int .i64 0,.bool true]) w:=by kernel_rfl
theorem idx2 (w:World):(Instr.index 136 (.agg chgs) (.int .i64 2)).run Tryz.prog w=.ok (.agg #[.int .i64 3,.int .i64 (-1),.int .i64 0,.bool false]) w:=by kernel_rfl
theorem idx3 (w:World):(Instr.index 136 (.agg chgs) (.int .i64 3)).run Tryz.prog w=.ok (.agg #[.int .i64 4,.int .i64 (-1),.int .i64 1,.bool false]) w:=by kernel_rfl
theorem rounds_abs {P:Program} {c:Code} {Q:Exit→Act→World→Prop} {n:Nat} {a:Act} {w:World} {F:World→Prop} (h:F w) (k:∀ W,F W→Code.rounds P c Q n a W):Code.rounds P c Q n a w:=k w h

theorem cdo_1 (p:Pol) (s:St) (a:Option Addr) (c:Nat) (anow acost:Int) (A:St) (w:World) (h:rightC p s) (hA:A=advC p s anow) (bad:Bool) (hbad:bad=true↔(acost<1∨p.limit - A.held - A.level<acost)) :
    Calls Tryz.prog 116 #[p.v,s.v a 0 c,.agg #[.int .i64 1,.int .i64 anow,.int .i64 acost]] w fun e w' =>
      e=.returned (.tuple #[if bad then s.v a 0 c else .agg #[.int .i64 A.at_,.int .i64 (A.level+acost),.int .i64 (A.held),.slice none 0 0],.bool (!bad)])∧Below w.heap.size w w':=by
  have hlg:=h.2.2.2.2.2.2.2.2
  have hrt:=cright_any p s a 0 c (by rw[hlg];rfl)
  have hav:=cadv_any p s a 0 c anow (by rw[hlg];rfl)
  rw[decide_eq_true h] at hrt
  have hlv:=advC_level p s anow h
  rw[← hA] at hav hlv
  obtain⟨⟨q0,q1,q2,q3,q4,q5,q6⟩,r1,r2,r3,r4,r5,r6,r7,r8⟩:=h
  clear hA
  obtain⟨k,l,d,b,cc,o⟩:=p
  obtain⟨at_,level,held,lg⟩:=s
  obtain⟨aat,alv,ahd,alg⟩:=A
  unfold St.v Pol.v at *
  dsimp only at *
  have hw1:IntKind.i64.wrap (l - ahd)=l - ahd:=IntWalk.i64_in _ (by omega)
  have hw2:IntKind.i64.wrap (l - ahd - alv)=l - ahd - alv:=IntWalk.i64_in _ (by omega)
  have HRT:=Go.Lib.hid hrt
  have HAV:=Go.Lib.hid hav
  have j0:=idx0
  have j1:=idx1
  have j2:=idx2
  have j3:=idx3
  have hcase:(bad=true∧acost<1)∨(bad=true∧¬ acost<1∧l - ahd - alv<acost)∨(bad=false∧¬ acost<1∧¬ l - ahd - alv<acost∧IntKind.i64.wrap acost=acost∧IntKind.i64.wrap (-acost) = -acost∧IntKind.i64.wrap (ahd+acost)=ahd+acost∧IntKind.i64.wrap (ahd + -acost)=ahd - acost∧IntKind.i64.wrap (alv+acost)=alv+acost∧IntKind.i64.wrap ahd=ahd∧IntKind.i64.wrap alv=alv):=by
    cases bad
    · simp at hbad
      refine .inr (.inr ⟨rfl,by omega,by omega,IntWalk.i64_in _ (by omega),IntWalk.i64_in _ (by omega),IntWalk.i64_in _ (by omega),?_,IntWalk.i64_in _ (by omega),IntWalk.i64_in _ (by omega),IntWalk.i64_in _ (by omega)⟩)
      rw[IntWalk.i64_in _ (by omega)]
      rfl
    · simp at hbad
      rcases hbad with hx|hx
      · exact .inl ⟨rfl,hx⟩
      · by_cases hy:acost<1
        · exact .inl ⟨rfl,hy⟩
        · exact .inr (.inl ⟨rfl,hy,hx⟩)
  have HCS:=Go.Lib.hid hcase
  clear hbad hcase
  clear hrt hav hlv q0 q1 q2 q3 q4 q5 q6 r1 r2 r3 r4 r5 r6 r7 r8 hlg
  go_enter Tryz.func116,Tryz.ntmps116
  go_wp2_with go_step3
  refine(HRT.out _).mono ?_
  rintro e w1 ⟨rfl,hb⟩
  have hB:Below w.heap.size w w1:=bl_then k4 hb
  obtain⟨c0,c1,c2,c3,c4,c5⟩:=b6 (w.heap.size) k l d b cc o hb
  have c6:=bl_cell (v:=.int .i64 at_) hb (show World.cell? _ ⟨w.heap.size+1,0,none⟩=_ by go_simp)
  have c7:=bl_cell (v:=.int .i64 level) hb (show World.cell? _ ⟨w.heap.size+1,1,none⟩=_ by go_simp)
  have c8:=bl_cell (v:=.int .i64 held) hb (show World.cell? _ ⟨w.heap.size+1,2,none⟩=_ by go_simp)
  have c9:=bl_cell (v:=.slice a 0 c) hb (show World.cell? _ ⟨w.heap.size+1,3,none⟩=_ by go_simp)
  obtain⟨c10,c11,c12⟩:=b3 (w.heap.size+1+1) 1 anow acost hb
  have hR:ResB w1 (w.heap.size+1+1+1):=res_bl (res_new _ _ _ _ _ _ (by simp)) hb
  clear hb HRT
  go_wp2_with go_step3
  refine(HAV.out _).mono ?_
  rintro e w2 ⟨rfl,hb⟩
  clear HAV
  have d0:=bl_cell hb c0
  have d1:=bl_cell hb c1
  have d2:=bl_cell hb c2
  have d3:=bl_cell hb c3
  have d4:=bl_cell hb c4
  have d5:=bl_cell hb c5
  have d6:=bl_cell hb c6
  have d7:=bl_cell hb c7
  have d8:=bl_cell hb c8
  have d9:=bl_cell hb c9
  have d10:=bl_cell hb c10
  have d11:=bl_cell hb c11
  have d12:=bl_cell hb c12
  have dR:=res_bl hR hb
  have dB:=bl_then hB hb
  have hlt:=res_lt dR
  clear hR hB hb c0 c1 c2 c3 c4 c5 c6 c7 c8 c9 c10 c11 c12
  go_wp2_with go_step3
  refine(changes_any _).mono ?_
  rintro e w3 ⟨rfl,hb⟩
  have c0:=bl_cell hb (bl_cell (bl_alloc (bl_alloc (bl_refl w2) _) _) d0)
  have c1:=bl_cell hb (bl_cell (bl_alloc (bl_alloc (bl_refl w2) _) _) d1)
  have c2:=bl_cell hb (bl_cell (bl_alloc (bl_alloc (bl_refl w2) _) _) d2)
  have c3:=bl_cell hb (bl_cell (bl_alloc (bl_alloc (bl_refl w2) _) _) d3)
  have c4:=bl_cell hb (bl_cell (bl_alloc (bl_alloc (bl_refl w2) _) _) d4)
  have c5:=bl_cell hb (bl_cell (bl_alloc (bl_alloc (bl_refl w2) _) _) d5)
  have c6:=bl_cell hb (bl_cell (bl_alloc (bl_alloc (bl_refl w2) _) _) d6)
  have c7:=bl_cell hb (bl_cell (bl_alloc (bl_alloc (bl_refl w2) _) _) d7)
  have c8:=bl_cell hb (bl_cell (bl_alloc (bl_alloc (bl_refl w2) _) _) d8)
  have c9:=bl_cell hb (bl_cell (bl_alloc (bl_alloc (bl_refl w2) _) _) d9)
  have c10:=bl_cell hb (bl_cell (bl_alloc (bl_alloc (bl_refl w2) _) _) d10)
  have c11:=bl_cell hb (bl_cell (bl_alloc (bl_alloc (bl_refl w2) _) _) d11)
  have c12:=bl_cell hb (bl_cell (bl_alloc (bl_alloc (bl_refl w2) _) _) d12)
  have hR:=res_bl (res_bl dR (bl_alloc (bl_alloc (bl_refl w2) _) _)) hb
  have hB:=bl_then (bl_alloc (bl_alloc dB _) _) hb
  obtain⟨x0,x1,x2,x3⟩:=b4 (w2.heap.size) aat alv ahd none 0 0 hb
  have y0:=bl_cell (v:=.int .i64 0) hb (show World.cell? _ ⟨w2.heap.size+1,0,none⟩=_ by go_simp)
  have y1:=bl_cell (v:=.int .i64 0) hb (show World.cell? _ ⟨w2.heap.size+1,1,none⟩=_ by go_simp)
  have y2:=bl_cell (v:=.int .i64 0) hb (show World.cell? _ ⟨w2.heap.size+1,2,none⟩=_ by go_simp)
  have y3:=bl_cell (v:=.bool false) hb (show World.cell? _ ⟨w2.heap.size+1,3,none⟩=_ by go_simp)
  have hY:ResB w3 (w2.heap.size+1):=res_bl (res_new _ _ _ _ _ _ (by simp)) hb
  have hlt3:w2.heap.size+1<w3.heap.size:=res_lt hY
  generalize w2.heap.size=nb at *
  clear hb dR dB d0 d1 d2 d3 d4 d5 d6 d7 d8 d9 d10 d11 d12
  obtain⟨F0,F1,F2,F3,U0,U1,U2,U3,I0,I1,I2,I3⟩:=res_all hR
  obtain⟨G0,G1,G2,G3,V0,V1,V2,V3,-⟩:=res_all hY
  go_wp2_with go_step3
  have n0:¬ nb=w.heap.size:=by omega
  have m0:¬ w.heap.size=nb:=by omega
  have n0':¬ nb+1=w.heap.size:=by omega
  have m0':¬ w.heap.size=nb+1:=by omega
  have n1:¬ nb=w.heap.size+1:=by omega
  have m1:¬ w.heap.size+1=nb:=by omega
  have n1':¬ nb+1=w.heap.size+1:=by omega
  have m1':¬ w.heap.size+1=nb+1:=by omega
  have n2:¬ nb=w.heap.size+1+1:=by omega
  have m2:¬ w.heap.size+1+1=nb:=by omega
  have n2':¬ nb+1=w.heap.size+1+1:=by omega
  have m2':¬ w.heap.size+1+1=nb+1:=by omega
  have n3:¬ nb=w.heap.size+1+1+1:=by omega
  have m3:¬ w.heap.size+1+1+1=nb:=by omega
  have n3':¬ nb+1=w.heap.size+1+1+1:=by omega
  have m3':¬ w.heap.size+1+1+1=nb+1:=by omega
  rcases HCS.out with⟨rfl,e1⟩|⟨rfl,e1,e2⟩|⟨rfl,e1,e2,p1,p2,p3,p4,p5,p6,p7⟩
  all_goals clear HCS
  · refine wp_loop_rounds 1 ?_
    refine rounds_abs (F:=fun X=>P6 X (w.heap.size) k l d b cc o (S4 X (w.heap.size+1) at_ level held a 0 c (X3 X (w.heap.size+1+1) 1 anow acost (S4 X nb aat alv ahd none 0 0 (X3 X (nb+1) 0 0 0 (X.cell? ⟨nb+1,3,none⟩=some (.bool false)∧ResB X (w.heap.size+1+1+1)∧ResB X (nb+1)∧Below w.heap.size w X)))))) ⟨c0,c1,c2,c3,c4,c5,c6,c7,c8,c9,c10,c11,c12,x0,x1,x2,x3,y0,y1,y2,y3,hR,hY,hB⟩ ?_
    clear hR hY hB F0 F1 F2 F3 I0 I1 I2 I3 G0 G1 G2 G3 c0 c1 c2 c3 c4 c5 c6 c7 c8 c9 c10 c11 c12 x0 x1 x2 x3 y0 y1 y2 y3
    rintro W0 ⟨c0,c1,c2,c3,c4,c5,c6,c7,c8,c9,c10,c11,c12,x0,x1,x2,x3,y0,y1,y2,y3,hR,hY,hB⟩
    obtain⟨F0,F1,F2,F3,U0,U1,U2,U3,I0,I1,I2,I3⟩:=res_all hR
    obtain⟨G0,G1,G2,G3,-⟩:=res_all hY
    have lz:nb+1<W0.heap.size:=res_lt hY
    have lz':nb<W0.heap.size:=by omega
    have l0:w.heap.size<W0.heap.size:=by omega
    have l1:w.heap.size+1<W0.heap.size:=by omega
    have l2:w.heap.size+1+1<W0.heap.size:=by omega
    have l3:w.heap.size+1+1+1<W0.heap.size:=by omega
    refine Eq.mpr (rounds_succ (n:=0)) ?_
    repeat' (first|go_skip|go_guarded|go_step|go_step3|go_upon)
    (try simp only[Exit.inBlock,Exit.then,Exit.noGoto_ret])
    refine bodyPost_ret (results_state2 rfl _ _ (by rfl) (cells4_alloc (set4r (res4 hR)))) rfl ⟨by first|rfl|simp,(bl_alloc (bl4 (bl4 hB (by omega)) (by omega)) _)⟩
  · refine wp_loop_rounds 1 ?_
    refine rounds_abs (F:=fun X=>P6 X (w.heap.size) k l d b cc o (S4 X (w.heap.size+1) at_ level held a 0 c (X3 X (w.heap.size+1+1) 1 anow acost (S4 X nb aat alv ahd none 0 0 (X3 X (nb+1) 0 0 0 (X.cell? ⟨nb+1,3,none⟩=some (.bool false)∧ResB X (w.heap.size+1+1+1)∧ResB X (nb+1)∧Below w.heap.size w X)))))) ⟨c0,c1,c2,c3,c4,c5,c6,c7,c8,c9,c10,c11,c12,x0,x1,x2,x3,y0,y1,y2,y3,hR,hY,hB⟩ ?_
    clear hR hY hB F0 F1 F2 F3 I0 I1 I2 I3 G0 G1 G2 G3 c0 c1 c2 c3 c4 c5 c6 c7 c8 c9 c10 c11 c12 x0 x1 x2 x3 y0 y1 y2 y3
    rintro W0 ⟨c0,c1,c2,c3,c4,c5,c6,c7,c8,c9,c10,c11,c12,x0,x1,x2,x3,y0,y1,y2,y3,hR,hY,hB⟩
    obtain⟨F0,F1,F2,F3,U0,U1,U2,U3,I0,I1,I2,I3⟩:=res_all hR
    obtain⟨G0,G1,G2,G3,-⟩:=res_all hY
    have lz:nb+1<W0.heap.size:=res_lt hY
    have lz':nb<W0.heap.size:=by omega
    have l0:w.heap.size<W0.heap.size:=by omega
    have l1:w.heap.size+1<W0.heap.size:=by omega
    have l2:w.heap.size+1+1<W0.heap.size:=by omega
    have l3:w.heap.size+1+1+1<W0.heap.size:=by omega
    refine Eq.mpr (rounds_succ (n:=0)) ?_
    repeat' (first|go_skip|go_guarded|go_step|go_step3|go_upon)
    (try simp only[Exit.inBlock,Exit.then,Exit.noGoto_ret])
    refine bodyPost_ret (results_state2 rfl _ _ (by rfl) (cells4_alloc (set4r (res4 hR)))) rfl ⟨by first|rfl|simp,(bl_alloc (bl4 (bl4 hB (by omega)) (by omega)) _)⟩
  · refine wp_loop_rounds 1 ?_
    refine rounds_abs (F:=fun X=>P6 X (w.heap.size) k l d b cc o (S4 X (w.heap.size+1) at_ level held a 0 c (X3 X (w.heap.size+1+1) 1 anow acost (S4 X nb aat alv ahd none 0 0 (X3 X (nb+1) 0 0 0 (X.cell? ⟨nb+1,3,none⟩=some (.bool false)∧ResB X (w.heap.size+1+1+1)∧ResB X (nb+1)∧Below w.heap.size w X)))))) ⟨c0,c1,c2,c3,c4,c5,c6,c7,c8,c9,c10,c11,c12,x0,x1,x2,x3,y0,y1,y2,y3,hR,hY,hB⟩ ?_
    clear hR hY hB F0 F1 F2 F3 I0 I1 I2 I3 G0 G1 G2 G3 c0 c1 c2 c3 c4 c5 c6 c7 c8 c9 c10 c11 c12 x0 x1 x2 x3 y0 y1 y2 y3
    rintro W0 ⟨c0,c1,c2,c3,c4,c5,c6,c7,c8,c9,c10,c11,c12,x0,x1,x2,x3,y0,y1,y2,y3,hR,hY,hB⟩
    obtain⟨F0,F1,F2,F3,U0,U1,U2,U3,I0,I1,I2,I3⟩:=res_all hR
    obtain⟨G0,G1,G2,G3,-⟩:=res_all hY
    have lz:nb+1<W0.heap.size:=res_lt hY
    have lz':nb<W0.heap.size:=by omega
    have l0:w.heap.size<W0.heap.size:=by omega
    have l1:w.heap.size+1<W0.heap.size:=by omega
    have l2:w.heap.size+1+1<W0.heap.size:=by omega
    have l3:w.heap.size+1+1+1<W0.heap.size:=by omega
    refine Eq.mpr (rounds_succ (n:=0)) ?_
    repeat' (first|go_skip|go_guarded|go_step|go_step3|go_upon)
    (try simp only[Exit.inBlock,Exit.then,Exit.noGoto_ret])
    refine bodyPost_ret (results_state2 rfl _ _ (by rfl) (cells4_alloc (set4r (res4 hR)))) rfl ⟨by first|rfl|simp,(bl_alloc (bl4 (bl4 hB (by omega)) (by omega)) _)⟩

theorem cdo_2 (p:Pol) (s:St) (a:Option Addr) (c:Nat) (anow acost:Int) (A:St) (w:World) (h:rightC p s) (hA:A=advC p s anow) (bad:Bool) (hbad:bad=true↔(acost<1∨p.limit - A.held - A.level<acost)) :
    Calls Tryz.prog 116 #[p.v,s.v a 0 c,.agg #[.int .i64 2,.int .i64 anow,.int .i64 acost]] w fun e w' =>
      e=.returned (.tuple #[if bad then s.v a 0 c else .agg #[.int .i64 A.at_,.int .i64 (A.level),.int .i64 (A.held+acost),.slice none 0 0],.bool (!bad)])∧Below w.heap.size w w':=by
  have hlg:=h.2.2.2.2.2.2.2.2
  have hrt:=cright_any p s a 0 c (by rw[hlg];rfl)
  have hav:=cadv_any p s a 0 c anow (by rw[hlg];rfl)
  rw[decide_eq_true h] at hrt
  have hlv:=advC_level p s anow h
  rw[← hA] at hav hlv
  obtain⟨⟨q0,q1,q2,q3,q4,q5,q6⟩,r1,r2,r3,r4,r5,r6,r7,r8⟩:=h
  clear hA
  obtain⟨k,l,d,b,cc,o⟩:=p
  obtain⟨at_,level,held,lg⟩:=s
  obtain⟨aat,alv,ahd,alg⟩:=A
  unfold St.v Pol.v at *
  dsimp only at *
  have hw1:IntKind.i64.wrap (l - ahd)=l - ahd:=IntWalk.i64_in _ (by omega)
  have hw2:IntKind.i64.wrap (l - ahd - alv)=l - ahd - alv:=IntWalk.i64_in _ (by omega)
  have HRT:=Go.Lib.hid hrt
  have HAV:=Go.Lib.hid hav
  have j0:=idx0
  have j1:=idx1
  have j2:=idx2
  have j3:=idx3
  have hcase:(bad=true∧acost<1)∨(bad=true∧¬ acost<1∧l - ahd - alv<acost)∨(bad=false∧¬ acost<1∧¬ l - ahd - alv<acost∧IntKind.i64.wrap acost=acost∧IntKind.i64.wrap (-acost) = -acost∧IntKind.i64.wrap (ahd+acost)=ahd+acost∧IntKind.i64.wrap (ahd + -acost)=ahd - acost∧IntKind.i64.wrap (alv+acost)=alv+acost∧IntKind.i64.wrap ahd=ahd∧IntKind.i64.wrap alv=alv):=by
    cases bad
    · simp at hbad
      refine .inr (.inr ⟨rfl,by omega,by omega,IntWalk.i64_in _ (by omega),IntWalk.i64_in _ (by omega),IntWalk.i64_in _ (by omega),?_,IntWalk.i64_in _ (by omega),IntWalk.i64_in _ (by omega),IntWalk.i64_in _ (by omega)⟩)
      rw[IntWalk.i64_in _ (by omega)]
      rfl
    · simp at hbad
      rcases hbad with hx|hx
      · exact .inl ⟨rfl,hx⟩
      · by_cases hy:acost<1
        · exact .inl ⟨rfl,hy⟩
        · exact .inr (.inl ⟨rfl,hy,hx⟩)
  have HCS:=Go.Lib.hid hcase
  clear hbad hcase
  clear hrt hav hlv q0 q1 q2 q3 q4 q5 q6 r1 r2 r3 r4 r5 r6 r7 r8 hlg
  go_enter Tryz.func116,Tryz.ntmps116
  go_wp2_with go_step3
  refine(HRT.out _).mono ?_
  rintro e w1 ⟨rfl,hb⟩
  have hB:Below w.heap.size w w1:=bl_then k4 hb
  obtain⟨c0,c1,c2,c3,c4,c5⟩:=b6 (w.heap.size) k l d b cc o hb
  have c6:=bl_cell (v:=.int .i64 at_) hb (show World.cell? _ ⟨w.heap.size+1,0,none⟩=_ by go_simp)
  have c7:=bl_cell (v:=.int .i64 level) hb (show World.cell? _ ⟨w.heap.size+1,1,none⟩=_ by go_simp)
  have c8:=bl_cell (v:=.int .i64 held) hb (show World.cell? _ ⟨w.heap.size+1,2,none⟩=_ by go_simp)
  have c9:=bl_cell (v:=.slice a 0 c) hb (show World.cell? _ ⟨w.heap.size+1,3,none⟩=_ by go_simp)
  obtain⟨c10,c11,c12⟩:=b3 (w.heap.size+1+1) 2 anow acost hb
  have hR:ResB w1 (w.heap.size+1+1+1):=res_bl (res_new _ _ _ _ _ _ (by simp)) hb
  clear hb HRT
  go_wp2_with go_step3
  refine(HAV.out _).mono ?_
  rintro e w2 ⟨rfl,hb⟩
  clear HAV
  have d0:=bl_cell hb c0
  have d1:=bl_cell hb c1
  have d2:=bl_cell hb c2
  have d3:=bl_cell hb c3
  have d4:=bl_cell hb c4
  have d5:=bl_cell hb c5
  have d6:=bl_cell hb c6
  have d7:=bl_cell hb c7
  have d8:=bl_cell hb c8
  have d9:=bl_cell hb c9
  have d10:=bl_cell hb c10
  have d11:=bl_cell hb c11
  have d12:=bl_cell hb c12
  have dR:=res_bl hR hb
  have dB:=bl_then hB hb
  have hlt:=res_lt dR
  clear hR hB hb c0 c1 c2 c3 c4 c5 c6 c7 c8 c9 c10 c11 c12
  go_wp2_with go_step3
  refine(changes_any _).mono ?_
  rintro e w3 ⟨rfl,hb⟩
  have c0:=bl_cell hb (bl_cell (bl_alloc (bl_alloc (bl_refl w2) _) _) d0)
  have c1:=bl_cell hb (bl_cell (bl_alloc (bl_alloc (bl_refl w2) _) _) d1)
  have c2:=bl_cell hb (bl_cell (bl_alloc (bl_alloc (bl_refl w2) _) _) d2)
  have c3:=bl_cell hb (bl_cell (bl_alloc (bl_alloc (bl_refl w2) _) _) d3)
  have c4:=bl_cell hb (bl_cell (bl_alloc (bl_alloc (bl_refl w2) _) _) d4)
  have c5:=bl_cell hb (bl_cell (bl_alloc (bl_alloc (bl_refl w2) _) _) d5)
  have c6:=bl_cell hb (bl_cell (bl_alloc (bl_alloc (bl_refl w2) _) _) d6)
  have c7:=bl_cell hb (bl_cell (bl_alloc (bl_alloc (bl_refl w2) _) _) d7)
  have c8:=bl_cell hb (bl_cell (bl_alloc (bl_alloc (bl_refl w2) _) _) d8)
  have c9:=bl_cell hb (bl_cell (bl_alloc (bl_alloc (bl_refl w2) _) _) d9)
  have c10:=bl_cell hb (bl_cell (bl_alloc (bl_alloc (bl_refl w2) _) _) d10)
  have c11:=bl_cell hb (bl_cell (bl_alloc (bl_alloc (bl_refl w2) _) _) d11)
  have c12:=bl_cell hb (bl_cell (bl_alloc (bl_alloc (bl_refl w2) _) _) d12)
  have hR:=res_bl (res_bl dR (bl_alloc (bl_alloc (bl_refl w2) _) _)) hb
  have hB:=bl_then (bl_alloc (bl_alloc dB _) _) hb
  obtain⟨x0,x1,x2,x3⟩:=b4 (w2.heap.size) aat alv ahd none 0 0 hb
  have y0:=bl_cell (v:=.int .i64 0) hb (show World.cell? _ ⟨w2.heap.size+1,0,none⟩=_ by go_simp)
  have y1:=bl_cell (v:=.int .i64 0) hb (show World.cell? _ ⟨w2.heap.size+1,1,none⟩=_ by go_simp)
  have y2:=bl_cell (v:=.int .i64 0) hb (show World.cell? _ ⟨w2.heap.size+1,2,none⟩=_ by go_simp)
  have y3:=bl_cell (v:=.bool false) hb (show World.cell? _ ⟨w2.heap.size+1,3,none⟩=_ by go_simp)
  have hY:ResB w3 (w2.heap.size+1):=res_bl (res_new _ _ _ _ _ _ (by simp)) hb
  have hlt3:w2.heap.size+1<w3.heap.size:=res_lt hY
  generalize w2.heap.size=nb at *
  clear hb dR dB d0 d1 d2 d3 d4 d5 d6 d7 d8 d9 d10 d11 d12
  obtain⟨F0,F1,F2,F3,U0,U1,U2,U3,I0,I1,I2,I3⟩:=res_all hR
  obtain⟨G0,G1,G2,G3,V0,V1,V2,V3,-⟩:=res_all hY
  go_wp2_with go_step3
  have n0:¬ nb=w.heap.size:=by omega
  have m0:¬ w.heap.size=nb:=by omega
  have n0':¬ nb+1=w.heap.size:=by omega
  have m0':¬ w.heap.size=nb+1:=by omega
  have n1:¬ nb=w.heap.size+1:=by omega
  have m1:¬ w.heap.size+1=nb:=by omega
  have n1':¬ nb+1=w.heap.size+1:=by omega
  have m1':¬ w.heap.size+1=nb+1:=by omega
  have n2:¬ nb=w.heap.size+1+1:=by omega
  have m2:¬ w.heap.size+1+1=nb:=by omega
  have n2':¬ nb+1=w.heap.size+1+1:=by omega
  have m2':¬ w.heap.size+1+1=nb+1:=by omega
  have n3:¬ nb=w.heap.size+1+1+1:=by omega
  have m3:¬ w.heap.size+1+1+1=nb:=by omega
  have n3':¬ nb+1=w.heap.size+1+1+1:=by omega
  have m3':¬ w.heap.size+1+1+1=nb+1:=by omega
  rcases HCS.out with⟨rfl,e1⟩|⟨rfl,e1,e2⟩|⟨rfl,e1,e2,p1,p2,p3,p4,p5,p6,p7⟩
  all_goals clear HCS
  · refine wp_loop_rounds 2 ?_
    refine rounds_abs (F:=fun X=>P6 X (w.heap.size) k l d b cc o (S4 X (w.heap.size+1) at_ level held a 0 c (X3 X (w.heap.size+1+1) 2 anow acost (S4 X nb aat alv ahd none 0 0 (X3 X (nb+1) 0 0 0 (X.cell? ⟨nb+1,3,none⟩=some (.bool false)∧ResB X (w.heap.size+1+1+1)∧ResB X (nb+1)∧Below w.heap.size w X)))))) ⟨c0,c1,c2,c3,c4,c5,c6,c7,c8,c9,c10,c11,c12,x0,x1,x2,x3,y0,y1,y2,y3,hR,hY,hB⟩ ?_
    clear hR hY hB F0 F1 F2 F3 I0 I1 I2 I3 G0 G1 G2 G3 c0 c1 c2 c3 c4 c5 c6 c7 c8 c9 c10 c11 c12 x0 x1 x2 x3 y0 y1 y2 y3
    rintro W0 ⟨c0,c1,c2,c3,c4,c5,c6,c7,c8,c9,c10,c11,c12,x0,x1,x2,x3,y0,y1,y2,y3,hR,hY,hB⟩
    obtain⟨F0,F1,F2,F3,U0,U1,U2,U3,I0,I1,I2,I3⟩:=res_all hR
    obtain⟨G0,G1,G2,G3,-⟩:=res_all hY
    have lz:nb+1<W0.heap.size:=res_lt hY
    have lz':nb<W0.heap.size:=by omega
    have l0:w.heap.size<W0.heap.size:=by omega
    have l1:w.heap.size+1<W0.heap.size:=by omega
    have l2:w.heap.size+1+1<W0.heap.size:=by omega
    have l3:w.heap.size+1+1+1<W0.heap.size:=by omega
    refine Eq.mpr (rounds_succ (n:=1)) ?_
    repeat' (first|go_skip|go_guarded|go_step|go_step3|go_upon)
    clear lz lz' l0 l1 l2 l3
    refine rounds_abs (F:=fun X=>P6 X (w.heap.size) k l d b cc o (S4 X (w.heap.size+1) at_ level held a 0 c (X3 X (w.heap.size+1+1) 2 anow acost (S4 X nb aat alv ahd none 0 0 (X3 X (nb+1) 0 0 0 (X.cell? ⟨nb+1,3,none⟩=some (.bool false)∧ResB X (w.heap.size+1+1+1)∧ResB X (nb+1)∧Below w.heap.size w X)))))) ⟨bl_cell k1 c0,bl_cell k1 c1,bl_cell k1 c2,bl_cell k1 c3,bl_cell k1 c4,bl_cell k1 c5,bl_cell k1 c6,bl_cell k1 c7,bl_cell k1 c8,bl_cell k1 c9,bl_cell k1 c10,bl_cell k1 c11,bl_cell k1 c12,bl_cell k1 x0,bl_cell k1 x1,bl_cell k1 x2,bl_cell k1 x3,bl_cell k1 y0,bl_cell k1 y1,bl_cell k1 y2,bl_cell k1 y3,res_bl hR k1,res_bl hY k1,bl_alloc hB _⟩ ?_
    clear hR hY hB F0 F1 F2 F3 I0 I1 I2 I3 G0 G1 G2 G3 c0 c1 c2 c3 c4 c5 c6 c7 c8 c9 c10 c11 c12 x0 x1 x2 x3 y0 y1 y2 y3
    rintro W1 ⟨c0,c1,c2,c3,c4,c5,c6,c7,c8,c9,c10,c11,c12,x0,x1,x2,x3,y0,y1,y2,y3,hR,hY,hB⟩
    obtain⟨F0,F1,F2,F3,U0,U1,U2,U3,I0,I1,I2,I3⟩:=res_all hR
    obtain⟨G0,G1,G2,G3,-⟩:=res_all hY
    have lz:nb+1<W1.heap.size:=res_lt hY
    have lz':nb<W1.heap.size:=by omega
    have l0:w.heap.size<W1.heap.size:=by omega
    have l1:w.heap.size+1<W1.heap.size:=by omega
    have l2:w.heap.size+1+1<W1.heap.size:=by omega
    have l3:w.heap.size+1+1+1<W1.heap.size:=by omega
    refine Eq.mpr (rounds_succ (n:=0)) ?_
    repeat' (first|go_skip|go_guarded|go_step|go_step3|go_upon)
    (try simp only[Exit.inBlock,Exit.then,Exit.noGoto_ret])
    refine bodyPost_ret (results_state2 rfl _ _ (by rfl) (cells4_alloc (set4r (res4 hR)))) rfl ⟨by first|rfl|simp,(bl_alloc (bl4 (bl4 hB (by omega)) (by omega)) _)⟩
  · refine wp_loop_rounds 2 ?_
    refine rounds_abs (F:=fun X=>P6 X (w.heap.size) k l d b cc o (S4 X (w.heap.size+1) at_ level held a 0 c (X3 X (w.heap.size+1+1) 2 anow acost (S4 X nb aat alv ahd none 0 0 (X3 X (nb+1) 0 0 0 (X.cell? ⟨nb+1,3,none⟩=some (.bool false)∧ResB X (w.heap.size+1+1+1)∧ResB X (nb+1)∧Below w.heap.size w X)))))) ⟨c0,c1,c2,c3,c4,c5,c6,c7,c8,c9,c10,c11,c12,x0,x1,x2,x3,y0,y1,y2,y3,hR,hY,hB⟩ ?_
    clear hR hY hB F0 F1 F2 F3 I0 I1 I2 I3 G0 G1 G2 G3 c0 c1 c2 c3 c4 c5 c6 c7 c8 c9 c10 c11 c12 x0 x1 x2 x3 y0 y1 y2 y3
    rintro W0 ⟨c0,c1,c2,c3,c4,c5,c6,c7,c8,c9,c10,c11,c12,x0,x1,x2,x3,y0,y1,y2,y3,hR,hY,hB⟩
    obtain⟨F0,F1,F2,F3,U0,U1,U2,U3,I0,I1,I2,I3⟩:=res_all hR
    obtain⟨G0,G1,G2,G3,-⟩:=res_all hY
    have lz:nb+1<W0.heap.size:=res_lt hY
    have lz':nb<W0.heap.size:=by omega
    have l0:w.heap.size<W0.heap.size:=by omega
    have l1:w.heap.size+1<W0.heap.size:=by omega
    have l2:w.heap.size+1+1<W0.heap.size:=by omega
    have l3:w.heap.size+1+1+1<W0.heap.size:=by omega
    refine Eq.mpr (rounds_succ (n:=1)) ?_
    repeat' (first|go_skip|go_guarded|go_step|go_step3|go_upon)
    clear lz lz' l0 l1 l2 l3
    refine rounds_abs (F:=fun X=>P6 X (w.heap.size) k l d b cc o (S4 X (w.heap.size+1) at_ level held a 0 c (X3 X (w.heap.size+1+1) 2 anow acost (S4 X nb aat alv ahd none 0 0 (X3 X (nb+1) 0 0 0 (X.cell? ⟨nb+1,3,none⟩=some (.bool false)∧ResB X (w.heap.size+1+1+1)∧ResB X (nb+1)∧Below w.heap.size w X)))))) ⟨bl_cell k1 c0,bl_cell k1 c1,bl_cell k1 c2,bl_cell k1 c3,bl_cell k1 c4,bl_cell k1 c5,bl_cell k1 c6,bl_cell k1 c7,bl_cell k1 c8,bl_cell k1 c9,bl_cell k1 c10,bl_cell k1 c11,bl_cell k1 c12,bl_cell k1 x0,bl_cell k1 x1,bl_cell k1 x2,bl_cell k1 x3,bl_cell k1 y0,bl_cell k1 y1,bl_cell k1 y2,bl_cell k1 y3,res_bl hR k1,res_bl hY k1,bl_alloc hB _⟩ ?_
    clear hR hY hB F0 F1 F2 F3 I0 I1 I2 I3 G0 G1 G2 G3 c0 c1 c2 c3 c4 c5 c6 c7 c8 c9 c10 c11 c12 x0 x1 x2 x3 y0 y1 y2 y3
    rintro W1 ⟨c0,c1,c2,c3,c4,c5,c6,c7,c8,c9,c10,c11,c12,x0,x1,x2,x3,y0,y1,y2,y3,hR,hY,hB⟩
    obtain⟨F0,F1,F2,F3,U0,U1,U2,U3,I0,I1,I2,I3⟩:=res_all hR
    obtain⟨G0,G1,G2,G3,-⟩:=res_all hY
    have lz:nb+1<W1.heap.size:=res_lt hY
    have lz':nb<W1.heap.size:=by omega
    have l0:w.heap.size<W1.heap.size:=by omega
    have l1:w.heap.size+1<W1.heap.size:=by omega
    have l2:w.heap.size+1+1<W1.heap.size:=by omega
    have l3:w.heap.size+1+1+1<W1.heap.size:=by omega
    refine Eq.mpr (rounds_succ (n:=0)) ?_
    repeat' (first|go_skip|go_guarded|go_step|go_step3|go_upon)
    (try simp only[Exit.inBlock,Exit.then,Exit.noGoto_ret])
    refine bodyPost_ret (results_state2 rfl _ _ (by rfl) (cells4_alloc (set4r (res4 hR)))) rfl ⟨by first|rfl|simp,(bl_alloc (bl4 (bl4 hB (by omega)) (by omega)) _)⟩
  · refine wp_loop_rounds 2 ?_
    refine rounds_abs (F:=fun X=>P6 X (w.heap.size) k l d b cc o (S4 X (w.heap.size+1) at_ level held a 0 c (X3 X (w.heap.size+1+1) 2 anow acost (S4 X nb aat alv ahd none 0 0 (X3 X (nb+1) 0 0 0 (X.cell? ⟨nb+1,3,none⟩=some (.bool false)∧ResB X (w.heap.size+1+1+1)∧ResB X (nb+1)∧Below w.heap.size w X)))))) ⟨c0,c1,c2,c3,c4,c5,c6,c7,c8,c9,c10,c11,c12,x0,x1,x2,x3,y0,y1,y2,y3,hR,hY,hB⟩ ?_
    clear hR hY hB F0 F1 F2 F3 I0 I1 I2 I3 G0 G1 G2 G3 c0 c1 c2 c3 c4 c5 c6 c7 c8 c9 c10 c11 c12 x0 x1 x2 x3 y0 y1 y2 y3
    rintro W0 ⟨c0,c1,c2,c3,c4,c5,c6,c7,c8,c9,c10,c11,c12,x0,x1,x2,x3,y0,y1,y2,y3,hR,hY,hB⟩
    obtain⟨F0,F1,F2,F3,U0,U1,U2,U3,I0,I1,I2,I3⟩:=res_all hR
    obtain⟨G0,G1,G2,G3,-⟩:=res_all hY
    have lz:nb+1<W0.heap.size:=res_lt hY
    have lz':nb<W0.heap.size:=by omega
    have l0:w.heap.size<W0.heap.size:=by omega
    have l1:w.heap.size+1<W0.heap.size:=by omega
    have l2:w.heap.size+1+1<W0.heap.size:=by omega
    have l3:w.heap.size+1+1+1<W0.heap.size:=by omega
    refine Eq.mpr (rounds_succ (n:=1)) ?_
    repeat' (first|go_skip|go_guarded|go_step|go_step3|go_upon)
    clear lz lz' l0 l1 l2 l3
    refine rounds_abs (F:=fun X=>P6 X (w.heap.size) k l d b cc o (S4 X (w.heap.size+1) at_ level held a 0 c (X3 X (w.heap.size+1+1) 2 anow acost (S4 X nb aat alv ahd none 0 0 (X3 X (nb+1) 0 0 0 (X.cell? ⟨nb+1,3,none⟩=some (.bool false)∧ResB X (w.heap.size+1+1+1)∧ResB X (nb+1)∧Below w.heap.size w X)))))) ⟨bl_cell k1 c0,bl_cell k1 c1,bl_cell k1 c2,bl_cell k1 c3,bl_cell k1 c4,bl_cell k1 c5,bl_cell k1 c6,bl_cell k1 c7,bl_cell k1 c8,bl_cell k1 c9,bl_cell k1 c10,bl_cell k1 c11,bl_cell k1 c12,bl_cell k1 x0,bl_cell k1 x1,bl_cell k1 x2,bl_cell k1 x3,bl_cell k1 y0,bl_cell k1 y1,bl_cell k1 y2,bl_cell k1 y3,res_bl hR k1,res_bl hY k1,bl_alloc hB _⟩ ?_
    clear hR hY hB F0 F1 F2 F3 I0 I1 I2 I3 G0 G1 G2 G3 c0 c1 c2 c3 c4 c5 c6 c7 c8 c9 c10 c11 c12 x0 x1 x2 x3 y0 y1 y2 y3
    rintro W1 ⟨c0,c1,c2,c3,c4,c5,c6,c7,c8,c9,c10,c11,c12,x0,x1,x2,x3,y0,y1,y2,y3,hR,hY,hB⟩
    obtain⟨F0,F1,F2,F3,U0,U1,U2,U3,I0,I1,I2,I3⟩:=res_all hR
    obtain⟨G0,G1,G2,G3,-⟩:=res_all hY
    have lz:nb+1<W1.heap.size:=res_lt hY
    have lz':nb<W1.heap.size:=by omega
    have l0:w.heap.size<W1.heap.size:=by omega
    have l1:w.heap.size+1<W1.heap.size:=by omega
    have l2:w.heap.size+1+1<W1.heap.size:=by omega
    have l3:w.heap.size+1+1+1<W1.heap.size:=by omega
    refine Eq.mpr (rounds_succ (n:=0)) ?_
    repeat' (first|go_skip|go_guarded|go_step|go_step3|go_upon)
    (try simp only[Exit.inBlock,Exit.then,Exit.noGoto_ret])
    refine bodyPost_ret (results_state2 rfl _ _ (by rfl) (cells4_alloc (set4r (res4 hR)))) rfl ⟨by first|rfl|simp,(bl_alloc (bl4 (bl4 hB (by omega)) (by omega)) _)⟩

theorem cdo_3 (p:Pol) (s:St) (a:Option Addr) (c:Nat) (anow acost:Int) (A:St) (w:World) (h:rightC p s) (hA:A=advC p s anow) (bad:Bool) (hbad:bad=true↔(acost<1∨A.held<acost)) :
    Calls Tryz.prog 116 #[p.v,s.v a 0 c,.agg #[.int .i64 3,.int .i64 anow,.int .i64 acost]] w fun e w' =>
      e=.returned (.tuple #[if bad then s.v a 0 c else .agg #[.int .i64 A.at_,.int .i64 (A.level),.int .i64 (A.held - acost),.slice none 0 0],.bool (!bad)])∧Below w.heap.size w w':=by
  have hlg:=h.2.2.2.2.2.2.2.2
  have hrt:=cright_any p s a 0 c (by rw[hlg];rfl)
  have hav:=cadv_any p s a 0 c anow (by rw[hlg];rfl)
  rw[decide_eq_true h] at hrt
  have hlv:=advC_level p s anow h
  rw[← hA] at hav hlv
  obtain⟨⟨q0,q1,q2,q3,q4,q5,q6⟩,r1,r2,r3,r4,r5,r6,r7,r8⟩:=h
  clear hA
  obtain⟨k,l,d,b,cc,o⟩:=p
  obtain⟨at_,level,held,lg⟩:=s
  obtain⟨aat,alv,ahd,alg⟩:=A
  unfold St.v Pol.v at *
  dsimp only at *
  have hw1:IntKind.i64.wrap (l - ahd)=l - ahd:=IntWalk.i64_in _ (by omega)
  have hw2:IntKind.i64.wrap (l - ahd - alv)=l - ahd - alv:=IntWalk.i64_in _ (by omega)
  have HRT:=Go.Lib.hid hrt
  have HAV:=Go.Lib.hid hav
  have j0:=idx0
  have j1:=idx1
  have j2:=idx2
  have j3:=idx3
  have hcase:(bad=true∧acost<1)∨(bad=true∧¬ acost<1∧ahd<acost)∨(bad=false∧¬ acost<1∧¬ ahd<acost∧IntKind.i64.wrap acost=acost∧IntKind.i64.wrap (-acost) = -acost∧IntKind.i64.wrap (ahd+acost)=ahd+acost∧IntKind.i64.wrap (ahd + -acost)=ahd - acost∧IntKind.i64.wrap (alv+acost)=alv+acost∧IntKind.i64.wrap ahd=ahd∧IntKind.i64.wrap alv=alv):=by
    cases bad
    · simp at hbad
      refine .inr (.inr ⟨rfl,by omega,by omega,IntWalk.i64_in _ (by omega),IntWalk.i64_in _ (by omega),IntWalk.i64_in _ (by omega),?_,IntWalk.i64_in _ (by omega),IntWalk.i64_in _ (by omega),IntWalk.i64_in _ (by omega)⟩)
      rw[IntWalk.i64_in _ (by omega)]
      rfl
    · simp at hbad
      rcases hbad with hx|hx
      · exact .inl ⟨rfl,hx⟩
      · by_cases hy:acost<1
        · exact .inl ⟨rfl,hy⟩
        · exact .inr (.inl ⟨rfl,hy,hx⟩)
  have HCS:=Go.Lib.hid hcase
  clear hbad hcase
  clear hrt hav hlv q0 q1 q2 q3 q4 q5 q6 r1 r2 r3 r4 r5 r6 r7 r8 hlg
  go_enter Tryz.func116,Tryz.ntmps116
  go_wp2_with go_step3
  refine(HRT.out _).mono ?_
  rintro e w1 ⟨rfl,hb⟩
  have hB:Below w.heap.size w w1:=bl_then k4 hb
  obtain⟨c0,c1,c2,c3,c4,c5⟩:=b6 (w.heap.size) k l d b cc o hb
  have c6:=bl_cell (v:=.int .i64 at_) hb (show World.cell? _ ⟨w.heap.size+1,0,none⟩=_ by go_simp)
  have c7:=bl_cell (v:=.int .i64 level) hb (show World.cell? _ ⟨w.heap.size+1,1,none⟩=_ by go_simp)
  have c8:=bl_cell (v:=.int .i64 held) hb (show World.cell? _ ⟨w.heap.size+1,2,none⟩=_ by go_simp)
  have c9:=bl_cell (v:=.slice a 0 c) hb (show World.cell? _ ⟨w.heap.size+1,3,none⟩=_ by go_simp)
  obtain⟨c10,c11,c12⟩:=b3 (w.heap.size+1+1) 3 anow acost hb
  have hR:ResB w1 (w.heap.size+1+1+1):=res_bl (res_new _ _ _ _ _ _ (by simp)) hb
  clear hb HRT
  go_wp2_with go_step3
  refine(HAV.out _).mono ?_
  rintro e w2 ⟨rfl,hb⟩
  clear HAV
  have d0:=bl_cell hb c0
  have d1:=bl_cell hb c1
  have d2:=bl_cell hb c2
  have d3:=bl_cell hb c3
  have d4:=bl_cell hb c4
  have d5:=bl_cell hb c5
  have d6:=bl_cell hb c6
  have d7:=bl_cell hb c7
  have d8:=bl_cell hb c8
  have d9:=bl_cell hb c9
  have d10:=bl_cell hb c10
  have d11:=bl_cell hb c11
  have d12:=bl_cell hb c12
  have dR:=res_bl hR hb
  have dB:=bl_then hB hb
  have hlt:=res_lt dR
  clear hR hB hb c0 c1 c2 c3 c4 c5 c6 c7 c8 c9 c10 c11 c12
  go_wp2_with go_step3
  refine(changes_any _).mono ?_
  rintro e w3 ⟨rfl,hb⟩
  have c0:=bl_cell hb (bl_cell (bl_alloc (bl_alloc (bl_refl w2) _) _) d0)
  have c1:=bl_cell hb (bl_cell (bl_alloc (bl_alloc (bl_refl w2) _) _) d1)
  have c2:=bl_cell hb (bl_cell (bl_alloc (bl_alloc (bl_refl w2) _) _) d2)
  have c3:=bl_cell hb (bl_cell (bl_alloc (bl_alloc (bl_refl w2) _) _) d3)
  have c4:=bl_cell hb (bl_cell (bl_alloc (bl_alloc (bl_refl w2) _) _) d4)
  have c5:=bl_cell hb (bl_cell (bl_alloc (bl_alloc (bl_refl w2) _) _) d5)
  have c6:=bl_cell hb (bl_cell (bl_alloc (bl_alloc (bl_refl w2) _) _) d6)
  have c7:=bl_cell hb (bl_cell (bl_alloc (bl_alloc (bl_refl w2) _) _) d7)
  have c8:=bl_cell hb (bl_cell (bl_alloc (bl_alloc (bl_refl w2) _) _) d8)
  have c9:=bl_cell hb (bl_cell (bl_alloc (bl_alloc (bl_refl w2) _) _) d9)
  have c10:=bl_cell hb (bl_cell (bl_alloc (bl_alloc (bl_refl w2) _) _) d10)
  have c11:=bl_cell hb (bl_cell (bl_alloc (bl_alloc (bl_refl w2) _) _) d11)
  have c12:=bl_cell hb (bl_cell (bl_alloc (bl_alloc (bl_refl w2) _) _) d12)
  have hR:=res_bl (res_bl dR (bl_alloc (bl_alloc (bl_refl w2) _) _)) hb
  have hB:=bl_then (bl_alloc (bl_alloc dB _) _) hb
  obtain⟨x0,x1,x2,x3⟩:=b4 (w2.heap.size) aat alv ahd none 0 0 hb
  have y0:=bl_cell (v:=.int .i64 0) hb (show World.cell? _ ⟨w2.heap.size+1,0,none⟩=_ by go_simp)
  have y1:=bl_cell (v:=.int .i64 0) hb (show World.cell? _ ⟨w2.heap.size+1,1,none⟩=_ by go_simp)
  have y2:=bl_cell (v:=.int .i64 0) hb (show World.cell? _ ⟨w2.heap.size+1,2,none⟩=_ by go_simp)
  have y3:=bl_cell (v:=.bool false) hb (show World.cell? _ ⟨w2.heap.size+1,3,none⟩=_ by go_simp)
  have hY:ResB w3 (w2.heap.size+1):=res_bl (res_new _ _ _ _ _ _ (by simp)) hb
  have hlt3:w2.heap.size+1<w3.heap.size:=res_lt hY
  generalize w2.heap.size=nb at *
  clear hb dR dB d0 d1 d2 d3 d4 d5 d6 d7 d8 d9 d10 d11 d12
  obtain⟨F0,F1,F2,F3,U0,U1,U2,U3,I0,I1,I2,I3⟩:=res_all hR
  obtain⟨G0,G1,G2,G3,V0,V1,V2,V3,-⟩:=res_all hY
  go_wp2_with go_step3
  have n0:¬ nb=w.heap.size:=by omega
  have m0:¬ w.heap.size=nb:=by omega
  have n0':¬ nb+1=w.heap.size:=by omega
  have m0':¬ w.heap.size=nb+1:=by omega
  have n1:¬ nb=w.heap.size+1:=by omega
  have m1:¬ w.heap.size+1=nb:=by omega
  have n1':¬ nb+1=w.heap.size+1:=by omega
  have m1':¬ w.heap.size+1=nb+1:=by omega
  have n2:¬ nb=w.heap.size+1+1:=by omega
  have m2:¬ w.heap.size+1+1=nb:=by omega
  have n2':¬ nb+1=w.heap.size+1+1:=by omega
  have m2':¬ w.heap.size+1+1=nb+1:=by omega
  have n3:¬ nb=w.heap.size+1+1+1:=by omega
  have m3:¬ w.heap.size+1+1+1=nb:=by omega
  have n3':¬ nb+1=w.heap.size+1+1+1:=by omega
  have m3':¬ w.heap.size+1+1+1=nb+1:=by omega
  rcases HCS.out with⟨rfl,e1⟩|⟨rfl,e1,e2⟩|⟨rfl,e1,e2,p1,p2,p3,p4,p5,p6,p7⟩
  all_goals clear HCS
  · refine wp_loop_rounds 3 ?_
    refine rounds_abs (F:=fun X=>P6 X (w.heap.size) k l d b cc o (S4 X (w.heap.size+1) at_ level held a 0 c (X3 X (w.heap.size+1+1) 3 anow acost (S4 X nb aat alv ahd none 0 0 (X3 X (nb+1) 0 0 0 (X.cell? ⟨nb+1,3,none⟩=some (.bool false)∧ResB X (w.heap.size+1+1+1)∧ResB X (nb+1)∧Below w.heap.size w X)))))) ⟨c0,c1,c2,c3,c4,c5,c6,c7,c8,c9,c10,c11,c12,x0,x1,x2,x3,y0,y1,y2,y3,hR,hY,hB⟩ ?_
    clear hR hY hB F0 F1 F2 F3 I0 I1 I2 I3 G0 G1 G2 G3 c0 c1 c2 c3 c4 c5 c6 c7 c8 c9 c10 c11 c12 x0 x1 x2 x3 y0 y1 y2 y3
    rintro W0 ⟨c0,c1,c2,c3,c4,c5,c6,c7,c8,c9,c10,c11,c12,x0,x1,x2,x3,y0,y1,y2,y3,hR,hY,hB⟩
    obtain⟨F0,F1,F2,F3,U0,U1,U2,U3,I0,I1,I2,I3⟩:=res_all hR
    obtain⟨G0,G1,G2,G3,-⟩:=res_all hY
    have lz:nb+1<W0.heap.size:=res_lt hY
    have lz':nb<W0.heap.size:=by omega
    have l0:w.heap.size<W0.heap.size:=by omega
    have l1:w.heap.size+1<W0.heap.size:=by omega
    have l2:w.heap.size+1+1<W0.heap.size:=by omega
    have l3:w.heap.size+1+1+1<W0.heap.size:=by omega
    refine Eq.mpr (rounds_succ (n:=2)) ?_
    repeat' (first|go_skip|go_guarded|go_step|go_step3|go_upon)
    clear lz lz' l0 l1 l2 l3
    refine rounds_abs (F:=fun X=>P6 X (w.heap.size) k l d b cc o (S4 X (w.heap.size+1) at_ level held a 0 c (X3 X (w.heap.size+1+1) 3 anow acost (S4 X nb aat alv ahd none 0 0 (X3 X (nb+1) 0 0 0 (X.cell? ⟨nb+1,3,none⟩=some (.bool false)∧ResB X (w.heap.size+1+1+1)∧ResB X (nb+1)∧Below w.heap.size w X)))))) ⟨bl_cell k1 c0,bl_cell k1 c1,bl_cell k1 c2,bl_cell k1 c3,bl_cell k1 c4,bl_cell k1 c5,bl_cell k1 c6,bl_cell k1 c7,bl_cell k1 c8,bl_cell k1 c9,bl_cell k1 c10,bl_cell k1 c11,bl_cell k1 c12,bl_cell k1 x0,bl_cell k1 x1,bl_cell k1 x2,bl_cell k1 x3,bl_cell k1 y0,bl_cell k1 y1,bl_cell k1 y2,bl_cell k1 y3,res_bl hR k1,res_bl hY k1,bl_alloc hB _⟩ ?_
    clear hR hY hB F0 F1 F2 F3 I0 I1 I2 I3 G0 G1 G2 G3 c0 c1 c2 c3 c4 c5 c6 c7 c8 c9 c10 c11 c12 x0 x1 x2 x3 y0 y1 y2 y3
    rintro W1 ⟨c0,c1,c2,c3,c4,c5,c6,c7,c8,c9,c10,c11,c12,x0,x1,x2,x3,y0,y1,y2,y3,hR,hY,hB⟩
    obtain⟨F0,F1,F2,F3,U0,U1,U2,U3,I0,I1,I2,I3⟩:=res_all hR
    obtain⟨G0,G1,G2,G3,-⟩:=res_all hY
    have lz:nb+1<W1.heap.size:=res_lt hY
    have lz':nb<W1.heap.size:=by omega
    have l0:w.heap.size<W1.heap.size:=by omega
    have l1:w.heap.size+1<W1.heap.size:=by omega
    have l2:w.heap.size+1+1<W1.heap.size:=by omega
    have l3:w.heap.size+1+1+1<W1.heap.size:=by omega
    refine Eq.mpr (rounds_succ (n:=1)) ?_
    repeat' (first|go_skip|go_guarded|go_step|go_step3|go_upon)
    clear lz lz' l0 l1 l2 l3
    refine rounds_abs (F:=fun X=>P6 X (w.heap.size) k l d b cc o (S4 X (w.heap.size+1) at_ level held a 0 c (X3 X (w.heap.size+1+1) 3 anow acost (S4 X nb aat alv ahd none 0 0 (X3 X (nb+1) 0 0 0 (X.cell? ⟨nb+1,3,none⟩=some (.bool false)∧ResB X (w.heap.size+1+1+1)∧ResB X (nb+1)∧Below w.heap.size w X)))))) ⟨bl_cell k1 c0,bl_cell k1 c1,bl_cell k1 c2,bl_cell k1 c3,bl_cell k1 c4,bl_cell k1 c5,bl_cell k1 c6,bl_cell k1 c7,bl_cell k1 c8,bl_cell k1 c9,bl_cell k1 c10,bl_cell k1 c11,bl_cell k1 c12,bl_cell k1 x0,bl_cell k1 x1,bl_cell k1 x2,bl_cell k1 x3,bl_cell k1 y0,bl_cell k1 y1,bl_cell k1 y2,bl_cell k1 y3,res_bl hR k1,res_bl hY k1,bl_alloc hB _⟩ ?_
    clear hR hY hB F0 F1 F2 F3 I0 I1 I2 I3 G0 G1 G2 G3 c0 c1 c2 c3 c4 c5 c6 c7 c8 c9 c10 c11 c12 x0 x1 x2 x3 y0 y1 y2 y3
    rintro W2 ⟨c0,c1,c2,c3,c4,c5,c6,c7,c8,c9,c10,c11,c12,x0,x1,x2,x3,y0,y1,y2,y3,hR,hY,hB⟩
    obtain⟨F0,F1,F2,F3,U0,U1,U2,U3,I0,I1,I2,I3⟩:=res_all hR
    obtain⟨G0,G1,G2,G3,-⟩:=res_all hY
    have lz:nb+1<W2.heap.size:=res_lt hY
    have lz':nb<W2.heap.size:=by omega
    have l0:w.heap.size<W2.heap.size:=by omega
    have l1:w.heap.size+1<W2.heap.size:=by omega
    have l2:w.heap.size+1+1<W2.heap.size:=by omega
    have l3:w.heap.size+1+1+1<W2.heap.size:=by omega
    refine Eq.mpr (rounds_succ (n:=0)) ?_
    repeat' (first|go_skip|go_guarded|go_step|go_step3|go_upon)
    (try simp only[Exit.inBlock,Exit.then,Exit.noGoto_ret])
    refine bodyPost_ret (results_state2 rfl _ _ (by rfl) (cells4_alloc (set4r (res4 hR)))) rfl ⟨by first|rfl|simp,(bl_alloc (bl4 (bl4 hB (by omega)) (by omega)) _)⟩
  · refine wp_loop_rounds 3 ?_
    refine rounds_abs (F:=fun X=>P6 X (w.heap.size) k l d b cc o (S4 X (w.heap.size+1) at_ level held a 0 c (X3 X (w.heap.size+1+1) 3 anow acost (S4 X nb aat alv ahd none 0 0 (X3 X (nb+1) 0 0 0 (X.cell? ⟨nb+1,3,none⟩=some (.bool false)∧ResB X (w.heap.size+1+1+1)∧ResB X (nb+1)∧Below w.heap.size w X)))))) ⟨c0,c1,c2,c3,c4,c5,c6,c7,c8,c9,c10,c11,c12,x0,x1,x2,x3,y0,y1,y2,y3,hR,hY,hB⟩ ?_
    clear hR hY hB F0 F1 F2 F3 I0 I1 I2 I3 G0 G1 G2 G3 c0 c1 c2 c3 c4 c5 c6 c7 c8 c9 c10 c11 c12 x0 x1 x2 x3 y0 y1 y2 y3
    rintro W0 ⟨c0,c1,c2,c3,c4,c5,c6,c7,c8,c9,c10,c11,c12,x0,x1,x2,x3,y0,y1,y2,y3,hR,hY,hB⟩
    obtain⟨F0,F1,F2,F3,U0,U1,U2,U3,I0,I1,I2,I3⟩:=res_all hR
    obtain⟨G0,G1,G2,G3,-⟩:=res_all hY
    have lz:nb+1<W0.heap.size:=res_lt hY
    have lz':nb<W0.heap.size:=by omega
    have l0:w.heap.size<W0.heap.size:=by omega
    have l1:w.heap.size+1<W0.heap.size:=by omega
    have l2:w.heap.size+1+1<W0.heap.size:=by omega
    have l3:w.heap.size+1+1+1<W0.heap.size:=by omega
    refine Eq.mpr (rounds_succ (n:=2)) ?_
    repeat' (first|go_skip|go_guarded|go_step|go_step3|go_upon)
    clear lz lz' l0 l1 l2 l3
    refine rounds_abs (F:=fun X=>P6 X (w.heap.size) k l d b cc o (S4 X (w.heap.size+1) at_ level held a 0 c (X3 X (w.heap.size+1+1) 3 anow acost (S4 X nb aat alv ahd none 0 0 (X3 X (nb+1) 0 0 0 (X.cell? ⟨nb+1,3,none⟩=some (.bool false)∧ResB X (w.heap.size+1+1+1)∧ResB X (nb+1)∧Below w.heap.size w X)))))) ⟨bl_cell k1 c0,bl_cell k1 c1,bl_cell k1 c2,bl_cell k1 c3,bl_cell k1 c4,bl_cell k1 c5,bl_cell k1 c6,bl_cell k1 c7,bl_cell k1 c8,bl_cell k1 c9,bl_cell k1 c10,bl_cell k1 c11,bl_cell k1 c12,bl_cell k1 x0,bl_cell k1 x1,bl_cell k1 x2,bl_cell k1 x3,bl_cell k1 y0,bl_cell k1 y1,bl_cell k1 y2,bl_cell k1 y3,res_bl hR k1,res_bl hY k1,bl_alloc hB _⟩ ?_
    clear hR hY hB F0 F1 F2 F3 I0 I1 I2 I3 G0 G1 G2 G3 c0 c1 c2 c3 c4 c5 c6 c7 c8 c9 c10 c11 c12 x0 x1 x2 x3 y0 y1 y2 y3
    rintro W1 ⟨c0,c1,c2,c3,c4,c5,c6,c7,c8,c9,c10,c11,c12,x0,x1,x2,x3,y0,y1,y2,y3,hR,hY,hB⟩
    obtain⟨F0,F1,F2,F3,U0,U1,U2,U3,I0,I1,I2,I3⟩:=res_all hR
    obtain⟨G0,G1,G2,G3,-⟩:=res_all hY
    have lz:nb+1<W1.heap.size:=res_lt hY
    have lz':nb<W1.heap.size:=by omega
    have l0:w.heap.size<W1.heap.size:=by omega
    have l1:w.heap.size+1<W1.heap.size:=by omega
    have l2:w.heap.size+1+1<W1.heap.size:=by omega
    have l3:w.heap.size+1+1+1<W1.heap.size:=by omega
    refine Eq.mpr (rounds_succ (n:=1)) ?_
    repeat' (first|go_skip|go_guarded|go_step|go_step3|go_upon)
    clear lz lz' l0 l1 l2 l3
    refine rounds_abs (F:=fun X=>P6 X (w.heap.size) k l d b cc o (S4 X (w.heap.size+1) at_ level held a 0 c (X3 X (w.heap.size+1+1) 3 anow acost (S4 X nb aat alv ahd none 0 0 (X3 X (nb+1) 0 0 0 (X.cell? ⟨nb+1,3,none⟩=some (.bool false)∧ResB X (w.heap.size+1+1+1)∧ResB X (nb+1)∧Below w.heap.size w X)))))) ⟨bl_cell k1 c0,bl_cell k1 c1,bl_cell k1 c2,bl_cell k1 c3,bl_cell k1 c4,bl_cell k1 c5,bl_cell k1 c6,bl_cell k1 c7,bl_cell k1 c8,bl_cell k1 c9,bl_cell k1 c10,bl_cell k1 c11,bl_cell k1 c12,bl_cell k1 x0,bl_cell k1 x1,bl_cell k1 x2,bl_cell k1 x3,bl_cell k1 y0,bl_cell k1 y1,bl_cell k1 y2,bl_cell k1 y3,res_bl hR k1,res_bl hY k1,bl_alloc hB _⟩ ?_
    clear hR hY hB F0 F1 F2 F3 I0 I1 I2 I3 G0 G1 G2 G3 c0 c1 c2 c3 c4 c5 c6 c7 c8 c9 c10 c11 c12 x0 x1 x2 x3 y0 y1 y2 y3
    rintro W2 ⟨c0,c1,c2,c3,c4,c5,c6,c7,c8,c9,c10,c11,c12,x0,x1,x2,x3,y0,y1,y2,y3,hR,hY,hB⟩
    obtain⟨F0,F1,F2,F3,U0,U1,U2,U3,I0,I1,I2,I3⟩:=res_all hR
    obtain⟨G0,G1,G2,G3,-⟩:=res_all hY
    have lz:nb+1<W2.heap.size:=res_lt hY
    have lz':nb<W2.heap.size:=by omega
    have l0:w.heap.size<W2.heap.size:=by omega
    have l1:w.heap.size+1<W2.heap.size:=by omega
    have l2:w.heap.size+1+1<W2.heap.size:=by omega
    have l3:w.heap.size+1+1+1<W2.heap.size:=by omega
    refine Eq.mpr (rounds_succ (n:=0)) ?_
    repeat' (first|go_skip|go_guarded|go_step|go_step3|go_upon)
    (try simp only[Exit.inBlock,Exit.then,Exit.noGoto_ret])
    refine bodyPost_ret (results_state2 rfl _ _ (by rfl) (cells4_alloc (set4r (res4 hR)))) rfl ⟨by first|rfl|simp,(bl_alloc (bl4 (bl4 hB (by omega)) (by omega)) _)⟩
  · refine wp_loop_rounds 3 ?_
    refine rounds_abs (F:=fun X=>P6 X (w.heap.size) k l d b cc o (S4 X (w.heap.size+1) at_ level held a 0 c (X3 X (w.heap.size+1+1) 3 anow acost (S4 X nb aat alv ahd none 0 0 (X3 X (nb+1) 0 0 0 (X.cell? ⟨nb+1,3,none⟩=some (.bool false)∧ResB X (w.heap.size+1+1+1)∧ResB X (nb+1)∧Below w.heap.size w X)))))) ⟨c0,c1,c2,c3,c4,c5,c6,c7,c8,c9,c10,c11,c12,x0,x1,x2,x3,y0,y1,y2,y3,hR,hY,hB⟩ ?_
    clear hR hY hB F0 F1 F2 F3 I0 I1 I2 I3 G0 G1 G2 G3 c0 c1 c2 c3 c4 c5 c6 c7 c8 c9 c10 c11 c12 x0 x1 x2 x3 y0 y1 y2 y3
    rintro W0 ⟨c0,c1,c2,c3,c4,c5,c6,c7,c8,c9,c10,c11,c12,x0,x1,x2,x3,y0,y1,y2,y3,hR,hY,hB⟩
    obtain⟨F0,F1,F2,F3,U0,U1,U2,U3,I0,I1,I2,I3⟩:=res_all hR
    obtain⟨G0,G1,G2,G3,-⟩:=res_all hY
    have lz:nb+1<W0.heap.size:=res_lt hY
    have lz':nb<W0.heap.size:=by omega
    have l0:w.heap.size<W0.heap.size:=by omega
    have l1:w.heap.size+1<W0.heap.size:=by omega
    have l2:w.heap.size+1+1<W0.heap.size:=by omega
    have l3:w.heap.size+1+1+1<W0.heap.size:=by omega
    refine Eq.mpr (rounds_succ (n:=2)) ?_
    repeat' (first|go_skip|go_guarded|go_step|go_step3|go_upon)
    clear lz lz' l0 l1 l2 l3
    refine rounds_abs (F:=fun X=>P6 X (w.heap.size) k l d b cc o (S4 X (w.heap.size+1) at_ level held a 0 c (X3 X (w.heap.size+1+1) 3 anow acost (S4 X nb aat alv ahd none 0 0 (X3 X (nb+1) 0 0 0 (X.cell? ⟨nb+1,3,none⟩=some (.bool false)∧ResB X (w.heap.size+1+1+1)∧ResB X (nb+1)∧Below w.heap.size w X)))))) ⟨bl_cell k1 c0,bl_cell k1 c1,bl_cell k1 c2,bl_cell k1 c3,bl_cell k1 c4,bl_cell k1 c5,bl_cell k1 c6,bl_cell k1 c7,bl_cell k1 c8,bl_cell k1 c9,bl_cell k1 c10,bl_cell k1 c11,bl_cell k1 c12,bl_cell k1 x0,bl_cell k1 x1,bl_cell k1 x2,bl_cell k1 x3,bl_cell k1 y0,bl_cell k1 y1,bl_cell k1 y2,bl_cell k1 y3,res_bl hR k1,res_bl hY k1,bl_alloc hB _⟩ ?_
    clear hR hY hB F0 F1 F2 F3 I0 I1 I2 I3 G0 G1 G2 G3 c0 c1 c2 c3 c4 c5 c6 c7 c8 c9 c10 c11 c12 x0 x1 x2 x3 y0 y1 y2 y3
    rintro W1 ⟨c0,c1,c2,c3,c4,c5,c6,c7,c8,c9,c10,c11,c12,x0,x1,x2,x3,y0,y1,y2,y3,hR,hY,hB⟩
    obtain⟨F0,F1,F2,F3,U0,U1,U2,U3,I0,I1,I2,I3⟩:=res_all hR
    obtain⟨G0,G1,G2,G3,-⟩:=res_all hY
    have lz:nb+1<W1.heap.size:=res_lt hY
    have lz':nb<W1.heap.size:=by omega
    have l0:w.heap.size<W1.heap.size:=by omega
    have l1:w.heap.size+1<W1.heap.size:=by omega
    have l2:w.heap.size+1+1<W1.heap.size:=by omega
    have l3:w.heap.size+1+1+1<W1.heap.size:=by omega
    refine Eq.mpr (rounds_succ (n:=1)) ?_
    repeat' (first|go_skip|go_guarded|go_step|go_step3|go_upon)
    clear lz lz' l0 l1 l2 l3
    refine rounds_abs (F:=fun X=>P6 X (w.heap.size) k l d b cc o (S4 X (w.heap.size+1) at_ level held a 0 c (X3 X (w.heap.size+1+1) 3 anow acost (S4 X nb aat alv ahd none 0 0 (X3 X (nb+1) 0 0 0 (X.cell? ⟨nb+1,3,none⟩=some (.bool false)∧ResB X (w.heap.size+1+1+1)∧ResB X (nb+1)∧Below w.heap.size w X)))))) ⟨bl_cell k1 c0,bl_cell k1 c1,bl_cell k1 c2,bl_cell k1 c3,bl_cell k1 c4,bl_cell k1 c5,bl_cell k1 c6,bl_cell k1 c7,bl_cell k1 c8,bl_cell k1 c9,bl_cell k1 c10,bl_cell k1 c11,bl_cell k1 c12,bl_cell k1 x0,bl_cell k1 x1,bl_cell k1 x2,bl_cell k1 x3,bl_cell k1 y0,bl_cell k1 y1,bl_cell k1 y2,bl_cell k1 y3,res_bl hR k1,res_bl hY k1,bl_alloc hB _⟩ ?_
    clear hR hY hB F0 F1 F2 F3 I0 I1 I2 I3 G0 G1 G2 G3 c0 c1 c2 c3 c4 c5 c6 c7 c8 c9 c10 c11 c12 x0 x1 x2 x3 y0 y1 y2 y3
    rintro W2 ⟨c0,c1,c2,c3,c4,c5,c6,c7,c8,c9,c10,c11,c12,x0,x1,x2,x3,y0,y1,y2,y3,hR,hY,hB⟩
    obtain⟨F0,F1,F2,F3,U0,U1,U2,U3,I0,I1,I2,I3⟩:=res_all hR
    obtain⟨G0,G1,G2,G3,-⟩:=res_all hY
    have lz:nb+1<W2.heap.size:=res_lt hY
    have lz':nb<W2.heap.size:=by omega
    have l0:w.heap.size<W2.heap.size:=by omega
    have l1:w.heap.size+1<W2.heap.size:=by omega
    have l2:w.heap.size+1+1<W2.heap.size:=by omega
    have l3:w.heap.size+1+1+1<W2.heap.size:=by omega
    refine Eq.mpr (rounds_succ (n:=0)) ?_
    repeat' (first|go_skip|go_guarded|go_step|go_step3|go_upon)
    (try simp only[Exit.inBlock,Exit.then,Exit.noGoto_ret])
    refine bodyPost_ret (results_state2 rfl _ _ (by rfl) (cells4_alloc (set4r (res4 hR)))) rfl ⟨by first|rfl|simp,(bl_alloc (bl4 (bl4 hB (by omega)) (by omega)) _)⟩

theorem cdo_4 (p:Pol) (s:St) (a:Option Addr) (c:Nat) (anow acost:Int) (A:St) (w:World) (h:rightC p s) (hA:A=advC p s anow) (bad:Bool) (hbad:bad=true↔(acost<1∨A.held<acost)) :
    Calls Tryz.prog 116 #[p.v,s.v a 0 c,.agg #[.int .i64 4,.int .i64 anow,.int .i64 acost]] w fun e w' =>
      e=.returned (.tuple #[if bad then s.v a 0 c else .agg #[.int .i64 A.at_,.int .i64 (A.level+acost),.int .i64 (A.held - acost),.slice none 0 0],.bool (!bad)])∧Below w.heap.size w w':=by
  have hlg:=h.2.2.2.2.2.2.2.2
  have hrt:=cright_any p s a 0 c (by rw[hlg];rfl)
  have hav:=cadv_any p s a 0 c anow (by rw[hlg];rfl)
  rw[decide_eq_true h] at hrt
  have hlv:=advC_level p s anow h
  rw[← hA] at hav hlv
  obtain⟨⟨q0,q1,q2,q3,q4,q5,q6⟩,r1,r2,r3,r4,r5,r6,r7,r8⟩:=h
  clear hA
  obtain⟨k,l,d,b,cc,o⟩:=p
  obtain⟨at_,level,held,lg⟩:=s
  obtain⟨aat,alv,ahd,alg⟩:=A
  unfold St.v Pol.v at *
  dsimp only at *
  have hw1:IntKind.i64.wrap (l - ahd)=l - ahd:=IntWalk.i64_in _ (by omega)
  have hw2:IntKind.i64.wrap (l - ahd - alv)=l - ahd - alv:=IntWalk.i64_in _ (by omega)
  have HRT:=Go.Lib.hid hrt
  have HAV:=Go.Lib.hid hav
  have j0:=idx0
  have j1:=idx1
  have j2:=idx2
  have j3:=idx3
  have hcase:(bad=true∧acost<1)∨(bad=true∧¬ acost<1∧ahd<acost)∨(bad=false∧¬ acost<1∧¬ ahd<acost∧IntKind.i64.wrap acost=acost∧IntKind.i64.wrap (-acost) = -acost∧IntKind.i64.wrap (ahd+acost)=ahd+acost∧IntKind.i64.wrap (ahd + -acost)=ahd - acost∧IntKind.i64.wrap (alv+acost)=alv+acost∧IntKind.i64.wrap ahd=ahd∧IntKind.i64.wrap alv=alv):=by
    cases bad
    · simp at hbad
      refine .inr (.inr ⟨rfl,by omega,by omega,IntWalk.i64_in _ (by omega),IntWalk.i64_in _ (by omega),IntWalk.i64_in _ (by omega),?_,IntWalk.i64_in _ (by omega),IntWalk.i64_in _ (by omega),IntWalk.i64_in _ (by omega)⟩)
      rw[IntWalk.i64_in _ (by omega)]
      rfl
    · simp at hbad
      rcases hbad with hx|hx
      · exact .inl ⟨rfl,hx⟩
      · by_cases hy:acost<1
        · exact .inl ⟨rfl,hy⟩
        · exact .inr (.inl ⟨rfl,hy,hx⟩)
  have HCS:=Go.Lib.hid hcase
  clear hbad hcase
  clear hrt hav hlv q0 q1 q2 q3 q4 q5 q6 r1 r2 r3 r4 r5 r6 r7 r8 hlg
  go_enter Tryz.func116,Tryz.ntmps116
  go_wp2_with go_step3
  refine(HRT.out _).mono ?_
  rintro e w1 ⟨rfl,hb⟩
  have hB:Below w.heap.size w w1:=bl_then k4 hb
  obtain⟨c0,c1,c2,c3,c4,c5⟩:=b6 (w.heap.size) k l d b cc o hb
  have c6:=bl_cell (v:=.int .i64 at_) hb (show World.cell? _ ⟨w.heap.size+1,0,none⟩=_ by go_simp)
  have c7:=bl_cell (v:=.int .i64 level) hb (show World.cell? _ ⟨w.heap.size+1,1,none⟩=_ by go_simp)
  have c8:=bl_cell (v:=.int .i64 held) hb (show World.cell? _ ⟨w.heap.size+1,2,none⟩=_ by go_simp)
  have c9:=bl_cell (v:=.slice a 0 c) hb (show World.cell? _ ⟨w.heap.size+1,3,none⟩=_ by go_simp)
  obtain⟨c10,c11,c12⟩:=b3 (w.heap.size+1+1) 4 anow acost hb
  have hR:ResB w1 (w.heap.size+1+1+1):=res_bl (res_new _ _ _ _ _ _ (by simp)) hb
  clear hb HRT
  go_wp2_with go_step3
  refine(HAV.out _).mono ?_
  rintro e w2 ⟨rfl,hb⟩
  clear HAV
  have d0:=bl_cell hb c0
  have d1:=bl_cell hb c1
  have d2:=bl_cell hb c2
  have d3:=bl_cell hb c3
  have d4:=bl_cell hb c4
  have d5:=bl_cell hb c5
  have d6:=bl_cell hb c6
  have d7:=bl_cell hb c7
  have d8:=bl_cell hb c8
  have d9:=bl_cell hb c9
  have d10:=bl_cell hb c10
  have d11:=bl_cell hb c11
  have d12:=bl_cell hb c12
  have dR:=res_bl hR hb
  have dB:=bl_then hB hb
  have hlt:=res_lt dR
  clear hR hB hb c0 c1 c2 c3 c4 c5 c6 c7 c8 c9 c10 c11 c12
  go_wp2_with go_step3
  refine(changes_any _).mono ?_
  rintro e w3 ⟨rfl,hb⟩
  have c0:=bl_cell hb (bl_cell (bl_alloc (bl_alloc (bl_refl w2) _) _) d0)
  have c1:=bl_cell hb (bl_cell (bl_alloc (bl_alloc (bl_refl w2) _) _) d1)
  have c2:=bl_cell hb (bl_cell (bl_alloc (bl_alloc (bl_refl w2) _) _) d2)
  have c3:=bl_cell hb (bl_cell (bl_alloc (bl_alloc (bl_refl w2) _) _) d3)
  have c4:=bl_cell hb (bl_cell (bl_alloc (bl_alloc (bl_refl w2) _) _) d4)
  have c5:=bl_cell hb (bl_cell (bl_alloc (bl_alloc (bl_refl w2) _) _) d5)
  have c6:=bl_cell hb (bl_cell (bl_alloc (bl_alloc (bl_refl w2) _) _) d6)
  have c7:=bl_cell hb (bl_cell (bl_alloc (bl_alloc (bl_refl w2) _) _) d7)
  have c8:=bl_cell hb (bl_cell (bl_alloc (bl_alloc (bl_refl w2) _) _) d8)
  have c9:=bl_cell hb (bl_cell (bl_alloc (bl_alloc (bl_refl w2) _) _) d9)
  have c10:=bl_cell hb (bl_cell (bl_alloc (bl_alloc (bl_refl w2) _) _) d10)
  have c11:=bl_cell hb (bl_cell (bl_alloc (bl_alloc (bl_refl w2) _) _) d11)
  have c12:=bl_cell hb (bl_cell (bl_alloc (bl_alloc (bl_refl w2) _) _) d12)
  have hR:=res_bl (res_bl dR (bl_alloc (bl_alloc (bl_refl w2) _) _)) hb
  have hB:=bl_then (bl_alloc (bl_alloc dB _) _) hb
  obtain⟨x0,x1,x2,x3⟩:=b4 (w2.heap.size) aat alv ahd none 0 0 hb
  have y0:=bl_cell (v:=.int .i64 0) hb (show World.cell? _ ⟨w2.heap.size+1,0,none⟩=_ by go_simp)
  have y1:=bl_cell (v:=.int .i64 0) hb (show World.cell? _ ⟨w2.heap.size+1,1,none⟩=_ by go_simp)
  have y2:=bl_cell (v:=.int .i64 0) hb (show World.cell? _ ⟨w2.heap.size+1,2,none⟩=_ by go_simp)
  have y3:=bl_cell (v:=.bool false) hb (show World.cell? _ ⟨w2.heap.size+1,3,none⟩=_ by go_simp)
  have hY:ResB w3 (w2.heap.size+1):=res_bl (res_new _ _ _ _ _ _ (by simp)) hb
  have hlt3:w2.heap.size+1<w3.heap.size:=res_lt hY
  generalize w2.heap.size=nb at *
  clear hb dR dB d0 d1 d2 d3 d4 d5 d6 d7 d8 d9 d10 d11 d12
  obtain⟨F0,F1,F2,F3,U0,U1,U2,U3,I0,I1,I2,I3⟩:=res_all hR
  obtain⟨G0,G1,G2,G3,V0,V1,V2,V3,-⟩:=res_all hY
  go_wp2_with go_step3
  have n0:¬ nb=w.heap.size:=by omega
  have m0:¬ w.heap.size=nb:=by omega
  have n0':¬ nb+1=w.heap.size:=by omega
  have m0':¬ w.heap.size=nb+1:=by omega
  have n1:¬ nb=w.heap.size+1:=by omega
  have m1:¬ w.heap.size+1=nb:=by omega
  have n1':¬ nb+1=w.heap.size+1:=by omega
  have m1':¬ w.heap.size+1=nb+1:=by omega
  have n2:¬ nb=w.heap.size+1+1:=by omega
  have m2:¬ w.heap.size+1+1=nb:=by omega
  have n2':¬ nb+1=w.heap.size+1+1:=by omega
  have m2':¬ w.heap.size+1+1=nb+1:=by omega
  have n3:¬ nb=w.heap.size+1+1+1:=by omega
  have m3:¬ w.heap.size+1+1+1=nb:=by omega
  have n3':¬ nb+1=w.heap.size+1+1+1:=by omega
  have m3':¬ w.heap.size+1+1+1=nb+1:=by omega
  rcases HCS.out with⟨rfl,e1⟩|⟨rfl,e1,e2⟩|⟨rfl,e1,e2,p1,p2,p3,p4,p5,p6,p7⟩
  all_goals clear HCS
  · refine wp_loop_rounds 4 ?_
    refine rounds_abs (F:=fun X=>P6 X (w.heap.size) k l d b cc o (S4 X (w.heap.size+1) at_ level held a 0 c (X3 X (w.heap.size+1+1) 4 anow acost (S4 X nb aat alv ahd none 0 0 (X3 X (nb+1) 0 0 0 (X.cell? ⟨nb+1,3,none⟩=some (.bool false)∧ResB X (w.heap.size+1+1+1)∧ResB X (nb+1)∧Below w.heap.size w X)))))) ⟨c0,c1,c2,c3,c4,c5,c6,c7,c8,c9,c10,c11,c12,x0,x1,x2,x3,y0,y1,y2,y3,hR,hY,hB⟩ ?_
    clear hR hY hB F0 F1 F2 F3 I0 I1 I2 I3 G0 G1 G2 G3 c0 c1 c2 c3 c4 c5 c6 c7 c8 c9 c10 c11 c12 x0 x1 x2 x3 y0 y1 y2 y3
    rintro W0 ⟨c0,c1,c2,c3,c4,c5,c6,c7,c8,c9,c10,c11,c12,x0,x1,x2,x3,y0,y1,y2,y3,hR,hY,hB⟩
    obtain⟨F0,F1,F2,F3,U0,U1,U2,U3,I0,I1,I2,I3⟩:=res_all hR
    obtain⟨G0,G1,G2,G3,-⟩:=res_all hY
    have lz:nb+1<W0.heap.size:=res_lt hY
    have lz':nb<W0.heap.size:=by omega
    have l0:w.heap.size<W0.heap.size:=by omega
    have l1:w.heap.size+1<W0.heap.size:=by omega
    have l2:w.heap.size+1+1<W0.heap.size:=by omega
    have l3:w.heap.size+1+1+1<W0.heap.size:=by omega
    refine Eq.mpr (rounds_succ (n:=3)) ?_
    repeat' (first|go_skip|go_guarded|go_step|go_step3|go_upon)
    clear lz lz' l0 l1 l2 l3
    refine rounds_abs (F:=fun X=>P6 X (w.heap.size) k l d b cc o (S4 X (w.heap.size+1) at_ level held a 0 c (X3 X (w.heap.size+1+1) 4 anow acost (S4 X nb aat alv ahd none 0 0 (X3 X (nb+1) 0 0 0 (X.cell? ⟨nb+1,3,none⟩=some (.bool false)∧ResB X (w.heap.size+1+1+1)∧ResB X (nb+1)∧Below w.heap.size w X)))))) ⟨bl_cell k1 c0,bl_cell k1 c1,bl_cell k1 c2,bl_cell k1 c3,bl_cell k1 c4,bl_cell k1 c5,bl_cell k1 c6,bl_cell k1 c7,bl_cell k1 c8,bl_cell k1 c9,bl_cell k1 c10,bl_cell k1 c11,bl_cell k1 c12,bl_cell k1 x0,bl_cell k1 x1,bl_cell k1 x2,bl_cell k1 x3,bl_cell k1 y0,bl_cell k1 y1,bl_cell k1 y2,bl_cell k1 y3,res_bl hR k1,res_bl hY k1,bl_alloc hB _⟩ ?_
    clear hR hY hB F0 F1 F2 F3 I0 I1 I2 I3 G0 G1 G2 G3 c0 c1 c2 c3 c4 c5 c6 c7 c8 c9 c10 c11 c12 x0 x1 x2 x3 y0 y1 y2 y3
    rintro W1 ⟨c0,c1,c2,c3,c4,c5,c6,c7,c8,c9,c10,c11,c12,x0,x1,x2,x3,y0,y1,y2,y3,hR,hY,hB⟩
    obtain⟨F0,F1,F2,F3,U0,U1,U2,U3,I0,I1,I2,I3⟩:=res_all hR
    obtain⟨G0,G1,G2,G3,-⟩:=res_all hY
    have lz:nb+1<W1.heap.size:=res_lt hY
    have lz':nb<W1.heap.size:=by omega
    have l0:w.heap.size<W1.heap.size:=by omega
    have l1:w.heap.size+1<W1.heap.size:=by omega
    have l2:w.heap.size+1+1<W1.heap.size:=by omega
    have l3:w.heap.size+1+1+1<W1.heap.size:=by omega
    refine Eq.mpr (rounds_succ (n:=2)) ?_
    repeat' (first|go_skip|go_guarded|go_step|go_step3|go_upon)
    clear lz lz' l0 l1 l2 l3
    refine rounds_abs (F:=fun X=>P6 X (w.heap.size) k l d b cc o (S4 X (w.heap.size+1) at_ level held a 0 c (X3 X (w.heap.size+1+1) 4 anow acost (S4 X nb aat alv ahd none 0 0 (X3 X (nb+1) 0 0 0 (X.cell? ⟨nb+1,3,none⟩=some (.bool false)∧ResB X (w.heap.size+1+1+1)∧ResB X (nb+1)∧Below w.heap.size w X)))))) ⟨bl_cell k1 c0,bl_cell k1 c1,bl_cell k1 c2,bl_cell k1 c3,bl_cell k1 c4,bl_cell k1 c5,bl_cell k1 c6,bl_cell k1 c7,bl_cell k1 c8,bl_cell k1 c9,bl_cell k1 c10,bl_cell k1 c11,bl_cell k1 c12,bl_cell k1 x0,bl_cell k1 x1,bl_cell k1 x2,bl_cell k1 x3,bl_cell k1 y0,bl_cell k1 y1,bl_cell k1 y2,bl_cell k1 y3,res_bl hR k1,res_bl hY k1,bl_alloc hB _⟩ ?_
    clear hR hY hB F0 F1 F2 F3 I0 I1 I2 I3 G0 G1 G2 G3 c0 c1 c2 c3 c4 c5 c6 c7 c8 c9 c10 c11 c12 x0 x1 x2 x3 y0 y1 y2 y3
    rintro W2 ⟨c0,c1,c2,c3,c4,c5,c6,c7,c8,c9,c10,c11,c12,x0,x1,x2,x3,y0,y1,y2,y3,hR,hY,hB⟩
    obtain⟨F0,F1,F2,F3,U0,U1,U2,U3,I0,I1,I2,I3⟩:=res_all hR
    obtain⟨G0,G1,G2,G3,-⟩:=res_all hY
    have lz:nb+1<W2.heap.size:=res_lt hY
    have lz':nb<W2.heap.size:=by omega
    have l0:w.heap.size<W2.heap.size:=by omega
    have l1:w.heap.size+1<W2.heap.size:=by omega
    have l2:w.heap.size+1+1<W2.heap.size:=by omega
    have l3:w.heap.size+1+1+1<W2.heap.size:=by omega
    refine Eq.mpr (rounds_succ (n:=1)) ?_
    repeat' (first|go_skip|go_guarded|go_step|go_step3|go_upon)
    clear lz lz' l0 l1 l2 l3
    refine rounds_abs (F:=fun X=>P6 X (w.heap.size) k l d b cc o (S4 X (w.heap.size+1) at_ level held a 0 c (X3 X (w.heap.size+1+1) 4 anow acost (S4 X nb aat alv ahd none 0 0 (X3 X (nb+1) 0 0 0 (X.cell? ⟨nb+1,3,none⟩=some (.bool false)∧ResB X (w.heap.size+1+1+1)∧ResB X (nb+1)∧Below w.heap.size w X)))))) ⟨bl_cell k1 c0,bl_cell k1 c1,bl_cell k1 c2,bl_cell k1 c3,bl_cell k1 c4,bl_cell k1 c5,bl_cell k1 c6,bl_cell k1 c7,bl_cell k1 c8,bl_cell k1 c9,bl_cell k1 c10,bl_cell k1 c11,bl_cell k1 c12,bl_cell k1 x0,bl_cell k1 x1,bl_cell k1 x2,bl_cell k1 x3,bl_cell k1 y0,bl_cell k1 y1,bl_cell k1 y2,bl_cell k1 y3,res_bl hR k1,res_bl hY k1,bl_alloc hB _⟩ ?_
    clear hR hY hB F0 F1 F2 F3 I0 I1 I2 I3 G0 G1 G2 G3 c0 c1 c2 c3 c4 c5 c6 c7 c8 c9 c10 c11 c12 x0 x1 x2 x3 y0 y1 y2 y3
    rintro W3 ⟨c0,c1,c2,c3,c4,c5,c6,c7,c8,c9,c10,c11,c12,x0,x1,x2,x3,y0,y1,y2,y3,hR,hY,hB⟩
    obtain⟨F0,F1,F2,F3,U0,U1,U2,U3,I0,I1,I2,I3⟩:=res_all hR
    obtain⟨G0,G1,G2,G3,-⟩:=res_all hY
    have lz:nb+1<W3.heap.size:=res_lt hY
    have lz':nb<W3.heap.size:=by omega
    have l0:w.heap.size<W3.heap.size:=by omega
    have l1:w.heap.size+1<W3.heap.size:=by omega
    have l2:w.heap.size+1+1<W3.heap.size:=by omega
    have l3:w.heap.size+1+1+1<W3.heap.size:=by omega
    refine Eq.mpr (rounds_succ (n:=0)) ?_
    repeat' (first|go_skip|go_guarded|go_step|go_step3|go_upon)
    (try simp only[Exit.inBlock,Exit.then,Exit.noGoto_ret])
    refine bodyPost_ret (results_state2 rfl _ _ (by rfl) (cells4_alloc (set4r (res4 hR)))) rfl ⟨by first|rfl|simp,(bl_alloc (bl4 (bl4 hB (by omega)) (by omega)) _)⟩
  · refine wp_loop_rounds 4 ?_
    refine rounds_abs (F:=fun X=>P6 X (w.heap.size) k l d b cc o (S4 X (w.heap.size+1) at_ level held a 0 c (X3 X (w.heap.size+1+1) 4 anow acost (S4 X nb aat alv ahd none 0 0 (X3 X (nb+1) 0 0 0 (X.cell? ⟨nb+1,3,none⟩=some (.bool false)∧ResB X (w.heap.size+1+1+1)∧ResB X (nb+1)∧Below w.heap.size w X)))))) ⟨c0,c1,c2,c3,c4,c5,c6,c7,c8,c9,c10,c11,c12,x0,x1,x2,x3,y0,y1,y2,y3,hR,hY,hB⟩ ?_
    clear hR hY hB F0 F1 F2 F3 I0 I1 I2 I3 G0 G1 G2 G3 c0 c1 c2 c3 c4 c5 c6 c7 c8 c9 c10 c11 c12 x0 x1 x2 x3 y0 y1 y2 y3
    rintro W0 ⟨c0,c1,c2,c3,c4,c5,c6,c7,c8,c9,c10,c11,c12,x0,x1,x2,x3,y0,y1,y2,y3,hR,hY,hB⟩
    obtain⟨F0,F1,F2,F3,U0,U1,U2,U3,I0,I1,I2,I3⟩:=res_all hR
    obtain⟨G0,G1,G2,G3,-⟩:=res_all hY
    have lz:nb+1<W0.heap.size:=res_lt hY
    have lz':nb<W0.heap.size:=by omega
    have l0:w.heap.size<W0.heap.size:=by omega
    have l1:w.heap.size+1<W0.heap.size:=by omega
    have l2:w.heap.size+1+1<W0.heap.size:=by omega
    have l3:w.heap.size+1+1+1<W0.heap.size:=by omega
    refine Eq.mpr (rounds_succ (n:=3)) ?_
    repeat' (first|go_skip|go_guarded|go_step|go_step3|go_upon)
    clear lz lz' l0 l1 l2 l3
    refine rounds_abs (F:=fun X=>P6 X (w.heap.size) k l d b cc o (S4 X (w.heap.size+1) at_ level held a 0 c (X3 X (w.heap.size+1+1) 4 anow acost (S4 X nb aat alv ahd none 0 0 (X3 X (nb+1) 0 0 0 (X.cell? ⟨nb+1,3,none⟩=some (.bool false)∧ResB X (w.heap.size+1+1+1)∧ResB X (nb+1)∧Below w.heap.size w X)))))) ⟨bl_cell k1 c0,bl_cell k1 c1,bl_cell k1 c2,bl_cell k1 c3,bl_cell k1 c4,bl_cell k1 c5,bl_cell k1 c6,bl_cell k1 c7,bl_cell k1 c8,bl_cell k1 c9,bl_cell k1 c10,bl_cell k1 c11,bl_cell k1 c12,bl_cell k1 x0,bl_cell k1 x1,bl_cell k1 x2,bl_cell k1 x3,bl_cell k1 y0,bl_cell k1 y1,bl_cell k1 y2,bl_cell k1 y3,res_bl hR k1,res_bl hY k1,bl_alloc hB _⟩ ?_
    clear hR hY hB F0 F1 F2 F3 I0 I1 I2 I3 G0 G1 G2 G3 c0 c1 c2 c3 c4 c5 c6 c7 c8 c9 c10 c11 c12 x0 x1 x2 x3 y0 y1 y2 y3
    rintro W1 ⟨c0,c1,c2,c3,c4,c5,c6,c7,c8,c9,c10,c11,c12,x0,x1,x2,x3,y0,y1,y2,y3,hR,hY,hB⟩
    obtain⟨F0,F1,F2,F3,U0,U1,U2,U3,I0,I1,I2,I3⟩:=res_all hR
    obtain⟨G0,G1,G2,G3,-⟩:=res_all hY
    have lz:nb+1<W1.heap.size:=res_lt hY
    have lz':nb<W1.heap.size:=by omega
    have l0:w.heap.size<W1.heap.size:=by omega
    have l1:w.heap.size+1<W1.heap.size:=by omega
    have l2:w.heap.size+1+1<W1.heap.size:=by omega
    have l3:w.heap.size+1+1+1<W1.heap.size:=by omega
    refine Eq.mpr (rounds_succ (n:=2)) ?_
    repeat' (first|go_skip|go_guarded|go_step|go_step3|go_upon)
    clear lz lz' l0 l1 l2 l3
    refine rounds_abs (F:=fun X=>P6 X (w.heap.size) k l d b cc o (S4 X (w.heap.size+1) at_ level held a 0 c (X3 X (w.heap.size+1+1) 4 anow acost (S4 X nb aat alv ahd none 0 0 (X3 X (nb+1) 0 0 0 (X.cell? ⟨nb+1,3,none⟩=some (.bool false)∧ResB X (w.heap.size+1+1+1)∧ResB X (nb+1)∧Below w.heap.size w X)))))) ⟨bl_cell k1 c0,bl_cell k1 c1,bl_cell k1 c2,bl_cell k1 c3,bl_cell k1 c4,bl_cell k1 c5,bl_cell k1 c6,bl_cell k1 c7,bl_cell k1 c8,bl_cell k1 c9,bl_cell k1 c10,bl_cell k1 c11,bl_cell k1 c12,bl_cell k1 x0,bl_cell k1 x1,bl_cell k1 x2,bl_cell k1 x3,bl_cell k1 y0,bl_cell k1 y1,bl_cell k1 y2,bl_cell k1 y3,res_bl hR k1,res_bl hY k1,bl_alloc hB _⟩ ?_
    clear hR hY hB F0 F1 F2 F3 I0 I1 I2 I3 G0 G1 G2 G3 c0 c1 c2 c3 c4 c5 c6 c7 c8 c9 c10 c11 c12 x0 x1 x2 x3 y0 y1 y2 y3
    rintro W2 ⟨c0,c1,c2,c3,c4,c5,c6,c7,c8,c9,c10,c11,c12,x0,x1,x2,x3,y0,y1,y2,y3,hR,hY,hB⟩
    obtain⟨F0,F1,F2,F3,U0,U1,U2,U3,I0,I1,I2,I3⟩:=res_all hR
    obtain⟨G0,G1,G2,G3,-⟩:=res_all hY
    have lz:nb+1<W2.heap.size:=res_lt hY
    have lz':nb<W2.heap.size:=by omega
    have l0:w.heap.size<W2.heap.size:=by omega
    have l1:w.heap.size+1<W2.heap.size:=by omega
    have l2:w.heap.size+1+1<W2.heap.size:=by omega
    have l3:w.heap.size+1+1+1<W2.heap.size:=by omega
    refine Eq.mpr (rounds_succ (n:=1)) ?_
    repeat' (first|go_skip|go_guarded|go_step|go_step3|go_upon)
    clear lz lz' l0 l1 l2 l3
    refine rounds_abs (F:=fun X=>P6 X (w.heap.size) k l d b cc o (S4 X (w.heap.size+1) at_ level held a 0 c (X3 X (w.heap.size+1+1) 4 anow acost (S4 X nb aat alv ahd none 0 0 (X3 X (nb+1) 0 0 0 (X.cell? ⟨nb+1,3,none⟩=some (.bool false)∧ResB X (w.heap.size+1+1+1)∧ResB X (nb+1)∧Below w.heap.size w X)))))) ⟨bl_cell k1 c0,bl_cell k1 c1,bl_cell k1 c2,bl_cell k1 c3,bl_cell k1 c4,bl_cell k1 c5,bl_cell k1 c6,bl_cell k1 c7,bl_cell k1 c8,bl_cell k1 c9,bl_cell k1 c10,bl_cell k1 c11,bl_cell k1 c12,bl_cell k1 x0,bl_cell k1 x1,bl_cell k1 x2,bl_cell k1 x3,bl_cell k1 y0,bl_cell k1 y1,bl_cell k1 y2,bl_cell k1 y3,res_bl hR k1,res_bl hY k1,bl_alloc hB _⟩ ?_
    clear hR hY hB F0 F1 F2 F3 I0 I1 I2 I3 G0 G1 G2 G3 c0 c1 c2 c3 c4 c5 c6 c7 c8 c9 c10 c11 c12 x0 x1 x2 x3 y0 y1 y2 y3
    rintro W3 ⟨c0,c1,c2,c3,c4,c5,c6,c7,c8,c9,c10,c11,c12,x0,x1,x2,x3,y0,y1,y2,y3,hR,hY,hB⟩
    obtain⟨F0,F1,F2,F3,U0,U1,U2,U3,I0,I1,I2,I3⟩:=res_all hR
    obtain⟨G0,G1,G2,G3,-⟩:=res_all hY
    have lz:nb+1<W3.heap.size:=res_lt hY
    have lz':nb<W3.heap.size:=by omega
    have l0:w.heap.size<W3.heap.size:=by omega
    have l1:w.heap.size+1<W3.heap.size:=by omega
    have l2:w.heap.size+1+1<W3.heap.size:=by omega
    have l3:w.heap.size+1+1+1<W3.heap.size:=by omega
    refine Eq.mpr (rounds_succ (n:=0)) ?_
    repeat' (first|go_skip|go_guarded|go_step|go_step3|go_upon)
    (try simp only[Exit.inBlock,Exit.then,Exit.noGoto_ret])
    refine bodyPost_ret (results_state2 rfl _ _ (by rfl) (cells4_alloc (set4r (res4 hR)))) rfl ⟨by first|rfl|simp,(bl_alloc (bl4 (bl4 hB (by omega)) (by omega)) _)⟩
  · refine wp_loop_rounds 4 ?_
    refine rounds_abs (F:=fun X=>P6 X (w.heap.size) k l d b cc o (S4 X (w.heap.size+1) at_ level held a 0 c (X3 X (w.heap.size+1+1) 4 anow acost (S4 X nb aat alv ahd none 0 0 (X3 X (nb+1) 0 0 0 (X.cell? ⟨nb+1,3,none⟩=some (.bool false)∧ResB X (w.heap.size+1+1+1)∧ResB X (nb+1)∧Below w.heap.size w X)))))) ⟨c0,c1,c2,c3,c4,c5,c6,c7,c8,c9,c10,c11,c12,x0,x1,x2,x3,y0,y1,y2,y3,hR,hY,hB⟩ ?_
    clear hR hY hB F0 F1 F2 F3 I0 I1 I2 I3 G0 G1 G2 G3 c0 c1 c2 c3 c4 c5 c6 c7 c8 c9 c10 c11 c12 x0 x1 x2 x3 y0 y1 y2 y3
    rintro W0 ⟨c0,c1,c2,c3,c4,c5,c6,c7,c8,c9,c10,c11,c12,x0,x1,x2,x3,y0,y1,y2,y3,hR,hY,hB⟩
    obtain⟨F0,F1,F2,F3,U0,U1,U2,U3,I0,I1,I2,I3⟩:=res_all hR
    obtain⟨G0,G1,G2,G3,-⟩:=res_all hY
    have lz:nb+1<W0.heap.size:=res_lt hY
    have lz':nb<W0.heap.size:=by omega
    have l0:w.heap.size<W0.heap.size:=by omega
    have l1:w.heap.size+1<W0.heap.size:=by omega
    have l2:w.heap.size+1+1<W0.heap.size:=by omega
    have l3:w.heap.size+1+1+1<W0.heap.size:=by omega
    refine Eq.mpr (rounds_succ (n:=3)) ?_
    repeat' (first|go_skip|go_guarded|go_step|go_step3|go_upon)
    clear lz lz' l0 l1 l2 l3
    refine rounds_abs (F:=fun X=>P6 X (w.heap.size) k l d b cc o (S4 X (w.heap.size+1) at_ level held a 0 c (X3 X (w.heap.size+1+1) 4 anow acost (S4 X nb aat alv ahd none 0 0 (X3 X (nb+1) 0 0 0 (X.cell? ⟨nb+1,3,none⟩=some (.bool false)∧ResB X (w.heap.size+1+1+1)∧ResB X (nb+1)∧Below w.heap.size w X)))))) ⟨bl_cell k1 c0,bl_cell k1 c1,bl_cell k1 c2,bl_cell k1 c3,bl_cell k1 c4,bl_cell k1 c5,bl_cell k1 c6,bl_cell k1 c7,bl_cell k1 c8,bl_cell k1 c9,bl_cell k1 c10,bl_cell k1 c11,bl_cell k1 c12,bl_cell k1 x0,bl_cell k1 x1,bl_cell k1 x2,bl_cell k1 x3,bl_cell k1 y0,bl_cell k1 y1,bl_cell k1 y2,bl_cell k1 y3,res_bl hR k1,res_bl hY k1,bl_alloc hB _⟩ ?_
    clear hR hY hB F0 F1 F2 F3 I0 I1 I2 I3 G0 G1 G2 G3 c0 c1 c2 c3 c4 c5 c6 c7 c8 c9 c10 c11 c12 x0 x1 x2 x3 y0 y1 y2 y3
    rintro W1 ⟨c0,c1,c2,c3,c4,c5,c6,c7,c8,c9,c10,c11,c12,x0,x1,x2,x3,y0,y1,y2,y3,hR,hY,hB⟩
    obtain⟨F0,F1,F2,F3,U0,U1,U2,U3,I0,I1,I2,I3⟩:=res_all hR
    obtain⟨G0,G1,G2,G3,-⟩:=res_all hY
    have lz:nb+1<W1.heap.size:=res_lt hY
    have lz':nb<W1.heap.size:=by omega
    have l0:w.heap.size<W1.heap.size:=by omega
    have l1:w.heap.size+1<W1.heap.size:=by omega
    have l2:w.heap.size+1+1<W1.heap.size:=by omega
    have l3:w.heap.size+1+1+1<W1.heap.size:=by omega
    refine Eq.mpr (rounds_succ (n:=2)) ?_
    repeat' (first|go_skip|go_guarded|go_step|go_step3|go_upon)
    clear lz lz' l0 l1 l2 l3
    refine rounds_abs (F:=fun X=>P6 X (w.heap.size) k l d b cc o (S4 X (w.heap.size+1) at_ level held a 0 c (X3 X (w.heap.size+1+1) 4 anow acost (S4 X nb aat alv ahd none 0 0 (X3 X (nb+1) 0 0 0 (X.cell? ⟨nb+1,3,none⟩=some (.bool false)∧ResB X (w.heap.size+1+1+1)∧ResB X (nb+1)∧Below w.heap.size w X)))))) ⟨bl_cell k1 c0,bl_cell k1 c1,bl_cell k1 c2,bl_cell k1 c3,bl_cell k1 c4,bl_cell k1 c5,bl_cell k1 c6,bl_cell k1 c7,bl_cell k1 c8,bl_cell k1 c9,bl_cell k1 c10,bl_cell k1 c11,bl_cell k1 c12,bl_cell k1 x0,bl_cell k1 x1,bl_cell k1 x2,bl_cell k1 x3,bl_cell k1 y0,bl_cell k1 y1,bl_cell k1 y2,bl_cell k1 y3,res_bl hR k1,res_bl hY k1,bl_alloc hB _⟩ ?_
    clear hR hY hB F0 F1 F2 F3 I0 I1 I2 I3 G0 G1 G2 G3 c0 c1 c2 c3 c4 c5 c6 c7 c8 c9 c10 c11 c12 x0 x1 x2 x3 y0 y1 y2 y3
    rintro W2 ⟨c0,c1,c2,c3,c4,c5,c6,c7,c8,c9,c10,c11,c12,x0,x1,x2,x3,y0,y1,y2,y3,hR,hY,hB⟩
    obtain⟨F0,F1,F2,F3,U0,U1,U2,U3,I0,I1,I2,I3⟩:=res_all hR
    obtain⟨G0,G1,G2,G3,-⟩:=res_all hY
    have lz:nb+1<W2.heap.size:=res_lt hY
    have lz':nb<W2.heap.size:=by omega
    have l0:w.heap.size<W2.heap.size:=by omega
    have l1:w.heap.size+1<W2.heap.size:=by omega
    have l2:w.heap.size+1+1<W2.heap.size:=by omega
    have l3:w.heap.size+1+1+1<W2.heap.size:=by omega
    refine Eq.mpr (rounds_succ (n:=1)) ?_
    repeat' (first|go_skip|go_guarded|go_step|go_step3|go_upon)
    clear lz lz' l0 l1 l2 l3
    refine rounds_abs (F:=fun X=>P6 X (w.heap.size) k l d b cc o (S4 X (w.heap.size+1) at_ level held a 0 c (X3 X (w.heap.size+1+1) 4 anow acost (S4 X nb aat alv ahd none 0 0 (X3 X (nb+1) 0 0 0 (X.cell? ⟨nb+1,3,none⟩=some (.bool false)∧ResB X (w.heap.size+1+1+1)∧ResB X (nb+1)∧Below w.heap.size w X)))))) ⟨bl_cell k1 c0,bl_cell k1 c1,bl_cell k1 c2,bl_cell k1 c3,bl_cell k1 c4,bl_cell k1 c5,bl_cell k1 c6,bl_cell k1 c7,bl_cell k1 c8,bl_cell k1 c9,bl_cell k1 c10,bl_cell k1 c11,bl_cell k1 c12,bl_cell k1 x0,bl_cell k1 x1,bl_cell k1 x2,bl_cell k1 x3,bl_cell k1 y0,bl_cell k1 y1,bl_cell k1 y2,bl_cell k1 y3,res_bl hR k1,res_bl hY k1,bl_alloc hB _⟩ ?_
    clear hR hY hB F0 F1 F2 F3 I0 I1 I2 I3 G0 G1 G2 G3 c0 c1 c2 c3 c4 c5 c6 c7 c8 c9 c10 c11 c12 x0 x1 x2 x3 y0 y1 y2 y3
    rintro W3 ⟨c0,c1,c2,c3,c4,c5,c6,c7,c8,c9,c10,c11,c12,x0,x1,x2,x3,y0,y1,y2,y3,hR,hY,hB⟩
    obtain⟨F0,F1,F2,F3,U0,U1,U2,U3,I0,I1,I2,I3⟩:=res_all hR
    obtain⟨G0,G1,G2,G3,-⟩:=res_all hY
    have lz:nb+1<W3.heap.size:=res_lt hY
    have lz':nb<W3.heap.size:=by omega
    have l0:w.heap.size<W3.heap.size:=by omega
    have l1:w.heap.size+1<W3.heap.size:=by omega
    have l2:w.heap.size+1+1<W3.heap.size:=by omega
    have l3:w.heap.size+1+1+1<W3.heap.size:=by omega
    refine Eq.mpr (rounds_succ (n:=0)) ?_
    repeat' (first|go_skip|go_guarded|go_step|go_step3|go_upon)
    (try simp only[Exit.inBlock,Exit.then,Exit.noGoto_ret])
    refine bodyPost_ret (results_state2 rfl _ _ (by rfl) (cells4_alloc (set4r (res4 hR)))) rfl ⟨by first|rfl|simp,(bl_alloc (bl4 (bl4 hB (by omega)) (by omega)) _)⟩

theorem cdo_5 (p:Pol) (s:St) (a:Option Addr) (c:Nat) (anow acost:Int) (ak:Int) (A:St) (w:World) (h:rightC p s) (hA:A=advC p s anow) (hk1:¬ ak=1) (hk2:¬ ak=2) (hk3:¬ ak=3) (hk4:¬ ak=4) :
    Calls Tryz.prog 116 #[p.v,s.v a 0 c,.agg #[.int .i64 ak,.int .i64 anow,.int .i64 acost]] w fun e w' =>
      e=.returned (.tuple #[s.v a 0 c,.bool false])∧Below w.heap.size w w':=by
  have hlg:=h.2.2.2.2.2.2.2.2
  have hrt:=cright_any p s a 0 c (by rw[hlg];rfl)
  have hav:=cadv_any p s a 0 c anow (by rw[hlg];rfl)
  rw[decide_eq_true h] at hrt
  have hlv:=advC_level p s anow h
  rw[← hA] at hav hlv
  obtain⟨⟨q0,q1,q2,q3,q4,q5,q6⟩,r1,r2,r3,r4,r5,r6,r7,r8⟩:=h
  clear hA
  obtain⟨k,l,d,b,cc,o⟩:=p
  obtain⟨at_,level,held,lg⟩:=s
  obtain⟨aat,alv,ahd,alg⟩:=A
  unfold St.v Pol.v at *
  dsimp only at *
  have hw1:IntKind.i64.wrap (l - ahd)=l - ahd:=IntWalk.i64_in _ (by omega)
  have hw2:IntKind.i64.wrap (l - ahd - alv)=l - ahd - alv:=IntWalk.i64_in _ (by omega)
  have HRT:=Go.Lib.hid hrt
  have HAV:=Go.Lib.hid hav
  have j0:=idx0
  have j1:=idx1
  have j2:=idx2
  have j3:=idx3
  clear hrt hav hlv q0 q1 q2 q3 q4 q5 q6 r1 r2 r3 r4 r5 r6 r7 r8 hlg
  go_enter Tryz.func116,Tryz.ntmps116
  go_wp2_with go_step3
  refine(HRT.out _).mono ?_
  rintro e w1 ⟨rfl,hb⟩
  have hB:Below w.heap.size w w1:=bl_then k4 hb
  obtain⟨c0,c1,c2,c3,c4,c5⟩:=b6 (w.heap.size) k l d b cc o hb
  have c6:=bl_cell (v:=.int .i64 at_) hb (show World.cell? _ ⟨w.heap.size+1,0,none⟩=_ by go_simp)
  have c7:=bl_cell (v:=.int .i64 level) hb (show World.cell? _ ⟨w.heap.size+1,1,none⟩=_ by go_simp)
  have c8:=bl_cell (v:=.int .i64 held) hb (show World.cell? _ ⟨w.heap.size+1,2,none⟩=_ by go_simp)
  have c9:=bl_cell (v:=.slice a 0 c) hb (show World.cell? _ ⟨w.heap.size+1,3,none⟩=_ by go_simp)
  obtain⟨c10,c11,c12⟩:=b3 (w.heap.size+1+1) ak anow acost hb
  have hR:ResB w1 (w.heap.size+1+1+1):=res_bl (res_new _ _ _ _ _ _ (by simp)) hb
  clear hb HRT
  go_wp2_with go_step3
  refine(HAV.out _).mono ?_
  rintro e w2 ⟨rfl,hb⟩
  clear HAV
  have d0:=bl_cell hb c0
  have d1:=bl_cell hb c1
  have d2:=bl_cell hb c2
  have d3:=bl_cell hb c3
  have d4:=bl_cell hb c4
  have d5:=bl_cell hb c5
  have d6:=bl_cell hb c6
  have d7:=bl_cell hb c7
  have d8:=bl_cell hb c8
  have d9:=bl_cell hb c9
  have d10:=bl_cell hb c10
  have d11:=bl_cell hb c11
  have d12:=bl_cell hb c12
  have dR:=res_bl hR hb
  have dB:=bl_then hB hb
  have hlt:=res_lt dR
  clear hR hB hb c0 c1 c2 c3 c4 c5 c6 c7 c8 c9 c10 c11 c12
  go_wp2_with go_step3
  refine(changes_any _).mono ?_
  rintro e w3 ⟨rfl,hb⟩
  have c0:=bl_cell hb (bl_cell (bl_alloc (bl_alloc (bl_refl w2) _) _) d0)
  have c1:=bl_cell hb (bl_cell (bl_alloc (bl_alloc (bl_refl w2) _) _) d1)
  have c2:=bl_cell hb (bl_cell (bl_alloc (bl_alloc (bl_refl w2) _) _) d2)
  have c3:=bl_cell hb (bl_cell (bl_alloc (bl_alloc (bl_refl w2) _) _) d3)
  have c4:=bl_cell hb (bl_cell (bl_alloc (bl_alloc (bl_refl w2) _) _) d4)
  have c5:=bl_cell hb (bl_cell (bl_alloc (bl_alloc (bl_refl w2) _) _) d5)
  have c6:=bl_cell hb (bl_cell (bl_alloc (bl_alloc (bl_refl w2) _) _) d6)
  have c7:=bl_cell hb (bl_cell (bl_alloc (bl_alloc (bl_refl w2) _) _) d7)
  have c8:=bl_cell hb (bl_cell (bl_alloc (bl_alloc (bl_refl w2) _) _) d8)
  have c9:=bl_cell hb (bl_cell (bl_alloc (bl_alloc (bl_refl w2) _) _) d9)
  have c10:=bl_cell hb (bl_cell (bl_alloc (bl_alloc (bl_refl w2) _) _) d10)
  have c11:=bl_cell hb (bl_cell (bl_alloc (bl_alloc (bl_refl w2) _) _) d11)
  have c12:=bl_cell hb (bl_cell (bl_alloc (bl_alloc (bl_refl w2) _) _) d12)
  have hR:=res_bl (res_bl dR (bl_alloc (bl_alloc (bl_refl w2) _) _)) hb
  have hB:=bl_then (bl_alloc (bl_alloc dB _) _) hb
  obtain⟨x0,x1,x2,x3⟩:=b4 (w2.heap.size) aat alv ahd none 0 0 hb
  have y0:=bl_cell (v:=.int .i64 0) hb (show World.cell? _ ⟨w2.heap.size+1,0,none⟩=_ by go_simp)
  have y1:=bl_cell (v:=.int .i64 0) hb (show World.cell? _ ⟨w2.heap.size+1,1,none⟩=_ by go_simp)
  have y2:=bl_cell (v:=.int .i64 0) hb (show World.cell? _ ⟨w2.heap.size+1,2,none⟩=_ by go_simp)
  have y3:=bl_cell (v:=.bool false) hb (show World.cell? _ ⟨w2.heap.size+1,3,none⟩=_ by go_simp)
  have hY:ResB w3 (w2.heap.size+1):=res_bl (res_new _ _ _ _ _ _ (by simp)) hb
  have hlt3:w2.heap.size+1<w3.heap.size:=res_lt hY
  generalize w2.heap.size=nb at *
  clear hb dR dB d0 d1 d2 d3 d4 d5 d6 d7 d8 d9 d10 d11 d12
  obtain⟨F0,F1,F2,F3,U0,U1,U2,U3,I0,I1,I2,I3⟩:=res_all hR
  obtain⟨G0,G1,G2,G3,V0,V1,V2,V3,-⟩:=res_all hY
  go_wp2_with go_step3
  have n0:¬ nb=w.heap.size:=by omega
  have m0:¬ w.heap.size=nb:=by omega
  have n0':¬ nb+1=w.heap.size:=by omega
  have m0':¬ w.heap.size=nb+1:=by omega
  have n1:¬ nb=w.heap.size+1:=by omega
  have m1:¬ w.heap.size+1=nb:=by omega
  have n1':¬ nb+1=w.heap.size+1:=by omega
  have m1':¬ w.heap.size+1=nb+1:=by omega
  have n2:¬ nb=w.heap.size+1+1:=by omega
  have m2:¬ w.heap.size+1+1=nb:=by omega
  have n2':¬ nb+1=w.heap.size+1+1:=by omega
  have m2':¬ w.heap.size+1+1=nb+1:=by omega
  have n3:¬ nb=w.heap.size+1+1+1:=by omega
  have m3:¬ w.heap.size+1+1+1=nb:=by omega
  have n3':¬ nb+1=w.heap.size+1+1+1:=by omega
  have m3':¬ w.heap.size+1+1+1=nb+1:=by omega
  refine wp_loop_rounds 5 ?_
  refine rounds_abs (F:=fun X=>P6 X (w.heap.size) k l d b cc o (S4 X (w.heap.size+1) at_ level held a 0 c (X3 X (w.heap.size+1+1) ak anow acost (S4 X nb aat alv ahd none 0 0 (X3 X (nb+1) 0 0 0 (X.cell? ⟨nb+1,3,none⟩=some (.bool false)∧ResB X (w.heap.size+1+1+1)∧ResB X (nb+1)∧Below w.heap.size w X)))))) ⟨c0,c1,c2,c3,c4,c5,c6,c7,c8,c9,c10,c11,c12,x0,x1,x2,x3,y0,y1,y2,y3,hR,hY,hB⟩ ?_
  clear hR hY hB F0 F1 F2 F3 I0 I1 I2 I3 G0 G1 G2 G3 c0 c1 c2 c3 c4 c5 c6 c7 c8 c9 c10 c11 c12 x0 x1 x2 x3 y0 y1 y2 y3
  rintro W0 ⟨c0,c1,c2,c3,c4,c5,c6,c7,c8,c9,c10,c11,c12,x0,x1,x2,x3,y0,y1,y2,y3,hR,hY,hB⟩
  obtain⟨F0,F1,F2,F3,U0,U1,U2,U3,I0,I1,I2,I3⟩:=res_all hR
  obtain⟨G0,G1,G2,G3,-⟩:=res_all hY
  have lz:nb+1<W0.heap.size:=res_lt hY
  have lz':nb<W0.heap.size:=by omega
  have l0:w.heap.size<W0.heap.size:=by omega
  have l1:w.heap.size+1<W0.heap.size:=by omega
  have l2:w.heap.size+1+1<W0.heap.size:=by omega
  have l3:w.heap.size+1+1+1<W0.heap.size:=by omega
  refine Eq.mpr (rounds_succ (n:=4)) ?_
  repeat' (first|go_skip|go_guarded|go_step|go_step3|go_upon)
  clear lz lz' l0 l1 l2 l3
  refine rounds_abs (F:=fun X=>P6 X (w.heap.size) k l d b cc o (S4 X (w.heap.size+1) at_ level held a 0 c (X3 X (w.heap.size+1+1) ak anow acost (S4 X nb aat alv ahd none 0 0 (X3 X (nb+1) 0 0 0 (X.cell? ⟨nb+1,3,none⟩=some (.bool false)∧ResB X (w.heap.size+1+1+1)∧ResB X (nb+1)∧Below w.heap.size w X)))))) ⟨bl_cell k1 c0,bl_cell k1 c1,bl_cell k1 c2,bl_cell k1 c3,bl_cell k1 c4,bl_cell k1 c5,bl_cell k1 c6,bl_cell k1 c7,bl_cell k1 c8,bl_cell k1 c9,bl_cell k1 c10,bl_cell k1 c11,bl_cell k1 c12,bl_cell k1 x0,bl_cell k1 x1,bl_cell k1 x2,bl_cell k1 x3,bl_cell k1 y0,bl_cell k1 y1,bl_cell k1 y2,bl_cell k1 y3,res_bl hR k1,res_bl hY k1,bl_alloc hB _⟩ ?_
  clear hR hY hB F0 F1 F2 F3 I0 I1 I2 I3 G0 G1 G2 G3 c0 c1 c2 c3 c4 c5 c6 c7 c8 c9 c10 c11 c12 x0 x1 x2 x3 y0 y1 y2 y3
  rintro W1 ⟨c0,c1,c2,c3,c4,c5,c6,c7,c8,c9,c10,c11,c12,x0,x1,x2,x3,y0,y1,y2,y3,hR,hY,hB⟩
  obtain⟨F0,F1,F2,F3,U0,U1,U2,U3,I0,I1,I2,I3⟩:=res_all hR
  obtain⟨G0,G1,G2,G3,-⟩:=res_all hY
  have lz:nb+1<W1.heap.size:=res_lt hY
  have lz':nb<W1.heap.size:=by omega
  have l0:w.heap.size<W1.heap.size:=by omega
  have l1:w.heap.size+1<W1.heap.size:=by omega
  have l2:w.heap.size+1+1<W1.heap.size:=by omega
  have l3:w.heap.size+1+1+1<W1.heap.size:=by omega
  refine Eq.mpr (rounds_succ (n:=3)) ?_
  repeat' (first|go_skip|go_guarded|go_step|go_step3|go_upon)
  clear lz lz' l0 l1 l2 l3
  refine rounds_abs (F:=fun X=>P6 X (w.heap.size) k l d b cc o (S4 X (w.heap.size+1) at_ level held a 0 c (X3 X (w.heap.size+1+1) ak anow acost (S4 X nb aat alv ahd none 0 0 (X3 X (nb+1) 0 0 0 (X.cell? ⟨nb+1,3,none⟩=some (.bool false)∧ResB X (w.heap.size+1+1+1)∧ResB X (nb+1)∧Below w.heap.size w X)))))) ⟨bl_cell k1 c0,bl_cell k1 c1,bl_cell k1 c2,bl_cell k1 c3,bl_cell k1 c4,bl_cell k1 c5,bl_cell k1 c6,bl_cell k1 c7,bl_cell k1 c8,bl_cell k1 c9,bl_cell k1 c10,bl_cell k1 c11,bl_cell k1 c12,bl_cell k1 x0,bl_cell k1 x1,bl_cell k1 x2,bl_cell k1 x3,bl_cell k1 y0,bl_cell k1 y1,bl_cell k1 y2,bl_cell k1 y3,res_bl hR k1,res_bl hY k1,bl_alloc hB _⟩ ?_
  clear hR hY hB F0 F1 F2 F3 I0 I1 I2 I3 G0 G1 G2 G3 c0 c1 c2 c3 c4 c5 c6 c7 c8 c9 c10 c11 c12 x0 x1 x2 x3 y0 y1 y2 y3
  rintro W2 ⟨c0,c1,c2,c3,c4,c5,c6,c7,c8,c9,c10,c11,c12,x0,x1,x2,x3,y0,y1,y2,y3,hR,hY,hB⟩
  obtain⟨F0,F1,F2,F3,U0,U1,U2,U3,I0,I1,I2,I3⟩:=res_all hR
  obtain⟨G0,G1,G2,G3,-⟩:=res_all hY
  have lz:nb+1<W2.heap.size:=res_lt hY
  have lz':nb<W2.heap.size:=by omega
  have l0:w.heap.size<W2.heap.size:=by omega
  have l1:w.heap.size+1<W2.heap.size:=by omega
  have l2:w.heap.size+1+1<W2.heap.size:=by omega
  have l3:w.heap.size+1+1+1<W2.heap.size:=by omega
  refine Eq.mpr (rounds_succ (n:=2)) ?_
  repeat' (first|go_skip|go_guarded|go_step|go_step3|go_upon)
  clear lz lz' l0 l1 l2 l3
  refine rounds_abs (F:=fun X=>P6 X (w.heap.size) k l d b cc o (S4 X (w.heap.size+1) at_ level held a 0 c (X3 X (w.heap.size+1+1) ak anow acost (S4 X nb aat alv ahd none 0 0 (X3 X (nb+1) 0 0 0 (X.cell? ⟨nb+1,3,none⟩=some (.bool false)∧ResB X (w.heap.size+1+1+1)∧ResB X (nb+1)∧Below w.heap.size w X)))))) ⟨bl_cell k1 c0,bl_cell k1 c1,bl_cell k1 c2,bl_cell k1 c3,bl_cell k1 c4,bl_cell k1 c5,bl_cell k1 c6,bl_cell k1 c7,bl_cell k1 c8,bl_cell k1 c9,bl_cell k1 c10,bl_cell k1 c11,bl_cell k1 c12,bl_cell k1 x0,bl_cell k1 x1,bl_cell k1 x2,bl_cell k1 x3,bl_cell k1 y0,bl_cell k1 y1,bl_cell k1 y2,bl_cell k1 y3,res_bl hR k1,res_bl hY k1,bl_alloc hB _⟩ ?_
  clear hR hY hB F0 F1 F2 F3 I0 I1 I2 I3 G0 G1 G2 G3 c0 c1 c2 c3 c4 c5 c6 c7 c8 c9 c10 c11 c12 x0 x1 x2 x3 y0 y1 y2 y3
  rintro W3 ⟨c0,c1,c2,c3,c4,c5,c6,c7,c8,c9,c10,c11,c12,x0,x1,x2,x3,y0,y1,y2,y3,hR,hY,hB⟩
  obtain⟨F0,F1,F2,F3,U0,U1,U2,U3,I0,I1,I2,I3⟩:=res_all hR
  obtain⟨G0,G1,G2,G3,-⟩:=res_all hY
  have lz:nb+1<W3.heap.size:=res_lt hY
  have lz':nb<W3.heap.size:=by omega
  have l0:w.heap.size<W3.heap.size:=by omega
  have l1:w.heap.size+1<W3.heap.size:=by omega
  have l2:w.heap.size+1+1<W3.heap.size:=by omega
  have l3:w.heap.size+1+1+1<W3.heap.size:=by omega
  refine Eq.mpr (rounds_succ (n:=1)) ?_
  repeat' (first|go_skip|go_guarded|go_step|go_step3|go_upon)
  clear lz lz' l0 l1 l2 l3
  refine rounds_abs (F:=fun X=>P6 X (w.heap.size) k l d b cc o (S4 X (w.heap.size+1) at_ level held a 0 c (X3 X (w.heap.size+1+1) ak anow acost (S4 X nb aat alv ahd none 0 0 (X3 X (nb+1) 0 0 0 (X.cell? ⟨nb+1,3,none⟩=some (.bool false)∧ResB X (w.heap.size+1+1+1)∧ResB X (nb+1)∧Below w.heap.size w X)))))) ⟨bl_cell k1 c0,bl_cell k1 c1,bl_cell k1 c2,bl_cell k1 c3,bl_cell k1 c4,bl_cell k1 c5,bl_cell k1 c6,bl_cell k1 c7,bl_cell k1 c8,bl_cell k1 c9,bl_cell k1 c10,bl_cell k1 c11,bl_cell k1 c12,bl_cell k1 x0,bl_cell k1 x1,bl_cell k1 x2,bl_cell k1 x3,bl_cell k1 y0,bl_cell k1 y1,bl_cell k1 y2,bl_cell k1 y3,res_bl hR k1,res_bl hY k1,bl_alloc hB _⟩ ?_
  clear hR hY hB F0 F1 F2 F3 I0 I1 I2 I3 G0 G1 G2 G3 c0 c1 c2 c3 c4 c5 c6 c7 c8 c9 c10 c11 c12 x0 x1 x2 x3 y0 y1 y2 y3
  rintro W4 ⟨c0,c1,c2,c3,c4,c5,c6,c7,c8,c9,c10,c11,c12,x0,x1,x2,x3,y0,y1,y2,y3,hR,hY,hB⟩
  obtain⟨F0,F1,F2,F3,U0,U1,U2,U3,I0,I1,I2,I3⟩:=res_all hR
  obtain⟨G0,G1,G2,G3,-⟩:=res_all hY
  have lz:nb+1<W4.heap.size:=res_lt hY
  have lz':nb<W4.heap.size:=by omega
  have l0:w.heap.size<W4.heap.size:=by omega
  have l1:w.heap.size+1<W4.heap.size:=by omega
  have l2:w.heap.size+1+1<W4.heap.size:=by omega
  have l3:w.heap.size+1+1+1<W4.heap.size:=by omega
  refine Eq.mpr (rounds_succ (n:=0)) ?_
  repeat' (first|go_skip|go_guarded|go_step|go_step3|go_upon)
  (try simp only[Exit.inBlock,Exit.then,Exit.noGoto_ret])
  refine bodyPost_ret (results_state2 rfl _ _ (by rfl) (set4r hR)) rfl ⟨by first|rfl|simp,(bl4 hB (by omega))⟩
end Go.Proofs.YtmhikkbdhboodaaGreat
