/-
  What bucket.Do answers where the act is one of the four, and its cost may be.
  What bucket.Do answers where nothing is done.
  No condition.
-/
import Derived.Test.YtmhikkbdhboodaaGreatZz1
import Derived.Test.YtmhikkbdhboodaaGreatZz2
set_option maxHeartbeats 8000000
set_option maxRecDepth 100000
namespace Go.Proofs.YtmhikkbdhboodaaGreat
open Go.RowKit
set_option linter.unusedVariables false
set_option linter.unusedSimpArgs false

theorem bdo_1 (p:Pol) (s:St) (a:Option Addr) (c:Nat) (anow acost:Int) (w:World) (h:rightB p s) (hc1:1≤acost) (hc2:acost≤p.burst) :
    Calls Tryz.prog 124 #[p.v,s.v a 0 c,.agg #[.int .i64 1,.int .i64 anow,.int .i64 acost]] w fun e w' =>
      e=.returned (.tuple #[if (actB p (advB p s anow) ⟨1,anow,acost⟩).2 then(actB p (advB p s anow) ⟨1,anow,acost⟩).1.v none 0 0 else s.v a 0 c,.bool (actB p (advB p s anow) ⟨1,anow,acost⟩).2])∧Below w.heap.size w w':=by
  have hlg:=h.2.2.2.2.2.2.2
  have hrt:=bright_any p s a 0 c (by rw[hlg];rfl)
  have hav:=badv_any p s a 0 c anow (by rw[hlg];rfl)
  rw[decide_eq_true h] at hrt
  have hok:=h.1
  have hlv:=advB_level p s anow h
  have hhd:=advB_held p s anow h
  have hr3:=h.2.2.2.1
  have hr4:=h.2.2.2.2.1
  generalize advB p s anow=A at *
  clear h
  obtain⟨k,l,d,b,cc,o⟩:=p
  obtain⟨at_,level,held,lg⟩:=s
  obtain⟨aat,alv,ahd,alg⟩:=A
  unfold actB
  unfold St.v Pol.v at *
  dsimp only at *
  simp only[show((1:Int)=1)=True from eq_true rfl,show((2:Int)=1)=False from eq_false (by decide),show((2:Int)=2)=True from eq_true rfl,show((3:Int)=1)=False from eq_false (by decide),show((3:Int)=2)=False from eq_false (by decide),show((3:Int)=3)=True from eq_true rfl,show((4:Int)=1)=False from eq_false (by decide),show((4:Int)=2)=False from eq_false (by decide),show((4:Int)=3)=False from eq_false (by decide),show((4:Int)=4)=True from eq_true rfl,if_true,if_false]
  obtain⟨z0,z1,z2,z3,z4,z5,z6,z7⟩:=hok
  dsimp only at *
  have hM:acost*d≤1152921504606846976:=prod_le (by omega) (by omega) (by omega)
  have hM0:0≤acost*d:=Int.mul_nonneg (by omega) (by omega)
  have hw1:IntKind.i64.wrap (acost*d)=acost*d:=IntWalk.i64_in _ (by omega)
  have hw2:IntKind.i64.wrap (alv - acost*d)=alv - acost*d:=IntWalk.i64_in _ (by omega)
  have HAC:=Go.Lib.hid (fun w=>btake_any k l d b cc o aat alv ahd acost none 0 0 w hw1 hw2)
  have HRT:=Go.Lib.hid hrt
  have HAV:=Go.Lib.hid hav
  have hb1:¬ acost<1:=by omega
  have hb2:¬ b<acost:=by omega
  clear hrt hav hlv hhd hM hM0 z0 z1 z2 z3 z4 z5 z6 z7 hr3 hr4 hc1 hc2  hw1  hw2
  obtain⟨g,hg⟩:∃ g,decide (0≤alv - acost*d)=g:=⟨_,rfl⟩
  rw[hg] at HAC ⊢
  go_enter Tryz.func124,Tryz.ntmps124
  go_wp2_with fail
  refine wp_abs (S0:=fun w'=>P6 w' (w.heap.size) k l d b cc o (S4 w' (w.heap.size+1) at_ level held a 0 c (X3 w' (w.heap.size+1+1) 1 anow acost (ResB w' (w.heap.size+1+1+1)∧Below w.heap.size w w')))) ⟨by go_simp,by go_simp,by go_simp,by go_simp,by go_simp,by go_simp,by go_simp,by go_simp,by go_simp,by go_simp,by go_simp,by go_simp,by go_simp,res_new _ _ _ _ _ _ (by simp),k4⟩ ?_
  rintro W ⟨c0,c1,c2,c3,c4,c5,c6,c7,c8,c9,c10,c11,c12,hR,hB⟩
  refine wp_region_held_drew (S:=fun w'=>P6 w' (w.heap.size) k l d b cc o (S4 w' (w.heap.size+1) at_ level held a 0 c (X3 w' (w.heap.size+1+1) 1 anow acost (ResB w' (w.heap.size+1+1+1)∧Below w.heap.size w w')))) (by kernel_rfl) ?_ (fun hHeld=>?_)
  · exact⟨c0,c1,c2,c3,c4,c5,c6,c7,c8,c9,c10,c11,c12,hR,bl_drew hB⟩
  try simp only[Act.put,List.setIfInBounds_toArray,List.set_cons_zero,List.set_cons_succ]
  refine tkx 1 ?_
  refine tkx 2 ?_
  (refine callC (i:=0) rfl (fun K hK=>?_);go_simp;refine(acts_any _).mono ?_;rintro e w1 ⟨rfl,hA,hb⟩;generalize W.drew.heap.size+1+1=qr at *;generalize W.drew.heap.size+1=q2 at *;generalize W.drew.heap.size=q1 at hA;go_wp2_with fail;refine hK.out _ _ ?_ (fun hHeld'=>?_);(focus((try dsimp only);(obtain⟨h0,h1,h2,h3,h4,h5,h6,h7,h8,h9,h10,h11,h12,hr',hB'⟩:=hHeld;exact⟨bl_cell hb h0,bl_cell hb h1,bl_cell hb h2,bl_cell hb h3,bl_cell hb h4,bl_cell hb h5,bl_cell hb h6,bl_cell hb h7,bl_cell hb h8,bl_cell hb h9,bl_cell hb h10,bl_cell hb h11,bl_cell hb h12,res_bl hr' hb,bl_then hB' hb⟩)));clear hHeld hK K;rename _=>hHeld;try simp only[Act.put,List.setIfInBounds_toArray,List.set_cons_zero,List.set_cons_succ])
  have hlk:=acts_look hA 1
  unfold actF at hlk
  simp at hlk
  (refine callC (i:=3) rfl (fun K hK=>?_);go_simp;refine hK.out _ _ ?_ (fun hHeld'=>?_);(focus((try dsimp only);exact hHeld));clear hHeld hK K;rename _=>hHeld;clear hlk;try simp only[Act.put,List.setIfInBounds_toArray,List.set_cons_zero,List.set_cons_succ])
  refine tkx 4 ?_
  refine tkx 5 ?_
  refine tkx 6 ?_
  refine tkx 7 ?_
  refine tkx 8 ?_
  refine wpAnyH_done (by kernel_rfl) ?_ _
  clear c0 hR hB
  obtain⟨c0,c1,c2,c3,c4,c5,c6,c7,c8,c9,c10,c11,c12,hR,hB⟩:=hHeld
  try clear hHeld
  go_wp2_with fail
  refine(HRT.out _).mono ?_
  rintro e w2 ⟨rfl,hb2⟩
  have d0:=bl_cell hb2 c0
  have d1:=bl_cell hb2 c1
  have d2:=bl_cell hb2 c2
  have d3:=bl_cell hb2 c3
  have d4:=bl_cell hb2 c4
  have d5:=bl_cell hb2 c5
  have d6:=bl_cell hb2 c6
  have d7:=bl_cell hb2 c7
  have d8:=bl_cell hb2 c8
  have d9:=bl_cell hb2 c9
  have d10:=bl_cell hb2 c10
  have d11:=bl_cell hb2 c11
  have d12:=bl_cell hb2 c12
  have dR:=res_bl hR hb2
  have dB:=bl_then hB hb2
  have dA:=acts_bl hA hb2
  clear hR hB hA hb2 c0 c1 c2 c3 c4 c5 c6 c7 c8 c9 c10 c11 c12
  go_wp2_with fail
  refine wp_region_held_drew (S:=fun w'=>P6 w' (w.heap.size) k l d b cc o (S4 w' (w.heap.size+1) at_ level held a 0 c (X3 w' (w.heap.size+1+1) 1 anow acost (ResB w' (w.heap.size+1+1+1)∧Below w.heap.size w w')))) (by kernel_rfl) ?_ (fun hHeld=>?_)
  · exact⟨d0,d1,d2,d3,d4,d5,d6,d7,d8,d9,d10,d11,d12,dR,bl_drew dB⟩
  try simp only[Act.put,List.setIfInBounds_toArray,List.set_cons_zero,List.set_cons_succ]
  refine wpAnyH_abs (F:=fun W=>ActsAt W qr q1 q2) hHeld dA (fun W3 hHeld hA=>?_)
  clear dA dR dB d0 d1 d2 d3 d4 d5 d6 d7 d8 d9 d10 d11 d12
  refine tkx 0 ?_
  refine tkx 1 ?_
  refine tkx 2 ?_
  refine tkx 3 ?_
  refine tkx 4 ?_
  refine tkx 5 ?_
  refine tkx 7 ?_
  refine tkx 8 ?_
  refine callC2 (i:=6) (j:=13) rfl rfl (fun K hK=>?_) (fun K hK=>?_)
  · go_simp
    refine(HAV.out _).mono ?_
    rintro e w4 ⟨rfl,hb⟩
    go_wp2_with fail
    refine hK.out _ _ ?_ (fun hHeld'=>?_)
    · (try dsimp only)
      (obtain⟨h0,h1,h2,h3,h4,h5,h6,h7,h8,h9,h10,h11,h12,hr',hB'⟩:=hHeld;exact⟨bl_cell hb h0,bl_cell hb h1,bl_cell hb h2,bl_cell hb h3,bl_cell hb h4,bl_cell hb h5,bl_cell hb h6,bl_cell hb h7,bl_cell hb h8,bl_cell hb h9,bl_cell hb h10,bl_cell hb h11,bl_cell hb h12,res_bl hr' hb,bl_then hB' hb⟩)
    clear hHeld hK K
    rename _=>hHeld
    replace hA:=acts_bl hA hb
    clear hb
    try simp only[Act.put,List.setIfInBounds_toArray,List.set_cons_zero,List.set_cons_succ]
    refine callC2 (i:=9) (j:=13) rfl rfl (fun K hK=>?_) (fun K hK=>?_)
    · go_simp
      refine(HAC.out _).mono ?_
      rintro e w5 ⟨rfl,hb⟩
      go_wp2_with fail
      refine hK.out _ _ ?_ (fun hHeld'=>?_)
      · (try dsimp only)
        (obtain⟨h0,h1,h2,h3,h4,h5,h6,h7,h8,h9,h10,h11,h12,hr',hB'⟩:=hHeld;exact⟨bl_cell hb h0,bl_cell hb h1,bl_cell hb h2,bl_cell hb h3,bl_cell hb h4,bl_cell hb h5,bl_cell hb h6,bl_cell hb h7,bl_cell hb h8,bl_cell hb h9,bl_cell hb h10,bl_cell hb h11,bl_cell hb h12,res_bl hr' hb,bl_then hB' hb⟩)
      clear hHeld hK K
      rename _=>hHeld
      replace hA:=acts_bl hA hb
      clear hb
      try simp only[Act.put,List.setIfInBounds_toArray,List.set_cons_zero,List.set_cons_succ]
      refine tkx 10 ?_
      refine tkx 11 ?_
      refine tkx 12 ?_
      refine callC (i:=13) rfl (fun K hK=>?_)
      have hlt:w.heap.size+1+1+1<w5.heap.size:=by(obtain⟨h0,h1,h2,h3,h4,h5,h6,h7,h8,h9,h10,h11,h12,hr',hB'⟩:=hHeld;exact res_lt hr')
      go_simp
      refine hK.out _ _ ?_ (fun hHeld'=>?_)
      · (try dsimp only)
        (obtain⟨h0,h1,h2,h3,h4,h5,h6,h7,h8,h9,h10,h11,h12,hr',hB'⟩:=hHeld;exact⟨bl_cell k1 h0,bl_cell k1 h1,bl_cell k1 h2,bl_cell k1 h3,bl_cell k1 h4,bl_cell k1 h5,bl_cell k1 h6,bl_cell k1 h7,bl_cell k1 h8,bl_cell k1 h9,bl_cell k1 h10,bl_cell k1 h11,bl_cell k1 h12,res_bl hr' k1,bl_alloc hB' _⟩)
      clear hHeld hK K
      rename _=>hHeld
      try simp only[Act.put,List.setIfInBounds_toArray,List.set_cons_zero,List.set_cons_succ]
      refine wpAnyH_abs (F:=fun X=>ActsAt X qr q1 q2∧ResB X w5.heap.size) hHeld ⟨acts_bl hA k1,res_new _ _ _ _ _ _ rfl⟩ (fun w6 hHeld hAN=>?_)
      clear hA
      obtain⟨hA,hN⟩:=hAN
      generalize w5.heap.size=nb at *
      refine callC (i:=14) rfl (fun K hK=>?_)
      obtain⟨h0,h1,h2,h3,h4,h5,h6,h7,h8,h9,h10,h11,h12,hr',hB'⟩:=hHeld
      obtain⟨f0,f1,f2,f3,u0,u1,u2,u3,i0,i1,i2,i3⟩:=res_all hN
      clear hHeld
      have hHeld:True:=trivial
      go_simp
      refine hK.out _ _ ?_ (fun hHeld'=>?_)
      · (try dsimp only)
        (have e0:nb≠w.heap.size:=(by omega);have e1:nb≠w.heap.size+1:=(by omega);have e2:nb≠w.heap.size+1+1:=(by omega);exact⟨far4 h0 e0,far4 h1 e0,far4 h2 e0,far4 h3 e0,far4 h4 e0,far4 h5 e0,far4 h6 e1,far4 h7 e1,far4 h8 e1,far4 h9 e1,far4 h10 e2,far4 h11 e2,far4 h12 e2,res4 hr',bl4 hB' (by omega)⟩)
      clear hHeld hK K
      rename _=>hHeld
      try simp only[Act.put,List.setIfInBounds_toArray,List.set_cons_zero,List.set_cons_succ]
      refine tkx 15 ?_
      refine wpAnyH_done (by kernel_rfl) ?_ _
      obtain⟨h0,h1,h2,h3,h4,h5,h6,h7,h8,h9,h10,h11,h12,hr'',hE⟩:=hHeld
      refine then_abs (F:=fun X=>(X3 X nb aat (alv - acost*d) (ahd) (X.cell? ⟨nb,3,none⟩=some (.slice none 0 0)))∧S4 X (w.heap.size+1) at_ level held a 0 c (ResB X (w.heap.size+1+1+1)∧Below w.heap.size w X)) ⟨set4 _ _ _ _ i0 i1 i2 i3,h6,h7,h8,h9,hr'',hE⟩ ?_
      rintro X ⟨⟨x0,x1,x2,x3⟩,c6,c7,c8,c9,hR,hE⟩
      obtain⟨F0,F1,F2,F3,U0,U1,U2,U3,I0,I1,I2,I3⟩:=res_all hR
      clear hA hN hr' hB' hr'' i0 i1 i2 i3 f0 f1 f2 f3 u0 u1 u2 u3 hR h0 h1 h2 h3 h4 h5 h6 h7 h8 h9 h10 h11 h12
      cases g
      · repeat go_step
        (try simp only[Exit.inBlock,Exit.then])
        refine bodyPost_ret (results_state2 rfl _ _ (by rfl) (set4 _ _ _ _ I0 I1 I2 I3)) rfl ⟨by first|rfl|simp,bl4 hE (by omega)⟩
      · repeat go_step
        (try simp only[Exit.inBlock,Exit.then])
        refine bodyPost_ret (results_state2 rfl _ _ (by rfl) (set4 _ _ _ _ I0 I1 I2 I3)) rfl ⟨by first|rfl|simp,bl4 hE (by omega)⟩
    · have hlt:w.heap.size+1+1+1<w4.heap.size:=by(obtain⟨h0,h1,h2,h3,h4,h5,h6,h7,h8,h9,h10,h11,h12,hr',hB'⟩:=hHeld;exact res_lt hr')
      go_simp
      refine hK.out _ _ ?_ (fun hHeld'=>?_)
      · (try dsimp only)
        (obtain⟨h0,h1,h2,h3,h4,h5,h6,h7,h8,h9,h10,h11,h12,hr',hB'⟩:=hHeld;exact⟨bl_cell k1 h0,bl_cell k1 h1,bl_cell k1 h2,bl_cell k1 h3,bl_cell k1 h4,bl_cell k1 h5,bl_cell k1 h6,bl_cell k1 h7,bl_cell k1 h8,bl_cell k1 h9,bl_cell k1 h10,bl_cell k1 h11,bl_cell k1 h12,res_bl hr' k1,bl_alloc hB' _⟩)
      clear hHeld hK K
      rename _=>hHeld
      try simp only[Act.put,List.setIfInBounds_toArray,List.set_cons_zero,List.set_cons_succ]
      refine wpAnyH_abs (F:=fun X=>ActsAt X qr q1 q2∧ResB X w4.heap.size) hHeld ⟨acts_bl hA k1,res_new _ _ _ _ _ _ rfl⟩ (fun w5 hHeld hAN=>?_)
      clear hA
      obtain⟨hA,hN⟩:=hAN
      generalize w4.heap.size=nb at *
      refine callC (i:=9) rfl (fun K hK=>?_)
      go_simp
      refine(HAC.out _).mono ?_
      rintro e w6 ⟨rfl,hb⟩
      go_wp2_with fail
      refine hK.out _ _ ?_ (fun hHeld'=>?_)
      · (try dsimp only)
        (obtain⟨h0,h1,h2,h3,h4,h5,h6,h7,h8,h9,h10,h11,h12,hr',hB'⟩:=hHeld;exact⟨bl_cell hb h0,bl_cell hb h1,bl_cell hb h2,bl_cell hb h3,bl_cell hb h4,bl_cell hb h5,bl_cell hb h6,bl_cell hb h7,bl_cell hb h8,bl_cell hb h9,bl_cell hb h10,bl_cell hb h11,bl_cell hb h12,res_bl hr' hb,bl_then hB' hb⟩)
      clear hHeld hK K
      rename _=>hHeld
      replace hA:=acts_bl hA hb
      replace hN:=res_bl hN hb
      clear hb
      try simp only[Act.put,List.setIfInBounds_toArray,List.set_cons_zero,List.set_cons_succ]
      refine tkx 10 ?_
      refine tkx 11 ?_
      refine tkx 12 ?_
      refine callC (i:=14) rfl (fun K hK=>?_)
      obtain⟨h0,h1,h2,h3,h4,h5,h6,h7,h8,h9,h10,h11,h12,hr',hB'⟩:=hHeld
      obtain⟨f0,f1,f2,f3,u0,u1,u2,u3,i0,i1,i2,i3⟩:=res_all hN
      clear hHeld
      have hHeld:True:=trivial
      go_simp
      refine hK.out _ _ ?_ (fun hHeld'=>?_)
      · (try dsimp only)
        (have e0:nb≠w.heap.size:=(by omega);have e1:nb≠w.heap.size+1:=(by omega);have e2:nb≠w.heap.size+1+1:=(by omega);exact⟨far4 h0 e0,far4 h1 e0,far4 h2 e0,far4 h3 e0,far4 h4 e0,far4 h5 e0,far4 h6 e1,far4 h7 e1,far4 h8 e1,far4 h9 e1,far4 h10 e2,far4 h11 e2,far4 h12 e2,res4 hr',bl4 hB' (by omega)⟩)
      clear hHeld hK K
      rename _=>hHeld
      try simp only[Act.put,List.setIfInBounds_toArray,List.set_cons_zero,List.set_cons_succ]
      refine tkx 15 ?_
      refine wpAnyH_done (by kernel_rfl) ?_ _
      obtain⟨h0,h1,h2,h3,h4,h5,h6,h7,h8,h9,h10,h11,h12,hr'',hE⟩:=hHeld
      refine then_abs (F:=fun X=>(X3 X nb aat (alv - acost*d) (ahd) (X.cell? ⟨nb,3,none⟩=some (.slice none 0 0)))∧S4 X (w.heap.size+1) at_ level held a 0 c (ResB X (w.heap.size+1+1+1)∧Below w.heap.size w X)) ⟨set4 _ _ _ _ i0 i1 i2 i3,h6,h7,h8,h9,hr'',hE⟩ ?_
      rintro X ⟨⟨x0,x1,x2,x3⟩,c6,c7,c8,c9,hR,hE⟩
      obtain⟨F0,F1,F2,F3,U0,U1,U2,U3,I0,I1,I2,I3⟩:=res_all hR
      clear hA hN hr' hB' hr'' i0 i1 i2 i3 f0 f1 f2 f3 u0 u1 u2 u3 hR h0 h1 h2 h3 h4 h5 h6 h7 h8 h9 h10 h11 h12
      cases g
      · repeat go_step
        (try simp only[Exit.inBlock,Exit.then])
        refine bodyPost_ret (results_state2 rfl _ _ (by rfl) (set4 _ _ _ _ I0 I1 I2 I3)) rfl ⟨by first|rfl|simp,bl4 hE (by omega)⟩
      · repeat go_step
        (try simp only[Exit.inBlock,Exit.then])
        refine bodyPost_ret (results_state2 rfl _ _ (by rfl) (set4 _ _ _ _ I0 I1 I2 I3)) rfl ⟨by first|rfl|simp,bl4 hE (by omega)⟩
  · have hlt:w.heap.size+1+1+1<W3.heap.size:=by(obtain⟨h0,h1,h2,h3,h4,h5,h6,h7,h8,h9,h10,h11,h12,hr',hB'⟩:=hHeld;exact res_lt hr')
    go_simp
    refine hK.out _ _ ?_ (fun hHeld'=>?_)
    · (try dsimp only)
      (obtain⟨h0,h1,h2,h3,h4,h5,h6,h7,h8,h9,h10,h11,h12,hr',hB'⟩:=hHeld;exact⟨bl_cell k1 h0,bl_cell k1 h1,bl_cell k1 h2,bl_cell k1 h3,bl_cell k1 h4,bl_cell k1 h5,bl_cell k1 h6,bl_cell k1 h7,bl_cell k1 h8,bl_cell k1 h9,bl_cell k1 h10,bl_cell k1 h11,bl_cell k1 h12,res_bl hr' k1,bl_alloc hB' _⟩)
    clear hHeld hK K
    rename _=>hHeld
    try simp only[Act.put,List.setIfInBounds_toArray,List.set_cons_zero,List.set_cons_succ]
    refine wpAnyH_abs (F:=fun X=>ActsAt X qr q1 q2∧ResB X W3.heap.size) hHeld ⟨acts_bl hA k1,res_new _ _ _ _ _ _ rfl⟩ (fun w4 hHeld hAN=>?_)
    clear hA
    obtain⟨hA,hN⟩:=hAN
    generalize W3.heap.size=nb at *
    refine callC (i:=6) rfl (fun K hK=>?_)
    go_simp
    refine(HAV.out _).mono ?_
    rintro e w5 ⟨rfl,hb⟩
    go_wp2_with fail
    refine hK.out _ _ ?_ (fun hHeld'=>?_)
    · (try dsimp only)
      (obtain⟨h0,h1,h2,h3,h4,h5,h6,h7,h8,h9,h10,h11,h12,hr',hB'⟩:=hHeld;exact⟨bl_cell hb h0,bl_cell hb h1,bl_cell hb h2,bl_cell hb h3,bl_cell hb h4,bl_cell hb h5,bl_cell hb h6,bl_cell hb h7,bl_cell hb h8,bl_cell hb h9,bl_cell hb h10,bl_cell hb h11,bl_cell hb h12,res_bl hr' hb,bl_then hB' hb⟩)
    clear hHeld hK K
    rename _=>hHeld
    replace hA:=acts_bl hA hb
    replace hN:=res_bl hN hb
    clear hb
    try simp only[Act.put,List.setIfInBounds_toArray,List.set_cons_zero,List.set_cons_succ]
    refine callC (i:=9) rfl (fun K hK=>?_)
    go_simp
    refine(HAC.out _).mono ?_
    rintro e w6 ⟨rfl,hb⟩
    go_wp2_with fail
    refine hK.out _ _ ?_ (fun hHeld'=>?_)
    · (try dsimp only)
      (obtain⟨h0,h1,h2,h3,h4,h5,h6,h7,h8,h9,h10,h11,h12,hr',hB'⟩:=hHeld;exact⟨bl_cell hb h0,bl_cell hb h1,bl_cell hb h2,bl_cell hb h3,bl_cell hb h4,bl_cell hb h5,bl_cell hb h6,bl_cell hb h7,bl_cell hb h8,bl_cell hb h9,bl_cell hb h10,bl_cell hb h11,bl_cell hb h12,res_bl hr' hb,bl_then hB' hb⟩)
    clear hHeld hK K
    rename _=>hHeld
    replace hA:=acts_bl hA hb
    replace hN:=res_bl hN hb
    clear hb
    try simp only[Act.put,List.setIfInBounds_toArray,List.set_cons_zero,List.set_cons_succ]
    refine tkx 10 ?_
    refine tkx 11 ?_
    refine tkx 12 ?_
    refine callC (i:=14) rfl (fun K hK=>?_)
    obtain⟨h0,h1,h2,h3,h4,h5,h6,h7,h8,h9,h10,h11,h12,hr',hB'⟩:=hHeld
    obtain⟨f0,f1,f2,f3,u0,u1,u2,u3,i0,i1,i2,i3⟩:=res_all hN
    clear hHeld
    have hHeld:True:=trivial
    go_simp
    refine hK.out _ _ ?_ (fun hHeld'=>?_)
    · (try dsimp only)
      (have e0:nb≠w.heap.size:=(by omega);have e1:nb≠w.heap.size+1:=(by omega);have e2:nb≠w.heap.size+1+1:=(by omega);exact⟨far4 h0 e0,far4 h1 e0,far4 h2 e0,far4 h3 e0,far4 h4 e0,far4 h5 e0,far4 h6 e1,far4 h7 e1,far4 h8 e1,far4 h9 e1,far4 h10 e2,far4 h11 e2,far4 h12 e2,res4 hr',bl4 hB' (by omega)⟩)
    clear hHeld hK K
    rename _=>hHeld
    try simp only[Act.put,List.setIfInBounds_toArray,List.set_cons_zero,List.set_cons_succ]
    refine tkx 15 ?_
    refine wpAnyH_done (by kernel_rfl) ?_ _
    obtain⟨h0,h1,h2,h3,h4,h5,h6,h7,h8,h9,h10,h11,h12,hr'',hE⟩:=hHeld
    refine then_abs (F:=fun X=>(X3 X nb aat (alv - acost*d) (ahd) (X.cell? ⟨nb,3,none⟩=some (.slice none 0 0)))∧S4 X (w.heap.size+1) at_ level held a 0 c (ResB X (w.heap.size+1+1+1)∧Below w.heap.size w X)) ⟨set4 _ _ _ _ i0 i1 i2 i3,h6,h7,h8,h9,hr'',hE⟩ ?_
    rintro X ⟨⟨x0,x1,x2,x3⟩,c6,c7,c8,c9,hR,hE⟩
    obtain⟨F0,F1,F2,F3,U0,U1,U2,U3,I0,I1,I2,I3⟩:=res_all hR
    clear hA hN hr' hB' hr'' i0 i1 i2 i3 f0 f1 f2 f3 u0 u1 u2 u3 hR h0 h1 h2 h3 h4 h5 h6 h7 h8 h9 h10 h11 h12
    cases g
    · repeat go_step
      (try simp only[Exit.inBlock,Exit.then])
      refine bodyPost_ret (results_state2 rfl _ _ (by rfl) (set4 _ _ _ _ I0 I1 I2 I3)) rfl ⟨by first|rfl|simp,bl4 hE (by omega)⟩
    · repeat go_step
      (try simp only[Exit.inBlock,Exit.then])
      refine bodyPost_ret (results_state2 rfl _ _ (by rfl) (set4 _ _ _ _ I0 I1 I2 I3)) rfl ⟨by first|rfl|simp,bl4 hE (by omega)⟩

theorem bdo_2 (p:Pol) (s:St) (a:Option Addr) (c:Nat) (anow acost:Int) (w:World) (h:rightB p s) (hc1:1≤acost) (hc2:acost≤p.burst) :
    Calls Tryz.prog 124 #[p.v,s.v a 0 c,.agg #[.int .i64 2,.int .i64 anow,.int .i64 acost]] w fun e w' =>
      e=.returned (.tuple #[if (actB p (advB p s anow) ⟨2,anow,acost⟩).2 then(actB p (advB p s anow) ⟨2,anow,acost⟩).1.v none 0 0 else s.v a 0 c,.bool (actB p (advB p s anow) ⟨2,anow,acost⟩).2])∧Below w.heap.size w w':=by
  have hlg:=h.2.2.2.2.2.2.2
  have hrt:=bright_any p s a 0 c (by rw[hlg];rfl)
  have hav:=badv_any p s a 0 c anow (by rw[hlg];rfl)
  rw[decide_eq_true h] at hrt
  have hok:=h.1
  have hlv:=advB_level p s anow h
  have hhd:=advB_held p s anow h
  have hr3:=h.2.2.2.1
  have hr4:=h.2.2.2.2.1
  generalize advB p s anow=A at *
  clear h
  obtain⟨k,l,d,b,cc,o⟩:=p
  obtain⟨at_,level,held,lg⟩:=s
  obtain⟨aat,alv,ahd,alg⟩:=A
  unfold actB
  unfold St.v Pol.v at *
  dsimp only at *
  simp only[show((1:Int)=1)=True from eq_true rfl,show((2:Int)=1)=False from eq_false (by decide),show((2:Int)=2)=True from eq_true rfl,show((3:Int)=1)=False from eq_false (by decide),show((3:Int)=2)=False from eq_false (by decide),show((3:Int)=3)=True from eq_true rfl,show((4:Int)=1)=False from eq_false (by decide),show((4:Int)=2)=False from eq_false (by decide),show((4:Int)=3)=False from eq_false (by decide),show((4:Int)=4)=True from eq_true rfl,if_true,if_false]
  obtain⟨z0,z1,z2,z3,z4,z5,z6,z7⟩:=hok
  dsimp only at *
  have hM:acost*d≤1152921504606846976:=prod_le (by omega) (by omega) (by omega)
  have hM0:0≤acost*d:=Int.mul_nonneg (by omega) (by omega)
  have hw1:IntKind.i64.wrap (acost*d)=acost*d:=IntWalk.i64_in _ (by omega)
  have hw2:IntKind.i64.wrap (alv - acost*d)=alv - acost*d:=IntWalk.i64_in _ (by omega)
  have hw0:IntKind.i64.wrap (ahd+acost)=ahd+acost:=IntWalk.i64_in _ (by omega)
  have HAC:=Go.Lib.hid (fun q w hq=>bhold_any k l d b cc o aat alv ahd acost none 0 0 q w hw0 hw1 hw2 hq)
  have HRT:=Go.Lib.hid hrt
  have HAV:=Go.Lib.hid hav
  have hb1:¬ acost<1:=by omega
  have hb2:¬ b<acost:=by omega
  clear hrt hav hlv hhd hM hM0 z0 z1 z2 z3 z4 z5 z6 z7 hr3 hr4 hc1 hc2  hw0  hw1  hw2
  obtain⟨g,hg⟩:∃ g,decide (0≤alv - acost*d)=g:=⟨_,rfl⟩
  rw[hg] at HAC ⊢
  go_enter Tryz.func124,Tryz.ntmps124
  go_wp2_with fail
  refine wp_abs (S0:=fun w'=>P6 w' (w.heap.size) k l d b cc o (S4 w' (w.heap.size+1) at_ level held a 0 c (X3 w' (w.heap.size+1+1) 2 anow acost (ResB w' (w.heap.size+1+1+1)∧Below w.heap.size w w')))) ⟨by go_simp,by go_simp,by go_simp,by go_simp,by go_simp,by go_simp,by go_simp,by go_simp,by go_simp,by go_simp,by go_simp,by go_simp,by go_simp,res_new _ _ _ _ _ _ (by simp),k4⟩ ?_
  rintro W ⟨c0,c1,c2,c3,c4,c5,c6,c7,c8,c9,c10,c11,c12,hR,hB⟩
  refine wp_region_held_drew (S:=fun w'=>P6 w' (w.heap.size) k l d b cc o (S4 w' (w.heap.size+1) at_ level held a 0 c (X3 w' (w.heap.size+1+1) 2 anow acost (ResB w' (w.heap.size+1+1+1)∧Below w.heap.size w w')))) (by kernel_rfl) ?_ (fun hHeld=>?_)
  · exact⟨c0,c1,c2,c3,c4,c5,c6,c7,c8,c9,c10,c11,c12,hR,bl_drew hB⟩
  try simp only[Act.put,List.setIfInBounds_toArray,List.set_cons_zero,List.set_cons_succ]
  refine tkx 1 ?_
  refine tkx 2 ?_
  (refine callC (i:=0) rfl (fun K hK=>?_);go_simp;refine(acts_any _).mono ?_;rintro e w1 ⟨rfl,hA,hb⟩;generalize W.drew.heap.size+1+1=qr at *;generalize W.drew.heap.size+1=q2 at *;generalize W.drew.heap.size=q1 at hA;go_wp2_with fail;refine hK.out _ _ ?_ (fun hHeld'=>?_);(focus((try dsimp only);(obtain⟨h0,h1,h2,h3,h4,h5,h6,h7,h8,h9,h10,h11,h12,hr',hB'⟩:=hHeld;exact⟨bl_cell hb h0,bl_cell hb h1,bl_cell hb h2,bl_cell hb h3,bl_cell hb h4,bl_cell hb h5,bl_cell hb h6,bl_cell hb h7,bl_cell hb h8,bl_cell hb h9,bl_cell hb h10,bl_cell hb h11,bl_cell hb h12,res_bl hr' hb,bl_then hB' hb⟩)));clear hHeld hK K;rename _=>hHeld;try simp only[Act.put,List.setIfInBounds_toArray,List.set_cons_zero,List.set_cons_succ])
  have hlk:=acts_look hA 2
  unfold actF at hlk
  simp at hlk
  (refine callC (i:=3) rfl (fun K hK=>?_);go_simp;refine hK.out _ _ ?_ (fun hHeld'=>?_);(focus((try dsimp only);exact hHeld));clear hHeld hK K;rename _=>hHeld;clear hlk;try simp only[Act.put,List.setIfInBounds_toArray,List.set_cons_zero,List.set_cons_succ])
  refine tkx 4 ?_
  refine tkx 5 ?_
  refine tkx 6 ?_
  refine tkx 7 ?_
  refine tkx 8 ?_
  refine wpAnyH_done (by kernel_rfl) ?_ _
  clear c0 hR hB
  obtain⟨c0,c1,c2,c3,c4,c5,c6,c7,c8,c9,c10,c11,c12,hR,hB⟩:=hHeld
  try clear hHeld
  go_wp2_with fail
  refine(HRT.out _).mono ?_
  rintro e w2 ⟨rfl,hb2⟩
  have d0:=bl_cell hb2 c0
  have d1:=bl_cell hb2 c1
  have d2:=bl_cell hb2 c2
  have d3:=bl_cell hb2 c3
  have d4:=bl_cell hb2 c4
  have d5:=bl_cell hb2 c5
  have d6:=bl_cell hb2 c6
  have d7:=bl_cell hb2 c7
  have d8:=bl_cell hb2 c8
  have d9:=bl_cell hb2 c9
  have d10:=bl_cell hb2 c10
  have d11:=bl_cell hb2 c11
  have d12:=bl_cell hb2 c12
  have dR:=res_bl hR hb2
  have dB:=bl_then hB hb2
  have dA:=acts_bl hA hb2
  clear hR hB hA hb2 c0 c1 c2 c3 c4 c5 c6 c7 c8 c9 c10 c11 c12
  go_wp2_with fail
  refine wp_region_held_drew (S:=fun w'=>P6 w' (w.heap.size) k l d b cc o (S4 w' (w.heap.size+1) at_ level held a 0 c (X3 w' (w.heap.size+1+1) 2 anow acost (ResB w' (w.heap.size+1+1+1)∧Below w.heap.size w w')))) (by kernel_rfl) ?_ (fun hHeld=>?_)
  · exact⟨d0,d1,d2,d3,d4,d5,d6,d7,d8,d9,d10,d11,d12,dR,bl_drew dB⟩
  try simp only[Act.put,List.setIfInBounds_toArray,List.set_cons_zero,List.set_cons_succ]
  refine wpAnyH_abs (F:=fun W=>ActsAt W qr q1 q2) hHeld dA (fun W3 hHeld hA=>?_)
  clear dA dR dB d0 d1 d2 d3 d4 d5 d6 d7 d8 d9 d10 d11 d12
  refine tkx 0 ?_
  refine tkx 1 ?_
  refine tkx 2 ?_
  refine tkx 3 ?_
  refine tkx 4 ?_
  refine tkx 5 ?_
  refine tkx 7 ?_
  refine tkx 8 ?_
  refine callC2 (i:=6) (j:=13) rfl rfl (fun K hK=>?_) (fun K hK=>?_)
  · go_simp
    refine(HAV.out _).mono ?_
    rintro e w4 ⟨rfl,hb⟩
    go_wp2_with fail
    refine hK.out _ _ ?_ (fun hHeld'=>?_)
    · (try dsimp only)
      (obtain⟨h0,h1,h2,h3,h4,h5,h6,h7,h8,h9,h10,h11,h12,hr',hB'⟩:=hHeld;exact⟨bl_cell hb h0,bl_cell hb h1,bl_cell hb h2,bl_cell hb h3,bl_cell hb h4,bl_cell hb h5,bl_cell hb h6,bl_cell hb h7,bl_cell hb h8,bl_cell hb h9,bl_cell hb h10,bl_cell hb h11,bl_cell hb h12,res_bl hr' hb,bl_then hB' hb⟩)
    clear hHeld hK K
    rename _=>hHeld
    replace hA:=acts_bl hA hb
    clear hb
    try simp only[Act.put,List.setIfInBounds_toArray,List.set_cons_zero,List.set_cons_succ]
    refine callC2 (i:=9) (j:=13) rfl rfl (fun K hK=>?_) (fun K hK=>?_)
    · go_simp
      refine(HAC.out _ _ hA.1).mono ?_
      rintro e w5 ⟨rfl,hb⟩
      go_wp2_with fail
      refine hK.out _ _ ?_ (fun hHeld'=>?_)
      · (try dsimp only)
        (obtain⟨h0,h1,h2,h3,h4,h5,h6,h7,h8,h9,h10,h11,h12,hr',hB'⟩:=hHeld;exact⟨bl_cell hb h0,bl_cell hb h1,bl_cell hb h2,bl_cell hb h3,bl_cell hb h4,bl_cell hb h5,bl_cell hb h6,bl_cell hb h7,bl_cell hb h8,bl_cell hb h9,bl_cell hb h10,bl_cell hb h11,bl_cell hb h12,res_bl hr' hb,bl_then hB' hb⟩)
      clear hHeld hK K
      rename _=>hHeld
      replace hA:=acts_bl hA hb
      clear hb
      try simp only[Act.put,List.setIfInBounds_toArray,List.set_cons_zero,List.set_cons_succ]
      refine tkx 10 ?_
      refine tkx 11 ?_
      refine tkx 12 ?_
      refine callC (i:=13) rfl (fun K hK=>?_)
      have hlt:w.heap.size+1+1+1<w5.heap.size:=by(obtain⟨h0,h1,h2,h3,h4,h5,h6,h7,h8,h9,h10,h11,h12,hr',hB'⟩:=hHeld;exact res_lt hr')
      go_simp
      refine hK.out _ _ ?_ (fun hHeld'=>?_)
      · (try dsimp only)
        (obtain⟨h0,h1,h2,h3,h4,h5,h6,h7,h8,h9,h10,h11,h12,hr',hB'⟩:=hHeld;exact⟨bl_cell k1 h0,bl_cell k1 h1,bl_cell k1 h2,bl_cell k1 h3,bl_cell k1 h4,bl_cell k1 h5,bl_cell k1 h6,bl_cell k1 h7,bl_cell k1 h8,bl_cell k1 h9,bl_cell k1 h10,bl_cell k1 h11,bl_cell k1 h12,res_bl hr' k1,bl_alloc hB' _⟩)
      clear hHeld hK K
      rename _=>hHeld
      try simp only[Act.put,List.setIfInBounds_toArray,List.set_cons_zero,List.set_cons_succ]
      refine wpAnyH_abs (F:=fun X=>ActsAt X qr q1 q2∧ResB X w5.heap.size) hHeld ⟨acts_bl hA k1,res_new _ _ _ _ _ _ rfl⟩ (fun w6 hHeld hAN=>?_)
      clear hA
      obtain⟨hA,hN⟩:=hAN
      generalize w5.heap.size=nb at *
      refine callC (i:=14) rfl (fun K hK=>?_)
      obtain⟨h0,h1,h2,h3,h4,h5,h6,h7,h8,h9,h10,h11,h12,hr',hB'⟩:=hHeld
      obtain⟨f0,f1,f2,f3,u0,u1,u2,u3,i0,i1,i2,i3⟩:=res_all hN
      clear hHeld
      have hHeld:True:=trivial
      go_simp
      refine hK.out _ _ ?_ (fun hHeld'=>?_)
      · (try dsimp only)
        (have e0:nb≠w.heap.size:=(by omega);have e1:nb≠w.heap.size+1:=(by omega);have e2:nb≠w.heap.size+1+1:=(by omega);exact⟨far4 h0 e0,far4 h1 e0,far4 h2 e0,far4 h3 e0,far4 h4 e0,far4 h5 e0,far4 h6 e1,far4 h7 e1,far4 h8 e1,far4 h9 e1,far4 h10 e2,far4 h11 e2,far4 h12 e2,res4 hr',bl4 hB' (by omega)⟩)
      clear hHeld hK K
      rename _=>hHeld
      try simp only[Act.put,List.setIfInBounds_toArray,List.set_cons_zero,List.set_cons_succ]
      refine tkx 15 ?_
      refine wpAnyH_done (by kernel_rfl) ?_ _
      obtain⟨h0,h1,h2,h3,h4,h5,h6,h7,h8,h9,h10,h11,h12,hr'',hE⟩:=hHeld
      refine then_abs (F:=fun X=>(X3 X nb aat (alv - acost*d) (ahd+acost) (X.cell? ⟨nb,3,none⟩=some (.slice none 0 0)))∧S4 X (w.heap.size+1) at_ level held a 0 c (ResB X (w.heap.size+1+1+1)∧Below w.heap.size w X)) ⟨set4 _ _ _ _ i0 i1 i2 i3,h6,h7,h8,h9,hr'',hE⟩ ?_
      rintro X ⟨⟨x0,x1,x2,x3⟩,c6,c7,c8,c9,hR,hE⟩
      obtain⟨F0,F1,F2,F3,U0,U1,U2,U3,I0,I1,I2,I3⟩:=res_all hR
      clear hA hN hr' hB' hr'' i0 i1 i2 i3 f0 f1 f2 f3 u0 u1 u2 u3 hR h0 h1 h2 h3 h4 h5 h6 h7 h8 h9 h10 h11 h12
      cases g
      · repeat go_step
        (try simp only[Exit.inBlock,Exit.then])
        refine bodyPost_ret (results_state2 rfl _ _ (by rfl) (set4 _ _ _ _ I0 I1 I2 I3)) rfl ⟨by first|rfl|simp,bl4 hE (by omega)⟩
      · repeat go_step
        (try simp only[Exit.inBlock,Exit.then])
        refine bodyPost_ret (results_state2 rfl _ _ (by rfl) (set4 _ _ _ _ I0 I1 I2 I3)) rfl ⟨by first|rfl|simp,bl4 hE (by omega)⟩
    · have hlt:w.heap.size+1+1+1<w4.heap.size:=by(obtain⟨h0,h1,h2,h3,h4,h5,h6,h7,h8,h9,h10,h11,h12,hr',hB'⟩:=hHeld;exact res_lt hr')
      go_simp
      refine hK.out _ _ ?_ (fun hHeld'=>?_)
      · (try dsimp only)
        (obtain⟨h0,h1,h2,h3,h4,h5,h6,h7,h8,h9,h10,h11,h12,hr',hB'⟩:=hHeld;exact⟨bl_cell k1 h0,bl_cell k1 h1,bl_cell k1 h2,bl_cell k1 h3,bl_cell k1 h4,bl_cell k1 h5,bl_cell k1 h6,bl_cell k1 h7,bl_cell k1 h8,bl_cell k1 h9,bl_cell k1 h10,bl_cell k1 h11,bl_cell k1 h12,res_bl hr' k1,bl_alloc hB' _⟩)
      clear hHeld hK K
      rename _=>hHeld
      try simp only[Act.put,List.setIfInBounds_toArray,List.set_cons_zero,List.set_cons_succ]
      refine wpAnyH_abs (F:=fun X=>ActsAt X qr q1 q2∧ResB X w4.heap.size) hHeld ⟨acts_bl hA k1,res_new _ _ _ _ _ _ rfl⟩ (fun w5 hHeld hAN=>?_)
      clear hA
      obtain⟨hA,hN⟩:=hAN
      generalize w4.heap.size=nb at *
      refine callC (i:=9) rfl (fun K hK=>?_)
      go_simp
      refine(HAC.out _ _ hA.1).mono ?_
      rintro e w6 ⟨rfl,hb⟩
      go_wp2_with fail
      refine hK.out _ _ ?_ (fun hHeld'=>?_)
      · (try dsimp only)
        (obtain⟨h0,h1,h2,h3,h4,h5,h6,h7,h8,h9,h10,h11,h12,hr',hB'⟩:=hHeld;exact⟨bl_cell hb h0,bl_cell hb h1,bl_cell hb h2,bl_cell hb h3,bl_cell hb h4,bl_cell hb h5,bl_cell hb h6,bl_cell hb h7,bl_cell hb h8,bl_cell hb h9,bl_cell hb h10,bl_cell hb h11,bl_cell hb h12,res_bl hr' hb,bl_then hB' hb⟩)
      clear hHeld hK K
      rename _=>hHeld
      replace hA:=acts_bl hA hb
      replace hN:=res_bl hN hb
      clear hb
      try simp only[Act.put,List.setIfInBounds_toArray,List.set_cons_zero,List.set_cons_succ]
      refine tkx 10 ?_
      refine tkx 11 ?_
      refine tkx 12 ?_
      refine callC (i:=14) rfl (fun K hK=>?_)
      obtain⟨h0,h1,h2,h3,h4,h5,h6,h7,h8,h9,h10,h11,h12,hr',hB'⟩:=hHeld
      obtain⟨f0,f1,f2,f3,u0,u1,u2,u3,i0,i1,i2,i3⟩:=res_all hN
      clear hHeld
      have hHeld:True:=trivial
      go_simp
      refine hK.out _ _ ?_ (fun hHeld'=>?_)
      · (try dsimp only)
        (have e0:nb≠w.heap.size:=(by omega);have e1:nb≠w.heap.size+1:=(by omega);have e2:nb≠w.heap.size+1+1:=(by omega);exact⟨far4 h0 e0,far4 h1 e0,far4 h2 e0,far4 h3 e0,far4 h4 e0,far4 h5 e0,far4 h6 e1,far4 h7 e1,far4 h8 e1,far4 h9 e1,far4 h10 e2,far4 h11 e2,far4 h12 e2,res4 hr',bl4 hB' (by omega)⟩)
      clear hHeld hK K
      rename _=>hHeld
      try simp only[Act.put,List.setIfInBounds_toArray,List.set_cons_zero,List.set_cons_succ]
      refine tkx 15 ?_
      refine wpAnyH_done (by kernel_rfl) ?_ _
      obtain⟨h0,h1,h2,h3,h4,h5,h6,h7,h8,h9,h10,h11,h12,hr'',hE⟩:=hHeld
      refine then_abs (F:=fun X=>(X3 X nb aat (alv - acost*d) (ahd+acost) (X.cell? ⟨nb,3,none⟩=some (.slice none 0 0)))∧S4 X (w.heap.size+1) at_ level held a 0 c (ResB X (w.heap.size+1+1+1)∧Below w.heap.size w X)) ⟨set4 _ _ _ _ i0 i1 i2 i3,h6,h7,h8,h9,hr'',hE⟩ ?_
      rintro X ⟨⟨x0,x1,x2,x3⟩,c6,c7,c8,c9,hR,hE⟩
      obtain⟨F0,F1,F2,F3,U0,U1,U2,U3,I0,I1,I2,I3⟩:=res_all hR
      clear hA hN hr' hB' hr'' i0 i1 i2 i3 f0 f1 f2 f3 u0 u1 u2 u3 hR h0 h1 h2 h3 h4 h5 h6 h7 h8 h9 h10 h11 h12
      cases g
      · repeat go_step
        (try simp only[Exit.inBlock,Exit.then])
        refine bodyPost_ret (results_state2 rfl _ _ (by rfl) (set4 _ _ _ _ I0 I1 I2 I3)) rfl ⟨by first|rfl|simp,bl4 hE (by omega)⟩
      · repeat go_step
        (try simp only[Exit.inBlock,Exit.then])
        refine bodyPost_ret (results_state2 rfl _ _ (by rfl) (set4 _ _ _ _ I0 I1 I2 I3)) rfl ⟨by first|rfl|simp,bl4 hE (by omega)⟩
  · have hlt:w.heap.size+1+1+1<W3.heap.size:=by(obtain⟨h0,h1,h2,h3,h4,h5,h6,h7,h8,h9,h10,h11,h12,hr',hB'⟩:=hHeld;exact res_lt hr')
    go_simp
    refine hK.out _ _ ?_ (fun hHeld'=>?_)
    · (try dsimp only)
      (obtain⟨h0,h1,h2,h3,h4,h5,h6,h7,h8,h9,h10,h11,h12,hr',hB'⟩:=hHeld;exact⟨bl_cell k1 h0,bl_cell k1 h1,bl_cell k1 h2,bl_cell k1 h3,bl_cell k1 h4,bl_cell k1 h5,bl_cell k1 h6,bl_cell k1 h7,bl_cell k1 h8,bl_cell k1 h9,bl_cell k1 h10,bl_cell k1 h11,bl_cell k1 h12,res_bl hr' k1,bl_alloc hB' _⟩)
    clear hHeld hK K
    rename _=>hHeld
    try simp only[Act.put,List.setIfInBounds_toArray,List.set_cons_zero,List.set_cons_succ]
    refine wpAnyH_abs (F:=fun X=>ActsAt X qr q1 q2∧ResB X W3.heap.size) hHeld ⟨acts_bl hA k1,res_new _ _ _ _ _ _ rfl⟩ (fun w4 hHeld hAN=>?_)
    clear hA
    obtain⟨hA,hN⟩:=hAN
    generalize W3.heap.size=nb at *
    refine callC (i:=6) rfl (fun K hK=>?_)
    go_simp
    refine(HAV.out _).mono ?_
    rintro e w5 ⟨rfl,hb⟩
    go_wp2_with fail
    refine hK.out _ _ ?_ (fun hHeld'=>?_)
    · (try dsimp only)
      (obtain⟨h0,h1,h2,h3,h4,h5,h6,h7,h8,h9,h10,h11,h12,hr',hB'⟩:=hHeld;exact⟨bl_cell hb h0,bl_cell hb h1,bl_cell hb h2,bl_cell hb h3,bl_cell hb h4,bl_cell hb h5,bl_cell hb h6,bl_cell hb h7,bl_cell hb h8,bl_cell hb h9,bl_cell hb h10,bl_cell hb h11,bl_cell hb h12,res_bl hr' hb,bl_then hB' hb⟩)
    clear hHeld hK K
    rename _=>hHeld
    replace hA:=acts_bl hA hb
    replace hN:=res_bl hN hb
    clear hb
    try simp only[Act.put,List.setIfInBounds_toArray,List.set_cons_zero,List.set_cons_succ]
    refine callC (i:=9) rfl (fun K hK=>?_)
    go_simp
    refine(HAC.out _ _ hA.1).mono ?_
    rintro e w6 ⟨rfl,hb⟩
    go_wp2_with fail
    refine hK.out _ _ ?_ (fun hHeld'=>?_)
    · (try dsimp only)
      (obtain⟨h0,h1,h2,h3,h4,h5,h6,h7,h8,h9,h10,h11,h12,hr',hB'⟩:=hHeld;exact⟨bl_cell hb h0,bl_cell hb h1,bl_cell hb h2,bl_cell hb h3,bl_cell hb h4,bl_cell hb h5,bl_cell hb h6,bl_cell hb h7,bl_cell hb h8,bl_cell hb h9,bl_cell hb h10,bl_cell hb h11,bl_cell hb h12,res_bl hr' hb,bl_then hB' hb⟩)
    clear hHeld hK K
    rename _=>hHeld
    replace hA:=acts_bl hA hb
    replace hN:=res_bl hN hb
    clear hb
    try simp only[Act.put,List.setIfInBounds_toArray,List.set_cons_zero,List.set_cons_succ]
    refine tkx 10 ?_
    refine tkx 11 ?_
    refine tkx 12 ?_
    refine callC (i:=14) rfl (fun K hK=>?_)
    obtain⟨h0,h1,h2,h3,h4,h5,h6,h7,h8,h9,h10,h11,h12,hr',hB'⟩:=hHeld
    obtain⟨f0,f1,f2,f3,u0,u1,u2,u3,i0,i1,i2,i3⟩:=res_all hN
    clear hHeld
    have hHeld:True:=trivial
    go_simp
    refine hK.out _ _ ?_ (fun hHeld'=>?_)
    · (try dsimp only)
      (have e0:nb≠w.heap.size:=(by omega);have e1:nb≠w.heap.size+1:=(by omega);have e2:nb≠w.heap.size+1+1:=(by omega);exact⟨far4 h0 e0,far4 h1 e0,far4 h2 e0,far4 h3 e0,far4 h4 e0,far4 h5 e0,far4 h6 e1,far4 h7 e1,far4 h8 e1,far4 h9 e1,far4 h10 e2,far4 h11 e2,far4 h12 e2,res4 hr',bl4 hB' (by omega)⟩)
    clear hHeld hK K
    rename _=>hHeld
    try simp only[Act.put,List.setIfInBounds_toArray,List.set_cons_zero,List.set_cons_succ]
    refine tkx 15 ?_
    refine wpAnyH_done (by kernel_rfl) ?_ _
    obtain⟨h0,h1,h2,h3,h4,h5,h6,h7,h8,h9,h10,h11,h12,hr'',hE⟩:=hHeld
    refine then_abs (F:=fun X=>(X3 X nb aat (alv - acost*d) (ahd+acost) (X.cell? ⟨nb,3,none⟩=some (.slice none 0 0)))∧S4 X (w.heap.size+1) at_ level held a 0 c (ResB X (w.heap.size+1+1+1)∧Below w.heap.size w X)) ⟨set4 _ _ _ _ i0 i1 i2 i3,h6,h7,h8,h9,hr'',hE⟩ ?_
    rintro X ⟨⟨x0,x1,x2,x3⟩,c6,c7,c8,c9,hR,hE⟩
    obtain⟨F0,F1,F2,F3,U0,U1,U2,U3,I0,I1,I2,I3⟩:=res_all hR
    clear hA hN hr' hB' hr'' i0 i1 i2 i3 f0 f1 f2 f3 u0 u1 u2 u3 hR h0 h1 h2 h3 h4 h5 h6 h7 h8 h9 h10 h11 h12
    cases g
    · repeat go_step
      (try simp only[Exit.inBlock,Exit.then])
      refine bodyPost_ret (results_state2 rfl _ _ (by rfl) (set4 _ _ _ _ I0 I1 I2 I3)) rfl ⟨by first|rfl|simp,bl4 hE (by omega)⟩
    · repeat go_step
      (try simp only[Exit.inBlock,Exit.then])
      refine bodyPost_ret (results_state2 rfl _ _ (by rfl) (set4 _ _ _ _ I0 I1 I2 I3)) rfl ⟨by first|rfl|simp,bl4 hE (by omega)⟩

theorem bdo_3 (p:Pol) (s:St) (a:Option Addr) (c:Nat) (anow acost:Int) (w:World) (h:rightB p s) (hc1:1≤acost) (hc2:acost≤p.burst) :
    Calls Tryz.prog 124 #[p.v,s.v a 0 c,.agg #[.int .i64 3,.int .i64 anow,.int .i64 acost]] w fun e w' =>
      e=.returned (.tuple #[if (actB p (advB p s anow) ⟨3,anow,acost⟩).2 then(actB p (advB p s anow) ⟨3,anow,acost⟩).1.v none 0 0 else s.v a 0 c,.bool (actB p (advB p s anow) ⟨3,anow,acost⟩).2])∧Below w.heap.size w w':=by
  have hlg:=h.2.2.2.2.2.2.2
  have hrt:=bright_any p s a 0 c (by rw[hlg];rfl)
  have hav:=badv_any p s a 0 c anow (by rw[hlg];rfl)
  rw[decide_eq_true h] at hrt
  have hok:=h.1
  have hlv:=advB_level p s anow h
  have hhd:=advB_held p s anow h
  have hr3:=h.2.2.2.1
  have hr4:=h.2.2.2.2.1
  generalize advB p s anow=A at *
  clear h
  obtain⟨k,l,d,b,cc,o⟩:=p
  obtain⟨at_,level,held,lg⟩:=s
  obtain⟨aat,alv,ahd,alg⟩:=A
  unfold actB
  unfold St.v Pol.v at *
  dsimp only at *
  simp only[show((1:Int)=1)=True from eq_true rfl,show((2:Int)=1)=False from eq_false (by decide),show((2:Int)=2)=True from eq_true rfl,show((3:Int)=1)=False from eq_false (by decide),show((3:Int)=2)=False from eq_false (by decide),show((3:Int)=3)=True from eq_true rfl,show((4:Int)=1)=False from eq_false (by decide),show((4:Int)=2)=False from eq_false (by decide),show((4:Int)=3)=False from eq_false (by decide),show((4:Int)=4)=True from eq_true rfl,if_true,if_false]
  obtain⟨z0,z1,z2,z3,z4,z5,z6,z7⟩:=hok
  dsimp only at *
  have hM:acost*d≤1152921504606846976:=prod_le (by omega) (by omega) (by omega)
  have hM0:0≤acost*d:=Int.mul_nonneg (by omega) (by omega)
  have hw1:IntKind.i64.wrap (acost*d)=acost*d:=IntWalk.i64_in _ (by omega)
  have hw0:IntKind.i64.wrap (alv+acost*d)=alv+acost*d:=IntWalk.i64_in _ (by omega)
  have hw2:IntKind.i64.wrap (ahd - acost)=ahd - acost:=IntWalk.i64_in _ (by omega)
  have HAC:=Go.Lib.hid (fun q w hq=>brelease_any k l d b cc o aat alv ahd acost none 0 0 q w hw0 hw1 hw2 hq)
  have HRT:=Go.Lib.hid hrt
  have HAV:=Go.Lib.hid hav
  have hb1:¬ acost<1:=by omega
  have hb2:¬ b<acost:=by omega
  clear hrt hav hlv hhd hM hM0 z0 z1 z2 z3 z4 z5 z6 z7 hr3 hr4 hc1 hc2  hw0  hw1  hw2
  obtain⟨g,hg⟩:∃ g,decide (0≤ahd - acost)=g:=⟨_,rfl⟩
  rw[hg] at HAC ⊢
  go_enter Tryz.func124,Tryz.ntmps124
  go_wp2_with fail
  refine wp_abs (S0:=fun w'=>P6 w' (w.heap.size) k l d b cc o (S4 w' (w.heap.size+1) at_ level held a 0 c (X3 w' (w.heap.size+1+1) 3 anow acost (ResB w' (w.heap.size+1+1+1)∧Below w.heap.size w w')))) ⟨by go_simp,by go_simp,by go_simp,by go_simp,by go_simp,by go_simp,by go_simp,by go_simp,by go_simp,by go_simp,by go_simp,by go_simp,by go_simp,res_new _ _ _ _ _ _ (by simp),k4⟩ ?_
  rintro W ⟨c0,c1,c2,c3,c4,c5,c6,c7,c8,c9,c10,c11,c12,hR,hB⟩
  refine wp_region_held_drew (S:=fun w'=>P6 w' (w.heap.size) k l d b cc o (S4 w' (w.heap.size+1) at_ level held a 0 c (X3 w' (w.heap.size+1+1) 3 anow acost (ResB w' (w.heap.size+1+1+1)∧Below w.heap.size w w')))) (by kernel_rfl) ?_ (fun hHeld=>?_)
  · exact⟨c0,c1,c2,c3,c4,c5,c6,c7,c8,c9,c10,c11,c12,hR,bl_drew hB⟩
  try simp only[Act.put,List.setIfInBounds_toArray,List.set_cons_zero,List.set_cons_succ]
  refine tkx 1 ?_
  refine tkx 2 ?_
  (refine callC (i:=0) rfl (fun K hK=>?_);go_simp;refine(acts_any _).mono ?_;rintro e w1 ⟨rfl,hA,hb⟩;generalize W.drew.heap.size+1+1=qr at *;generalize W.drew.heap.size+1=q2 at *;generalize W.drew.heap.size=q1 at hA;go_wp2_with fail;refine hK.out _ _ ?_ (fun hHeld'=>?_);(focus((try dsimp only);(obtain⟨h0,h1,h2,h3,h4,h5,h6,h7,h8,h9,h10,h11,h12,hr',hB'⟩:=hHeld;exact⟨bl_cell hb h0,bl_cell hb h1,bl_cell hb h2,bl_cell hb h3,bl_cell hb h4,bl_cell hb h5,bl_cell hb h6,bl_cell hb h7,bl_cell hb h8,bl_cell hb h9,bl_cell hb h10,bl_cell hb h11,bl_cell hb h12,res_bl hr' hb,bl_then hB' hb⟩)));clear hHeld hK K;rename _=>hHeld;try simp only[Act.put,List.setIfInBounds_toArray,List.set_cons_zero,List.set_cons_succ])
  have hlk:=acts_look hA 3
  unfold actF at hlk
  simp at hlk
  (refine callC (i:=3) rfl (fun K hK=>?_);go_simp;refine hK.out _ _ ?_ (fun hHeld'=>?_);(focus((try dsimp only);exact hHeld));clear hHeld hK K;rename _=>hHeld;clear hlk;try simp only[Act.put,List.setIfInBounds_toArray,List.set_cons_zero,List.set_cons_succ])
  refine tkx 4 ?_
  refine tkx 5 ?_
  refine tkx 6 ?_
  refine tkx 7 ?_
  refine tkx 8 ?_
  refine wpAnyH_done (by kernel_rfl) ?_ _
  clear c0 hR hB
  obtain⟨c0,c1,c2,c3,c4,c5,c6,c7,c8,c9,c10,c11,c12,hR,hB⟩:=hHeld
  try clear hHeld
  go_wp2_with fail
  refine(HRT.out _).mono ?_
  rintro e w2 ⟨rfl,hb2⟩
  have d0:=bl_cell hb2 c0
  have d1:=bl_cell hb2 c1
  have d2:=bl_cell hb2 c2
  have d3:=bl_cell hb2 c3
  have d4:=bl_cell hb2 c4
  have d5:=bl_cell hb2 c5
  have d6:=bl_cell hb2 c6
  have d7:=bl_cell hb2 c7
  have d8:=bl_cell hb2 c8
  have d9:=bl_cell hb2 c9
  have d10:=bl_cell hb2 c10
  have d11:=bl_cell hb2 c11
  have d12:=bl_cell hb2 c12
  have dR:=res_bl hR hb2
  have dB:=bl_then hB hb2
  have dA:=acts_bl hA hb2
  clear hR hB hA hb2 c0 c1 c2 c3 c4 c5 c6 c7 c8 c9 c10 c11 c12
  go_wp2_with fail
  refine wp_region_held_drew (S:=fun w'=>P6 w' (w.heap.size) k l d b cc o (S4 w' (w.heap.size+1) at_ level held a 0 c (X3 w' (w.heap.size+1+1) 3 anow acost (ResB w' (w.heap.size+1+1+1)∧Below w.heap.size w w')))) (by kernel_rfl) ?_ (fun hHeld=>?_)
  · exact⟨d0,d1,d2,d3,d4,d5,d6,d7,d8,d9,d10,d11,d12,dR,bl_drew dB⟩
  try simp only[Act.put,List.setIfInBounds_toArray,List.set_cons_zero,List.set_cons_succ]
  refine wpAnyH_abs (F:=fun W=>ActsAt W qr q1 q2) hHeld dA (fun W3 hHeld hA=>?_)
  clear dA dR dB d0 d1 d2 d3 d4 d5 d6 d7 d8 d9 d10 d11 d12
  refine tkx 0 ?_
  refine tkx 1 ?_
  refine tkx 2 ?_
  refine tkx 3 ?_
  refine tkx 4 ?_
  refine tkx 5 ?_
  refine tkx 7 ?_
  refine tkx 8 ?_
  refine callC2 (i:=6) (j:=13) rfl rfl (fun K hK=>?_) (fun K hK=>?_)
  · go_simp
    refine(HAV.out _).mono ?_
    rintro e w4 ⟨rfl,hb⟩
    go_wp2_with fail
    refine hK.out _ _ ?_ (fun hHeld'=>?_)
    · (try dsimp only)
      (obtain⟨h0,h1,h2,h3,h4,h5,h6,h7,h8,h9,h10,h11,h12,hr',hB'⟩:=hHeld;exact⟨bl_cell hb h0,bl_cell hb h1,bl_cell hb h2,bl_cell hb h3,bl_cell hb h4,bl_cell hb h5,bl_cell hb h6,bl_cell hb h7,bl_cell hb h8,bl_cell hb h9,bl_cell hb h10,bl_cell hb h11,bl_cell hb h12,res_bl hr' hb,bl_then hB' hb⟩)
    clear hHeld hK K
    rename _=>hHeld
    replace hA:=acts_bl hA hb
    clear hb
    try simp only[Act.put,List.setIfInBounds_toArray,List.set_cons_zero,List.set_cons_succ]
    refine callC2 (i:=9) (j:=13) rfl rfl (fun K hK=>?_) (fun K hK=>?_)
    · go_simp
      refine(HAC.out _ _ hA.2.1).mono ?_
      rintro e w5 ⟨rfl,hb⟩
      go_wp2_with fail
      refine hK.out _ _ ?_ (fun hHeld'=>?_)
      · (try dsimp only)
        (obtain⟨h0,h1,h2,h3,h4,h5,h6,h7,h8,h9,h10,h11,h12,hr',hB'⟩:=hHeld;exact⟨bl_cell hb h0,bl_cell hb h1,bl_cell hb h2,bl_cell hb h3,bl_cell hb h4,bl_cell hb h5,bl_cell hb h6,bl_cell hb h7,bl_cell hb h8,bl_cell hb h9,bl_cell hb h10,bl_cell hb h11,bl_cell hb h12,res_bl hr' hb,bl_then hB' hb⟩)
      clear hHeld hK K
      rename _=>hHeld
      replace hA:=acts_bl hA hb
      clear hb
      try simp only[Act.put,List.setIfInBounds_toArray,List.set_cons_zero,List.set_cons_succ]
      refine tkx 10 ?_
      refine tkx 11 ?_
      refine tkx 12 ?_
      refine callC (i:=13) rfl (fun K hK=>?_)
      have hlt:w.heap.size+1+1+1<w5.heap.size:=by(obtain⟨h0,h1,h2,h3,h4,h5,h6,h7,h8,h9,h10,h11,h12,hr',hB'⟩:=hHeld;exact res_lt hr')
      go_simp
      refine hK.out _ _ ?_ (fun hHeld'=>?_)
      · (try dsimp only)
        (obtain⟨h0,h1,h2,h3,h4,h5,h6,h7,h8,h9,h10,h11,h12,hr',hB'⟩:=hHeld;exact⟨bl_cell k1 h0,bl_cell k1 h1,bl_cell k1 h2,bl_cell k1 h3,bl_cell k1 h4,bl_cell k1 h5,bl_cell k1 h6,bl_cell k1 h7,bl_cell k1 h8,bl_cell k1 h9,bl_cell k1 h10,bl_cell k1 h11,bl_cell k1 h12,res_bl hr' k1,bl_alloc hB' _⟩)
      clear hHeld hK K
      rename _=>hHeld
      try simp only[Act.put,List.setIfInBounds_toArray,List.set_cons_zero,List.set_cons_succ]
      refine wpAnyH_abs (F:=fun X=>ActsAt X qr q1 q2∧ResB X w5.heap.size) hHeld ⟨acts_bl hA k1,res_new _ _ _ _ _ _ rfl⟩ (fun w6 hHeld hAN=>?_)
      clear hA
      obtain⟨hA,hN⟩:=hAN
      generalize w5.heap.size=nb at *
      refine callC (i:=14) rfl (fun K hK=>?_)
      obtain⟨h0,h1,h2,h3,h4,h5,h6,h7,h8,h9,h10,h11,h12,hr',hB'⟩:=hHeld
      obtain⟨f0,f1,f2,f3,u0,u1,u2,u3,i0,i1,i2,i3⟩:=res_all hN
      clear hHeld
      have hHeld:True:=trivial
      go_simp
      refine hK.out _ _ ?_ (fun hHeld'=>?_)
      · (try dsimp only)
        (have e0:nb≠w.heap.size:=(by omega);have e1:nb≠w.heap.size+1:=(by omega);have e2:nb≠w.heap.size+1+1:=(by omega);exact⟨far4 h0 e0,far4 h1 e0,far4 h2 e0,far4 h3 e0,far4 h4 e0,far4 h5 e0,far4 h6 e1,far4 h7 e1,far4 h8 e1,far4 h9 e1,far4 h10 e2,far4 h11 e2,far4 h12 e2,res4 hr',bl4 hB' (by omega)⟩)
      clear hHeld hK K
      rename _=>hHeld
      try simp only[Act.put,List.setIfInBounds_toArray,List.set_cons_zero,List.set_cons_succ]
      refine tkx 15 ?_
      refine wpAnyH_done (by kernel_rfl) ?_ _
      obtain⟨h0,h1,h2,h3,h4,h5,h6,h7,h8,h9,h10,h11,h12,hr'',hE⟩:=hHeld
      refine then_abs (F:=fun X=>(X3 X nb aat (alv+acost*d) (ahd - acost) (X.cell? ⟨nb,3,none⟩=some (.slice none 0 0)))∧S4 X (w.heap.size+1) at_ level held a 0 c (ResB X (w.heap.size+1+1+1)∧Below w.heap.size w X)) ⟨set4 _ _ _ _ i0 i1 i2 i3,h6,h7,h8,h9,hr'',hE⟩ ?_
      rintro X ⟨⟨x0,x1,x2,x3⟩,c6,c7,c8,c9,hR,hE⟩
      obtain⟨F0,F1,F2,F3,U0,U1,U2,U3,I0,I1,I2,I3⟩:=res_all hR
      clear hA hN hr' hB' hr'' i0 i1 i2 i3 f0 f1 f2 f3 u0 u1 u2 u3 hR h0 h1 h2 h3 h4 h5 h6 h7 h8 h9 h10 h11 h12
      cases g
      · repeat go_step
        (try simp only[Exit.inBlock,Exit.then])
        refine bodyPost_ret (results_state2 rfl _ _ (by rfl) (set4 _ _ _ _ I0 I1 I2 I3)) rfl ⟨by first|rfl|simp,bl4 hE (by omega)⟩
      · repeat go_step
        (try simp only[Exit.inBlock,Exit.then])
        refine bodyPost_ret (results_state2 rfl _ _ (by rfl) (set4 _ _ _ _ I0 I1 I2 I3)) rfl ⟨by first|rfl|simp,bl4 hE (by omega)⟩
    · have hlt:w.heap.size+1+1+1<w4.heap.size:=by(obtain⟨h0,h1,h2,h3,h4,h5,h6,h7,h8,h9,h10,h11,h12,hr',hB'⟩:=hHeld;exact res_lt hr')
      go_simp
      refine hK.out _ _ ?_ (fun hHeld'=>?_)
      · (try dsimp only)
        (obtain⟨h0,h1,h2,h3,h4,h5,h6,h7,h8,h9,h10,h11,h12,hr',hB'⟩:=hHeld;exact⟨bl_cell k1 h0,bl_cell k1 h1,bl_cell k1 h2,bl_cell k1 h3,bl_cell k1 h4,bl_cell k1 h5,bl_cell k1 h6,bl_cell k1 h7,bl_cell k1 h8,bl_cell k1 h9,bl_cell k1 h10,bl_cell k1 h11,bl_cell k1 h12,res_bl hr' k1,bl_alloc hB' _⟩)
      clear hHeld hK K
      rename _=>hHeld
      try simp only[Act.put,List.setIfInBounds_toArray,List.set_cons_zero,List.set_cons_succ]
      refine wpAnyH_abs (F:=fun X=>ActsAt X qr q1 q2∧ResB X w4.heap.size) hHeld ⟨acts_bl hA k1,res_new _ _ _ _ _ _ rfl⟩ (fun w5 hHeld hAN=>?_)
      clear hA
      obtain⟨hA,hN⟩:=hAN
      generalize w4.heap.size=nb at *
      refine callC (i:=9) rfl (fun K hK=>?_)
      go_simp
      refine(HAC.out _ _ hA.2.1).mono ?_
      rintro e w6 ⟨rfl,hb⟩
      go_wp2_with fail
      refine hK.out _ _ ?_ (fun hHeld'=>?_)
      · (try dsimp only)
        (obtain⟨h0,h1,h2,h3,h4,h5,h6,h7,h8,h9,h10,h11,h12,hr',hB'⟩:=hHeld;exact⟨bl_cell hb h0,bl_cell hb h1,bl_cell hb h2,bl_cell hb h3,bl_cell hb h4,bl_cell hb h5,bl_cell hb h6,bl_cell hb h7,bl_cell hb h8,bl_cell hb h9,bl_cell hb h10,bl_cell hb h11,bl_cell hb h12,res_bl hr' hb,bl_then hB' hb⟩)
      clear hHeld hK K
      rename _=>hHeld
      replace hA:=acts_bl hA hb
      replace hN:=res_bl hN hb
      clear hb
      try simp only[Act.put,List.setIfInBounds_toArray,List.set_cons_zero,List.set_cons_succ]
      refine tkx 10 ?_
      refine tkx 11 ?_
      refine tkx 12 ?_
      refine callC (i:=14) rfl (fun K hK=>?_)
      obtain⟨h0,h1,h2,h3,h4,h5,h6,h7,h8,h9,h10,h11,h12,hr',hB'⟩:=hHeld
      obtain⟨f0,f1,f2,f3,u0,u1,u2,u3,i0,i1,i2,i3⟩:=res_all hN
      clear hHeld
      have hHeld:True:=trivial
      go_simp
      refine hK.out _ _ ?_ (fun hHeld'=>?_)
      · (try dsimp only)
        (have e0:nb≠w.heap.size:=(by omega);have e1:nb≠w.heap.size+1:=(by omega);have e2:nb≠w.heap.size+1+1:=(by omega);exact⟨far4 h0 e0,far4 h1 e0,far4 h2 e0,far4 h3 e0,far4 h4 e0,far4 h5 e0,far4 h6 e1,far4 h7 e1,far4 h8 e1,far4 h9 e1,far4 h10 e2,far4 h11 e2,far4 h12 e2,res4 hr',bl4 hB' (by omega)⟩)
      clear hHeld hK K
      rename _=>hHeld
      try simp only[Act.put,List.setIfInBounds_toArray,List.set_cons_zero,List.set_cons_succ]
      refine tkx 15 ?_
      refine wpAnyH_done (by kernel_rfl) ?_ _
      obtain⟨h0,h1,h2,h3,h4,h5,h6,h7,h8,h9,h10,h11,h12,hr'',hE⟩:=hHeld
      refine then_abs (F:=fun X=>(X3 X nb aat (alv+acost*d) (ahd - acost) (X.cell? ⟨nb,3,none⟩=some (.slice none 0 0)))∧S4 X (w.heap.size+1) at_ level held a 0 c (ResB X (w.heap.size+1+1+1)∧Below w.heap.size w X)) ⟨set4 _ _ _ _ i0 i1 i2 i3,h6,h7,h8,h9,hr'',hE⟩ ?_
      rintro X ⟨⟨x0,x1,x2,x3⟩,c6,c7,c8,c9,hR,hE⟩
      obtain⟨F0,F1,F2,F3,U0,U1,U2,U3,I0,I1,I2,I3⟩:=res_all hR
      clear hA hN hr' hB' hr'' i0 i1 i2 i3 f0 f1 f2 f3 u0 u1 u2 u3 hR h0 h1 h2 h3 h4 h5 h6 h7 h8 h9 h10 h11 h12
      cases g
      · repeat go_step
        (try simp only[Exit.inBlock,Exit.then])
        refine bodyPost_ret (results_state2 rfl _ _ (by rfl) (set4 _ _ _ _ I0 I1 I2 I3)) rfl ⟨by first|rfl|simp,bl4 hE (by omega)⟩
      · repeat go_step
        (try simp only[Exit.inBlock,Exit.then])
        refine bodyPost_ret (results_state2 rfl _ _ (by rfl) (set4 _ _ _ _ I0 I1 I2 I3)) rfl ⟨by first|rfl|simp,bl4 hE (by omega)⟩
  · have hlt:w.heap.size+1+1+1<W3.heap.size:=by(obtain⟨h0,h1,h2,h3,h4,h5,h6,h7,h8,h9,h10,h11,h12,hr',hB'⟩:=hHeld;exact res_lt hr')
    go_simp
    refine hK.out _ _ ?_ (fun hHeld'=>?_)
    · (try dsimp only)
      (obtain⟨h0,h1,h2,h3,h4,h5,h6,h7,h8,h9,h10,h11,h12,hr',hB'⟩:=hHeld;exact⟨bl_cell k1 h0,bl_cell k1 h1,bl_cell k1 h2,bl_cell k1 h3,bl_cell k1 h4,bl_cell k1 h5,bl_cell k1 h6,bl_cell k1 h7,bl_cell k1 h8,bl_cell k1 h9,bl_cell k1 h10,bl_cell k1 h11,bl_cell k1 h12,res_bl hr' k1,bl_alloc hB' _⟩)
    clear hHeld hK K
    rename _=>hHeld
    try simp only[Act.put,List.setIfInBounds_toArray,List.set_cons_zero,List.set_cons_succ]
    refine wpAnyH_abs (F:=fun X=>ActsAt X qr q1 q2∧ResB X W3.heap.size) hHeld ⟨acts_bl hA k1,res_new _ _ _ _ _ _ rfl⟩ (fun w4 hHeld hAN=>?_)
    clear hA
    obtain⟨hA,hN⟩:=hAN
    generalize W3.heap.size=nb at *
    refine callC (i:=6) rfl (fun K hK=>?_)
    go_simp
    refine(HAV.out _).mono ?_
    rintro e w5 ⟨rfl,hb⟩
    go_wp2_with fail
    refine hK.out _ _ ?_ (fun hHeld'=>?_)
    · (try dsimp only)
      (obtain⟨h0,h1,h2,h3,h4,h5,h6,h7,h8,h9,h10,h11,h12,hr',hB'⟩:=hHeld;exact⟨bl_cell hb h0,bl_cell hb h1,bl_cell hb h2,bl_cell hb h3,bl_cell hb h4,bl_cell hb h5,bl_cell hb h6,bl_cell hb h7,bl_cell hb h8,bl_cell hb h9,bl_cell hb h10,bl_cell hb h11,bl_cell hb h12,res_bl hr' hb,bl_then hB' hb⟩)
    clear hHeld hK K
    rename _=>hHeld
    replace hA:=acts_bl hA hb
    replace hN:=res_bl hN hb
    clear hb
    try simp only[Act.put,List.setIfInBounds_toArray,List.set_cons_zero,List.set_cons_succ]
    refine callC (i:=9) rfl (fun K hK=>?_)
    go_simp
    refine(HAC.out _ _ hA.2.1).mono ?_
    rintro e w6 ⟨rfl,hb⟩
    go_wp2_with fail
    refine hK.out _ _ ?_ (fun hHeld'=>?_)
    · (try dsimp only)
      (obtain⟨h0,h1,h2,h3,h4,h5,h6,h7,h8,h9,h10,h11,h12,hr',hB'⟩:=hHeld;exact⟨bl_cell hb h0,bl_cell hb h1,bl_cell hb h2,bl_cell hb h3,bl_cell hb h4,bl_cell hb h5,bl_cell hb h6,bl_cell hb h7,bl_cell hb h8,bl_cell hb h9,bl_cell hb h10,bl_cell hb h11,bl_cell hb h12,res_bl hr' hb,bl_then hB' hb⟩)
    clear hHeld hK K
    rename _=>hHeld
    replace hA:=acts_bl hA hb
    replace hN:=res_bl hN hb
    clear hb
    try simp only[Act.put,List.setIfInBounds_toArray,List.set_cons_zero,List.set_cons_succ]
    refine tkx 10 ?_
    refine tkx 11 ?_
    refine tkx 12 ?_
    refine callC (i:=14) rfl (fun K hK=>?_)
    obtain⟨h0,h1,h2,h3,h4,h5,h6,h7,h8,h9,h10,h11,h12,hr',hB'⟩:=hHeld
    obtain⟨f0,f1,f2,f3,u0,u1,u2,u3,i0,i1,i2,i3⟩:=res_all hN
    clear hHeld
    have hHeld:True:=trivial
    go_simp
    refine hK.out _ _ ?_ (fun hHeld'=>?_)
    · (try dsimp only)
      (have e0:nb≠w.heap.size:=(by omega);have e1:nb≠w.heap.size+1:=(by omega);have e2:nb≠w.heap.size+1+1:=(by omega);exact⟨far4 h0 e0,far4 h1 e0,far4 h2 e0,far4 h3 e0,far4 h4 e0,far4 h5 e0,far4 h6 e1,far4 h7 e1,far4 h8 e1,far4 h9 e1,far4 h10 e2,far4 h11 e2,far4 h12 e2,res4 hr',bl4 hB' (by omega)⟩)
    clear hHeld hK K
    rename _=>hHeld
    try simp only[Act.put,List.setIfInBounds_toArray,List.set_cons_zero,List.set_cons_succ]
    refine tkx 15 ?_
    refine wpAnyH_done (by kernel_rfl) ?_ _
    obtain⟨h0,h1,h2,h3,h4,h5,h6,h7,h8,h9,h10,h11,h12,hr'',hE⟩:=hHeld
    refine then_abs (F:=fun X=>(X3 X nb aat (alv+acost*d) (ahd - acost) (X.cell? ⟨nb,3,none⟩=some (.slice none 0 0)))∧S4 X (w.heap.size+1) at_ level held a 0 c (ResB X (w.heap.size+1+1+1)∧Below w.heap.size w X)) ⟨set4 _ _ _ _ i0 i1 i2 i3,h6,h7,h8,h9,hr'',hE⟩ ?_
    rintro X ⟨⟨x0,x1,x2,x3⟩,c6,c7,c8,c9,hR,hE⟩
    obtain⟨F0,F1,F2,F3,U0,U1,U2,U3,I0,I1,I2,I3⟩:=res_all hR
    clear hA hN hr' hB' hr'' i0 i1 i2 i3 f0 f1 f2 f3 u0 u1 u2 u3 hR h0 h1 h2 h3 h4 h5 h6 h7 h8 h9 h10 h11 h12
    cases g
    · repeat go_step
      (try simp only[Exit.inBlock,Exit.then])
      refine bodyPost_ret (results_state2 rfl _ _ (by rfl) (set4 _ _ _ _ I0 I1 I2 I3)) rfl ⟨by first|rfl|simp,bl4 hE (by omega)⟩
    · repeat go_step
      (try simp only[Exit.inBlock,Exit.then])
      refine bodyPost_ret (results_state2 rfl _ _ (by rfl) (set4 _ _ _ _ I0 I1 I2 I3)) rfl ⟨by first|rfl|simp,bl4 hE (by omega)⟩

theorem bdo_4 (p:Pol) (s:St) (a:Option Addr) (c:Nat) (anow acost:Int) (w:World) (h:rightB p s) (hc1:1≤acost) (hc2:acost≤p.burst) :
    Calls Tryz.prog 124 #[p.v,s.v a 0 c,.agg #[.int .i64 4,.int .i64 anow,.int .i64 acost]] w fun e w' =>
      e=.returned (.tuple #[if (actB p (advB p s anow) ⟨4,anow,acost⟩).2 then(actB p (advB p s anow) ⟨4,anow,acost⟩).1.v none 0 0 else s.v a 0 c,.bool (actB p (advB p s anow) ⟨4,anow,acost⟩).2])∧Below w.heap.size w w':=by
  have hlg:=h.2.2.2.2.2.2.2
  have hrt:=bright_any p s a 0 c (by rw[hlg];rfl)
  have hav:=badv_any p s a 0 c anow (by rw[hlg];rfl)
  rw[decide_eq_true h] at hrt
  have hok:=h.1
  have hlv:=advB_level p s anow h
  have hhd:=advB_held p s anow h
  have hr3:=h.2.2.2.1
  have hr4:=h.2.2.2.2.1
  generalize advB p s anow=A at *
  clear h
  obtain⟨k,l,d,b,cc,o⟩:=p
  obtain⟨at_,level,held,lg⟩:=s
  obtain⟨aat,alv,ahd,alg⟩:=A
  unfold actB
  unfold St.v Pol.v at *
  dsimp only at *
  simp only[show((1:Int)=1)=True from eq_true rfl,show((2:Int)=1)=False from eq_false (by decide),show((2:Int)=2)=True from eq_true rfl,show((3:Int)=1)=False from eq_false (by decide),show((3:Int)=2)=False from eq_false (by decide),show((3:Int)=3)=True from eq_true rfl,show((4:Int)=1)=False from eq_false (by decide),show((4:Int)=2)=False from eq_false (by decide),show((4:Int)=3)=False from eq_false (by decide),show((4:Int)=4)=True from eq_true rfl,if_true,if_false]
  obtain⟨z0,z1,z2,z3,z4,z5,z6,z7⟩:=hok
  dsimp only at *
  have hM:acost*d≤1152921504606846976:=prod_le (by omega) (by omega) (by omega)
  have hM0:0≤acost*d:=Int.mul_nonneg (by omega) (by omega)
  have hw1:IntKind.i64.wrap (ahd - acost)=ahd - acost:=IntWalk.i64_in _ (by omega)
  have HAC:=Go.Lib.hid (fun w=>bback_any k l d b cc o aat alv ahd acost none 0 0 w hw1)
  have HRT:=Go.Lib.hid hrt
  have HAV:=Go.Lib.hid hav
  have hb1:¬ acost<1:=by omega
  have hb2:¬ b<acost:=by omega
  clear hrt hav hlv hhd hM hM0 z0 z1 z2 z3 z4 z5 z6 z7 hr3 hr4 hc1 hc2  hw1
  obtain⟨g,hg⟩:∃ g,decide (0≤ahd - acost)=g:=⟨_,rfl⟩
  rw[hg] at HAC ⊢
  go_enter Tryz.func124,Tryz.ntmps124
  go_wp2_with fail
  refine wp_abs (S0:=fun w'=>P6 w' (w.heap.size) k l d b cc o (S4 w' (w.heap.size+1) at_ level held a 0 c (X3 w' (w.heap.size+1+1) 4 anow acost (ResB w' (w.heap.size+1+1+1)∧Below w.heap.size w w')))) ⟨by go_simp,by go_simp,by go_simp,by go_simp,by go_simp,by go_simp,by go_simp,by go_simp,by go_simp,by go_simp,by go_simp,by go_simp,by go_simp,res_new _ _ _ _ _ _ (by simp),k4⟩ ?_
  rintro W ⟨c0,c1,c2,c3,c4,c5,c6,c7,c8,c9,c10,c11,c12,hR,hB⟩
  refine wp_region_held_drew (S:=fun w'=>P6 w' (w.heap.size) k l d b cc o (S4 w' (w.heap.size+1) at_ level held a 0 c (X3 w' (w.heap.size+1+1) 4 anow acost (ResB w' (w.heap.size+1+1+1)∧Below w.heap.size w w')))) (by kernel_rfl) ?_ (fun hHeld=>?_)
  · exact⟨c0,c1,c2,c3,c4,c5,c6,c7,c8,c9,c10,c11,c12,hR,bl_drew hB⟩
  try simp only[Act.put,List.setIfInBounds_toArray,List.set_cons_zero,List.set_cons_succ]
  refine tkx 1 ?_
  refine tkx 2 ?_
  (refine callC (i:=0) rfl (fun K hK=>?_);go_simp;refine(acts_any _).mono ?_;rintro e w1 ⟨rfl,hA,hb⟩;generalize W.drew.heap.size+1+1=qr at *;generalize W.drew.heap.size+1=q2 at *;generalize W.drew.heap.size=q1 at hA;go_wp2_with fail;refine hK.out _ _ ?_ (fun hHeld'=>?_);(focus((try dsimp only);(obtain⟨h0,h1,h2,h3,h4,h5,h6,h7,h8,h9,h10,h11,h12,hr',hB'⟩:=hHeld;exact⟨bl_cell hb h0,bl_cell hb h1,bl_cell hb h2,bl_cell hb h3,bl_cell hb h4,bl_cell hb h5,bl_cell hb h6,bl_cell hb h7,bl_cell hb h8,bl_cell hb h9,bl_cell hb h10,bl_cell hb h11,bl_cell hb h12,res_bl hr' hb,bl_then hB' hb⟩)));clear hHeld hK K;rename _=>hHeld;try simp only[Act.put,List.setIfInBounds_toArray,List.set_cons_zero,List.set_cons_succ])
  have hlk:=acts_look hA 4
  unfold actF at hlk
  simp at hlk
  (refine callC (i:=3) rfl (fun K hK=>?_);go_simp;refine hK.out _ _ ?_ (fun hHeld'=>?_);(focus((try dsimp only);exact hHeld));clear hHeld hK K;rename _=>hHeld;clear hlk;try simp only[Act.put,List.setIfInBounds_toArray,List.set_cons_zero,List.set_cons_succ])
  refine tkx 4 ?_
  refine tkx 5 ?_
  refine tkx 6 ?_
  refine tkx 7 ?_
  refine tkx 8 ?_
  refine wpAnyH_done (by kernel_rfl) ?_ _
  clear c0 hR hB
  obtain⟨c0,c1,c2,c3,c4,c5,c6,c7,c8,c9,c10,c11,c12,hR,hB⟩:=hHeld
  try clear hHeld
  go_wp2_with fail
  refine(HRT.out _).mono ?_
  rintro e w2 ⟨rfl,hb2⟩
  have d0:=bl_cell hb2 c0
  have d1:=bl_cell hb2 c1
  have d2:=bl_cell hb2 c2
  have d3:=bl_cell hb2 c3
  have d4:=bl_cell hb2 c4
  have d5:=bl_cell hb2 c5
  have d6:=bl_cell hb2 c6
  have d7:=bl_cell hb2 c7
  have d8:=bl_cell hb2 c8
  have d9:=bl_cell hb2 c9
  have d10:=bl_cell hb2 c10
  have d11:=bl_cell hb2 c11
  have d12:=bl_cell hb2 c12
  have dR:=res_bl hR hb2
  have dB:=bl_then hB hb2
  have dA:=acts_bl hA hb2
  clear hR hB hA hb2 c0 c1 c2 c3 c4 c5 c6 c7 c8 c9 c10 c11 c12
  go_wp2_with fail
  refine wp_region_held_drew (S:=fun w'=>P6 w' (w.heap.size) k l d b cc o (S4 w' (w.heap.size+1) at_ level held a 0 c (X3 w' (w.heap.size+1+1) 4 anow acost (ResB w' (w.heap.size+1+1+1)∧Below w.heap.size w w')))) (by kernel_rfl) ?_ (fun hHeld=>?_)
  · exact⟨d0,d1,d2,d3,d4,d5,d6,d7,d8,d9,d10,d11,d12,dR,bl_drew dB⟩
  try simp only[Act.put,List.setIfInBounds_toArray,List.set_cons_zero,List.set_cons_succ]
  refine wpAnyH_abs (F:=fun W=>ActsAt W qr q1 q2) hHeld dA (fun W3 hHeld hA=>?_)
  clear dA dR dB d0 d1 d2 d3 d4 d5 d6 d7 d8 d9 d10 d11 d12
  refine tkx 0 ?_
  refine tkx 1 ?_
  refine tkx 2 ?_
  refine tkx 3 ?_
  refine tkx 4 ?_
  refine tkx 5 ?_
  refine tkx 7 ?_
  refine tkx 8 ?_
  refine callC2 (i:=6) (j:=13) rfl rfl (fun K hK=>?_) (fun K hK=>?_)
  · go_simp
    refine(HAV.out _).mono ?_
    rintro e w4 ⟨rfl,hb⟩
    go_wp2_with fail
    refine hK.out _ _ ?_ (fun hHeld'=>?_)
    · (try dsimp only)
      (obtain⟨h0,h1,h2,h3,h4,h5,h6,h7,h8,h9,h10,h11,h12,hr',hB'⟩:=hHeld;exact⟨bl_cell hb h0,bl_cell hb h1,bl_cell hb h2,bl_cell hb h3,bl_cell hb h4,bl_cell hb h5,bl_cell hb h6,bl_cell hb h7,bl_cell hb h8,bl_cell hb h9,bl_cell hb h10,bl_cell hb h11,bl_cell hb h12,res_bl hr' hb,bl_then hB' hb⟩)
    clear hHeld hK K
    rename _=>hHeld
    replace hA:=acts_bl hA hb
    clear hb
    try simp only[Act.put,List.setIfInBounds_toArray,List.set_cons_zero,List.set_cons_succ]
    refine callC2 (i:=9) (j:=13) rfl rfl (fun K hK=>?_) (fun K hK=>?_)
    · go_simp
      refine(HAC.out _).mono ?_
      rintro e w5 ⟨rfl,hb⟩
      go_wp2_with fail
      refine hK.out _ _ ?_ (fun hHeld'=>?_)
      · (try dsimp only)
        (obtain⟨h0,h1,h2,h3,h4,h5,h6,h7,h8,h9,h10,h11,h12,hr',hB'⟩:=hHeld;exact⟨bl_cell hb h0,bl_cell hb h1,bl_cell hb h2,bl_cell hb h3,bl_cell hb h4,bl_cell hb h5,bl_cell hb h6,bl_cell hb h7,bl_cell hb h8,bl_cell hb h9,bl_cell hb h10,bl_cell hb h11,bl_cell hb h12,res_bl hr' hb,bl_then hB' hb⟩)
      clear hHeld hK K
      rename _=>hHeld
      replace hA:=acts_bl hA hb
      clear hb
      try simp only[Act.put,List.setIfInBounds_toArray,List.set_cons_zero,List.set_cons_succ]
      refine tkx 10 ?_
      refine tkx 11 ?_
      refine tkx 12 ?_
      refine callC (i:=13) rfl (fun K hK=>?_)
      have hlt:w.heap.size+1+1+1<w5.heap.size:=by(obtain⟨h0,h1,h2,h3,h4,h5,h6,h7,h8,h9,h10,h11,h12,hr',hB'⟩:=hHeld;exact res_lt hr')
      go_simp
      refine hK.out _ _ ?_ (fun hHeld'=>?_)
      · (try dsimp only)
        (obtain⟨h0,h1,h2,h3,h4,h5,h6,h7,h8,h9,h10,h11,h12,hr',hB'⟩:=hHeld;exact⟨bl_cell k1 h0,bl_cell k1 h1,bl_cell k1 h2,bl_cell k1 h3,bl_cell k1 h4,bl_cell k1 h5,bl_cell k1 h6,bl_cell k1 h7,bl_cell k1 h8,bl_cell k1 h9,bl_cell k1 h10,bl_cell k1 h11,bl_cell k1 h12,res_bl hr' k1,bl_alloc hB' _⟩)
      clear hHeld hK K
      rename _=>hHeld
      try simp only[Act.put,List.setIfInBounds_toArray,List.set_cons_zero,List.set_cons_succ]
      refine wpAnyH_abs (F:=fun X=>ActsAt X qr q1 q2∧ResB X w5.heap.size) hHeld ⟨acts_bl hA k1,res_new _ _ _ _ _ _ rfl⟩ (fun w6 hHeld hAN=>?_)
      clear hA
      obtain⟨hA,hN⟩:=hAN
      generalize w5.heap.size=nb at *
      refine callC (i:=14) rfl (fun K hK=>?_)
      obtain⟨h0,h1,h2,h3,h4,h5,h6,h7,h8,h9,h10,h11,h12,hr',hB'⟩:=hHeld
      obtain⟨f0,f1,f2,f3,u0,u1,u2,u3,i0,i1,i2,i3⟩:=res_all hN
      clear hHeld
      have hHeld:True:=trivial
      go_simp
      refine hK.out _ _ ?_ (fun hHeld'=>?_)
      · (try dsimp only)
        (have e0:nb≠w.heap.size:=(by omega);have e1:nb≠w.heap.size+1:=(by omega);have e2:nb≠w.heap.size+1+1:=(by omega);exact⟨far4 h0 e0,far4 h1 e0,far4 h2 e0,far4 h3 e0,far4 h4 e0,far4 h5 e0,far4 h6 e1,far4 h7 e1,far4 h8 e1,far4 h9 e1,far4 h10 e2,far4 h11 e2,far4 h12 e2,res4 hr',bl4 hB' (by omega)⟩)
      clear hHeld hK K
      rename _=>hHeld
      try simp only[Act.put,List.setIfInBounds_toArray,List.set_cons_zero,List.set_cons_succ]
      refine tkx 15 ?_
      refine wpAnyH_done (by kernel_rfl) ?_ _
      obtain⟨h0,h1,h2,h3,h4,h5,h6,h7,h8,h9,h10,h11,h12,hr'',hE⟩:=hHeld
      refine then_abs (F:=fun X=>(X3 X nb aat (alv) (ahd - acost) (X.cell? ⟨nb,3,none⟩=some (.slice none 0 0)))∧S4 X (w.heap.size+1) at_ level held a 0 c (ResB X (w.heap.size+1+1+1)∧Below w.heap.size w X)) ⟨set4 _ _ _ _ i0 i1 i2 i3,h6,h7,h8,h9,hr'',hE⟩ ?_
      rintro X ⟨⟨x0,x1,x2,x3⟩,c6,c7,c8,c9,hR,hE⟩
      obtain⟨F0,F1,F2,F3,U0,U1,U2,U3,I0,I1,I2,I3⟩:=res_all hR
      clear hA hN hr' hB' hr'' i0 i1 i2 i3 f0 f1 f2 f3 u0 u1 u2 u3 hR h0 h1 h2 h3 h4 h5 h6 h7 h8 h9 h10 h11 h12
      cases g
      · repeat go_step
        (try simp only[Exit.inBlock,Exit.then])
        refine bodyPost_ret (results_state2 rfl _ _ (by rfl) (set4 _ _ _ _ I0 I1 I2 I3)) rfl ⟨by first|rfl|simp,bl4 hE (by omega)⟩
      · repeat go_step
        (try simp only[Exit.inBlock,Exit.then])
        refine bodyPost_ret (results_state2 rfl _ _ (by rfl) (set4 _ _ _ _ I0 I1 I2 I3)) rfl ⟨by first|rfl|simp,bl4 hE (by omega)⟩
    · have hlt:w.heap.size+1+1+1<w4.heap.size:=by(obtain⟨h0,h1,h2,h3,h4,h5,h6,h7,h8,h9,h10,h11,h12,hr',hB'⟩:=hHeld;exact res_lt hr')
      go_simp
      refine hK.out _ _ ?_ (fun hHeld'=>?_)
      · (try dsimp only)
        (obtain⟨h0,h1,h2,h3,h4,h5,h6,h7,h8,h9,h10,h11,h12,hr',hB'⟩:=hHeld;exact⟨bl_cell k1 h0,bl_cell k1 h1,bl_cell k1 h2,bl_cell k1 h3,bl_cell k1 h4,bl_cell k1 h5,bl_cell k1 h6,bl_cell k1 h7,bl_cell k1 h8,bl_cell k1 h9,bl_cell k1 h10,bl_cell k1 h11,bl_cell k1 h12,res_bl hr' k1,bl_alloc hB' _⟩)
      clear hHeld hK K
      rename _=>hHeld
      try simp only[Act.put,List.setIfInBounds_toArray,List.set_cons_zero,List.set_cons_succ]
      refine wpAnyH_abs (F:=fun X=>ActsAt X qr q1 q2∧ResB X w4.heap.size) hHeld ⟨acts_bl hA k1,res_new _ _ _ _ _ _ rfl⟩ (fun w5 hHeld hAN=>?_)
      clear hA
      obtain⟨hA,hN⟩:=hAN
      generalize w4.heap.size=nb at *
      refine callC (i:=9) rfl (fun K hK=>?_)
      go_simp
      refine(HAC.out _).mono ?_
      rintro e w6 ⟨rfl,hb⟩
      go_wp2_with fail
      refine hK.out _ _ ?_ (fun hHeld'=>?_)
      · (try dsimp only)
        (obtain⟨h0,h1,h2,h3,h4,h5,h6,h7,h8,h9,h10,h11,h12,hr',hB'⟩:=hHeld;exact⟨bl_cell hb h0,bl_cell hb h1,bl_cell hb h2,bl_cell hb h3,bl_cell hb h4,bl_cell hb h5,bl_cell hb h6,bl_cell hb h7,bl_cell hb h8,bl_cell hb h9,bl_cell hb h10,bl_cell hb h11,bl_cell hb h12,res_bl hr' hb,bl_then hB' hb⟩)
      clear hHeld hK K
      rename _=>hHeld
      replace hA:=acts_bl hA hb
      replace hN:=res_bl hN hb
      clear hb
      try simp only[Act.put,List.setIfInBounds_toArray,List.set_cons_zero,List.set_cons_succ]
      refine tkx 10 ?_
      refine tkx 11 ?_
      refine tkx 12 ?_
      refine callC (i:=14) rfl (fun K hK=>?_)
      obtain⟨h0,h1,h2,h3,h4,h5,h6,h7,h8,h9,h10,h11,h12,hr',hB'⟩:=hHeld
      obtain⟨f0,f1,f2,f3,u0,u1,u2,u3,i0,i1,i2,i3⟩:=res_all hN
      clear hHeld
      have hHeld:True:=trivial
      go_simp
      refine hK.out _ _ ?_ (fun hHeld'=>?_)
      · (try dsimp only)
        (have e0:nb≠w.heap.size:=(by omega);have e1:nb≠w.heap.size+1:=(by omega);have e2:nb≠w.heap.size+1+1:=(by omega);exact⟨far4 h0 e0,far4 h1 e0,far4 h2 e0,far4 h3 e0,far4 h4 e0,far4 h5 e0,far4 h6 e1,far4 h7 e1,far4 h8 e1,far4 h9 e1,far4 h10 e2,far4 h11 e2,far4 h12 e2,res4 hr',bl4 hB' (by omega)⟩)
      clear hHeld hK K
      rename _=>hHeld
      try simp only[Act.put,List.setIfInBounds_toArray,List.set_cons_zero,List.set_cons_succ]
      refine tkx 15 ?_
      refine wpAnyH_done (by kernel_rfl) ?_ _
      obtain⟨h0,h1,h2,h3,h4,h5,h6,h7,h8,h9,h10,h11,h12,hr'',hE⟩:=hHeld
      refine then_abs (F:=fun X=>(X3 X nb aat (alv) (ahd - acost) (X.cell? ⟨nb,3,none⟩=some (.slice none 0 0)))∧S4 X (w.heap.size+1) at_ level held a 0 c (ResB X (w.heap.size+1+1+1)∧Below w.heap.size w X)) ⟨set4 _ _ _ _ i0 i1 i2 i3,h6,h7,h8,h9,hr'',hE⟩ ?_
      rintro X ⟨⟨x0,x1,x2,x3⟩,c6,c7,c8,c9,hR,hE⟩
      obtain⟨F0,F1,F2,F3,U0,U1,U2,U3,I0,I1,I2,I3⟩:=res_all hR
      clear hA hN hr' hB' hr'' i0 i1 i2 i3 f0 f1 f2 f3 u0 u1 u2 u3 hR h0 h1 h2 h3 h4 h5 h6 h7 h8 h9 h10 h11 h12
      cases g
      · repeat go_step
        (try simp only[Exit.inBlock,Exit.then])
        refine bodyPost_ret (results_state2 rfl _ _ (by rfl) (set4 _ _ _ _ I0 I1 I2 I3)) rfl ⟨by first|rfl|simp,bl4 hE (by omega)⟩
      · repeat go_step
        (try simp only[Exit.inBlock,Exit.then])
        refine bodyPost_ret (results_state2 rfl _ _ (by rfl) (set4 _ _ _ _ I0 I1 I2 I3)) rfl ⟨by first|rfl|simp,bl4 hE (by omega)⟩
  · have hlt:w.heap.size+1+1+1<W3.heap.size:=by(obtain⟨h0,h1,h2,h3,h4,h5,h6,h7,h8,h9,h10,h11,h12,hr',hB'⟩:=hHeld;exact res_lt hr')
    go_simp
    refine hK.out _ _ ?_ (fun hHeld'=>?_)
    · (try dsimp only)
      (obtain⟨h0,h1,h2,h3,h4,h5,h6,h7,h8,h9,h10,h11,h12,hr',hB'⟩:=hHeld;exact⟨bl_cell k1 h0,bl_cell k1 h1,bl_cell k1 h2,bl_cell k1 h3,bl_cell k1 h4,bl_cell k1 h5,bl_cell k1 h6,bl_cell k1 h7,bl_cell k1 h8,bl_cell k1 h9,bl_cell k1 h10,bl_cell k1 h11,bl_cell k1 h12,res_bl hr' k1,bl_alloc hB' _⟩)
    clear hHeld hK K
    rename _=>hHeld
    try simp only[Act.put,List.setIfInBounds_toArray,List.set_cons_zero,List.set_cons_succ]
    refine wpAnyH_abs (F:=fun X=>ActsAt X qr q1 q2∧ResB X W3.heap.size) hHeld ⟨acts_bl hA k1,res_new _ _ _ _ _ _ rfl⟩ (fun w4 hHeld hAN=>?_)
    clear hA
    obtain⟨hA,hN⟩:=hAN
    generalize W3.heap.size=nb at *
    refine callC (i:=6) rfl (fun K hK=>?_)
    go_simp
    refine(HAV.out _).mono ?_
    rintro e w5 ⟨rfl,hb⟩
    go_wp2_with fail
    refine hK.out _ _ ?_ (fun hHeld'=>?_)
    · (try dsimp only)
      (obtain⟨h0,h1,h2,h3,h4,h5,h6,h7,h8,h9,h10,h11,h12,hr',hB'⟩:=hHeld;exact⟨bl_cell hb h0,bl_cell hb h1,bl_cell hb h2,bl_cell hb h3,bl_cell hb h4,bl_cell hb h5,bl_cell hb h6,bl_cell hb h7,bl_cell hb h8,bl_cell hb h9,bl_cell hb h10,bl_cell hb h11,bl_cell hb h12,res_bl hr' hb,bl_then hB' hb⟩)
    clear hHeld hK K
    rename _=>hHeld
    replace hA:=acts_bl hA hb
    replace hN:=res_bl hN hb
    clear hb
    try simp only[Act.put,List.setIfInBounds_toArray,List.set_cons_zero,List.set_cons_succ]
    refine callC (i:=9) rfl (fun K hK=>?_)
    go_simp
    refine(HAC.out _).mono ?_
    rintro e w6 ⟨rfl,hb⟩
    go_wp2_with fail
    refine hK.out _ _ ?_ (fun hHeld'=>?_)
    · (try dsimp only)
      (obtain⟨h0,h1,h2,h3,h4,h5,h6,h7,h8,h9,h10,h11,h12,hr',hB'⟩:=hHeld;exact⟨bl_cell hb h0,bl_cell hb h1,bl_cell hb h2,bl_cell hb h3,bl_cell hb h4,bl_cell hb h5,bl_cell hb h6,bl_cell hb h7,bl_cell hb h8,bl_cell hb h9,bl_cell hb h10,bl_cell hb h11,bl_cell hb h12,res_bl hr' hb,bl_then hB' hb⟩)
    clear hHeld hK K
    rename _=>hHeld
    replace hA:=acts_bl hA hb
    replace hN:=res_bl hN hb
    clear hb
    try simp only[Act.put,List.setIfInBounds_toArray,List.set_cons_zero,List.set_cons_succ]
    refine tkx 10 ?_
    refine tkx 11 ?_
    refine tkx 12 ?_
    refine callC (i:=14) rfl (fun K hK=>?_)
    obtain⟨h0,h1,h2,h3,h4,h5,h6,h7,h8,h9,h10,h11,h12,hr',hB'⟩:=hHeld
    obtain⟨f0,f1,f2,f3,u0,u1,u2,u3,i0,i1,i2,i3⟩:=res_all hN
    clear hHeld
    have hHeld:True:=trivial
    go_simp
    refine hK.out _ _ ?_ (fun hHeld'=>?_)
    · (try dsimp only)
      (have e0:nb≠w.heap.size:=(by omega);have e1:nb≠w.heap.size+1:=(by omega);have e2:nb≠w.heap.size+1+1:=(by omega);exact⟨far4 h0 e0,far4 h1 e0,far4 h2 e0,far4 h3 e0,far4 h4 e0,far4 h5 e0,far4 h6 e1,far4 h7 e1,far4 h8 e1,far4 h9 e1,far4 h10 e2,far4 h11 e2,far4 h12 e2,res4 hr',bl4 hB' (by omega)⟩)
    clear hHeld hK K
    rename _=>hHeld
    try simp only[Act.put,List.setIfInBounds_toArray,List.set_cons_zero,List.set_cons_succ]
    refine tkx 15 ?_
    refine wpAnyH_done (by kernel_rfl) ?_ _
    obtain⟨h0,h1,h2,h3,h4,h5,h6,h7,h8,h9,h10,h11,h12,hr'',hE⟩:=hHeld
    refine then_abs (F:=fun X=>(X3 X nb aat (alv) (ahd - acost) (X.cell? ⟨nb,3,none⟩=some (.slice none 0 0)))∧S4 X (w.heap.size+1) at_ level held a 0 c (ResB X (w.heap.size+1+1+1)∧Below w.heap.size w X)) ⟨set4 _ _ _ _ i0 i1 i2 i3,h6,h7,h8,h9,hr'',hE⟩ ?_
    rintro X ⟨⟨x0,x1,x2,x3⟩,c6,c7,c8,c9,hR,hE⟩
    obtain⟨F0,F1,F2,F3,U0,U1,U2,U3,I0,I1,I2,I3⟩:=res_all hR
    clear hA hN hr' hB' hr'' i0 i1 i2 i3 f0 f1 f2 f3 u0 u1 u2 u3 hR h0 h1 h2 h3 h4 h5 h6 h7 h8 h9 h10 h11 h12
    cases g
    · repeat go_step
      (try simp only[Exit.inBlock,Exit.then])
      refine bodyPost_ret (results_state2 rfl _ _ (by rfl) (set4 _ _ _ _ I0 I1 I2 I3)) rfl ⟨by first|rfl|simp,bl4 hE (by omega)⟩
    · repeat go_step
      (try simp only[Exit.inBlock,Exit.then])
      refine bodyPost_ret (results_state2 rfl _ _ (by rfl) (set4 _ _ _ _ I0 I1 I2 I3)) rfl ⟨by first|rfl|simp,bl4 hE (by omega)⟩
theorem bdo_no (p:Pol) (s:St) (a:Option Addr) (n c:Nat) (hn:s.log.length=n) (ak anow acost:Int) (w:World) (h:¬ rightB p s) :
    Calls Tryz.prog 124 #[p.v,s.v a n c,.agg #[.int .i64 ak,.int .i64 anow,.int .i64 acost]] w fun e w' =>
      e=.returned (.tuple #[St.none.v none 0 0,.bool false])∧Below w.heap.size w w':=by
  have hrt:=bright_any p s a n c hn
  rw[decide_eq_false h] at hrt
  have HLK:=Go.Lib.hid (fun(W:World) (r q1 q2:Nat) (hA:ActsAt W r q1 q2)=>acts_look hA ak)
  clear h hn
  obtain⟨k,l,d,b,cc,o⟩:=p
  obtain⟨at_,level,held,lg⟩:=s
  unfold St.v Pol.v at *
  dsimp only at *
  have HRT:=Go.Lib.hid hrt
  clear hrt
  generalize hkd:decide (ak=1∨ak=2∨ak=3∨ak=4)=kd at *
  clear hkd
  unfold St.none
  dsimp only
  go_enter Tryz.func124,Tryz.ntmps124
  go_wp2_with fail
  refine wp_abs (S0:=fun w'=>P6 w' (w.heap.size) k l d b cc o (S4 w' (w.heap.size+1) at_ level held a n c (X3 w' (w.heap.size+1+1) ak anow acost (ResB w' (w.heap.size+1+1+1)∧Below w.heap.size w w')))) ⟨by go_simp,by go_simp,by go_simp,by go_simp,by go_simp,by go_simp,by go_simp,by go_simp,by go_simp,by go_simp,by go_simp,by go_simp,by go_simp,res_new _ _ _ _ _ _ (by simp),k4⟩ ?_
  rintro W ⟨c0,c1,c2,c3,c4,c5,c6,c7,c8,c9,c10,c11,c12,hR,hB⟩
  refine wp_region_held_drew (S:=fun w'=>P6 w' (w.heap.size) k l d b cc o (S4 w' (w.heap.size+1) at_ level held a n c (X3 w' (w.heap.size+1+1) ak anow acost (ResB w' (w.heap.size+1+1+1)∧Below w.heap.size w w')))) (by kernel_rfl) ?_ (fun hHeld=>?_)
  · exact⟨c0,c1,c2,c3,c4,c5,c6,c7,c8,c9,c10,c11,c12,hR,bl_drew hB⟩
  try simp only[Act.put,List.setIfInBounds_toArray,List.set_cons_zero,List.set_cons_succ]
  refine tkx 1 ?_
  refine tkx 2 ?_
  (refine callC (i:=0) rfl (fun K hK=>?_);go_simp;refine(acts_any _).mono ?_;rintro e w1 ⟨rfl,hA,hb⟩;generalize W.drew.heap.size+1+1=qr at *;generalize W.drew.heap.size+1=q2 at *;generalize W.drew.heap.size=q1 at hA;go_wp2_with fail;refine hK.out _ _ ?_ (fun hHeld'=>?_);(focus((try dsimp only);(obtain⟨h0,h1,h2,h3,h4,h5,h6,h7,h8,h9,h10,h11,h12,hr',hB'⟩:=hHeld;exact⟨bl_cell hb h0,bl_cell hb h1,bl_cell hb h2,bl_cell hb h3,bl_cell hb h4,bl_cell hb h5,bl_cell hb h6,bl_cell hb h7,bl_cell hb h8,bl_cell hb h9,bl_cell hb h10,bl_cell hb h11,bl_cell hb h12,res_bl hr' hb,bl_then hB' hb⟩)));clear hHeld hK K;rename _=>hHeld;try simp only[Act.put,List.setIfInBounds_toArray,List.set_cons_zero,List.set_cons_succ])
  have hlk:=HLK.out _ _ _ _ hA
  clear HLK
  generalize actF q1 q2 ak=fv at hlk
  (refine callC (i:=3) rfl (fun K hK=>?_);go_simp;refine hK.out _ _ ?_ (fun hHeld'=>?_);(focus((try dsimp only);exact hHeld));clear hHeld hK K;rename _=>hHeld;clear hlk;try simp only[Act.put,List.setIfInBounds_toArray,List.set_cons_zero,List.set_cons_succ])
  refine tkx 4 ?_
  refine tkx 5 ?_
  refine tkx 6 ?_
  refine tkx 7 ?_
  refine tkx 8 ?_
  refine wpAnyH_done (by kernel_rfl) ?_ _
  clear hR hB c0 c1 c2 c3 c4 c5 c6 c7 c8 c9 c10 c11 c12
  obtain⟨c0,c1,c2,c3,c4,c5,c6,c7,c8,c9,c10,c11,c12,hR,hB⟩:=hHeld
  go_wp2_with fail
  refine(HRT.out _).mono ?_
  rintro e w2 ⟨rfl,hb2⟩
  have d0:=bl_cell hb2 c0
  have d1:=bl_cell hb2 c1
  have d2:=bl_cell hb2 c2
  have d3:=bl_cell hb2 c3
  have d4:=bl_cell hb2 c4
  have d5:=bl_cell hb2 c5
  have d6:=bl_cell hb2 c6
  have d7:=bl_cell hb2 c7
  have d8:=bl_cell hb2 c8
  have d9:=bl_cell hb2 c9
  have d10:=bl_cell hb2 c10
  have d11:=bl_cell hb2 c11
  have d12:=bl_cell hb2 c12
  have dR:=res_bl hR hb2
  have dB:=bl_then hB hb2
  obtain⟨F0,F1,F2,F3,U0,U1,U2,U3,I0,I1,I2,I3⟩:=res_all dR
  clear hR hB hA hb2 dR HRT c0 c1 c2 c3 c4 c5 c6 c7 c8 c9 c10 c11 c12
  go_wp2_with fail
  (try simp only[Exit.inBlock,Exit.then])
  refine bodyPost_ret (results_state2 rfl _ _ (by rfl) (set4 _ _ _ _ I0 I1 I2 I3)) rfl ⟨by first|rfl|simp,bl4 dB (by omega)⟩

theorem bdo_kind (p:Pol) (s:St) (a:Option Addr) (n c:Nat) (hn:s.log.length=n) (ak anow acost:Int) (w:World) (h:rightB p s) (hk:¬ (ak=1∨ak=2∨ak=3∨ak=4)) :
    Calls Tryz.prog 124 #[p.v,s.v a n c,.agg #[.int .i64 ak,.int .i64 anow,.int .i64 acost]] w fun e w' =>
      e=.returned (.tuple #[s.v a n c,.bool false])∧Below w.heap.size w w':=by
  have hrt:=bright_any p s a n c hn
  rw[decide_eq_true h] at hrt
  have hkk:=decide_eq_false hk
  have HLK:=Go.Lib.hid (fun(W:World) (r q1 q2:Nat) (hA:ActsAt W r q1 q2)=>acts_look hA ak)
  clear h hn
  rw[hkk] at HLK
  clear hk hkk
  obtain⟨k,l,d,b,cc,o⟩:=p
  obtain⟨at_,level,held,lg⟩:=s
  unfold St.v Pol.v at *
  dsimp only at *
  have HRT:=Go.Lib.hid hrt
  clear hrt
  go_enter Tryz.func124,Tryz.ntmps124
  go_wp2_with fail
  refine wp_abs (S0:=fun w'=>P6 w' (w.heap.size) k l d b cc o (S4 w' (w.heap.size+1) at_ level held a n c (X3 w' (w.heap.size+1+1) ak anow acost (ResB w' (w.heap.size+1+1+1)∧Below w.heap.size w w')))) ⟨by go_simp,by go_simp,by go_simp,by go_simp,by go_simp,by go_simp,by go_simp,by go_simp,by go_simp,by go_simp,by go_simp,by go_simp,by go_simp,res_new _ _ _ _ _ _ (by simp),k4⟩ ?_
  rintro W ⟨c0,c1,c2,c3,c4,c5,c6,c7,c8,c9,c10,c11,c12,hR,hB⟩
  refine wp_region_held_drew (S:=fun w'=>P6 w' (w.heap.size) k l d b cc o (S4 w' (w.heap.size+1) at_ level held a n c (X3 w' (w.heap.size+1+1) ak anow acost (ResB w' (w.heap.size+1+1+1)∧Below w.heap.size w w')))) (by kernel_rfl) ?_ (fun hHeld=>?_)
  · exact⟨c0,c1,c2,c3,c4,c5,c6,c7,c8,c9,c10,c11,c12,hR,bl_drew hB⟩
  try simp only[Act.put,List.setIfInBounds_toArray,List.set_cons_zero,List.set_cons_succ]
  refine tkx 1 ?_
  refine tkx 2 ?_
  (refine callC (i:=0) rfl (fun K hK=>?_);go_simp;refine(acts_any _).mono ?_;rintro e w1 ⟨rfl,hA,hb⟩;generalize W.drew.heap.size+1+1=qr at *;generalize W.drew.heap.size+1=q2 at *;generalize W.drew.heap.size=q1 at hA;go_wp2_with fail;refine hK.out _ _ ?_ (fun hHeld'=>?_);(focus((try dsimp only);(obtain⟨h0,h1,h2,h3,h4,h5,h6,h7,h8,h9,h10,h11,h12,hr',hB'⟩:=hHeld;exact⟨bl_cell hb h0,bl_cell hb h1,bl_cell hb h2,bl_cell hb h3,bl_cell hb h4,bl_cell hb h5,bl_cell hb h6,bl_cell hb h7,bl_cell hb h8,bl_cell hb h9,bl_cell hb h10,bl_cell hb h11,bl_cell hb h12,res_bl hr' hb,bl_then hB' hb⟩)));clear hHeld hK K;rename _=>hHeld;try simp only[Act.put,List.setIfInBounds_toArray,List.set_cons_zero,List.set_cons_succ])
  have hlk:=HLK.out _ _ _ _ hA
  clear HLK
  generalize actF q1 q2 ak=fv at hlk
  (refine callC (i:=3) rfl (fun K hK=>?_);go_simp;refine hK.out _ _ ?_ (fun hHeld'=>?_);(focus((try dsimp only);exact hHeld));clear hHeld hK K;rename _=>hHeld;clear hlk;try simp only[Act.put,List.setIfInBounds_toArray,List.set_cons_zero,List.set_cons_succ])
  refine tkx 4 ?_
  refine tkx 5 ?_
  refine tkx 6 ?_
  refine tkx 7 ?_
  refine tkx 8 ?_
  refine wpAnyH_done (by kernel_rfl) ?_ _
  clear hR hB c0 c1 c2 c3 c4 c5 c6 c7 c8 c9 c10 c11 c12
  obtain⟨c0,c1,c2,c3,c4,c5,c6,c7,c8,c9,c10,c11,c12,hR,hB⟩:=hHeld
  go_wp2_with fail
  refine(HRT.out _).mono ?_
  rintro e w2 ⟨rfl,hb2⟩
  have d0:=bl_cell hb2 c0
  have d1:=bl_cell hb2 c1
  have d2:=bl_cell hb2 c2
  have d3:=bl_cell hb2 c3
  have d4:=bl_cell hb2 c4
  have d5:=bl_cell hb2 c5
  have d6:=bl_cell hb2 c6
  have d7:=bl_cell hb2 c7
  have d8:=bl_cell hb2 c8
  have d9:=bl_cell hb2 c9
  have d10:=bl_cell hb2 c10
  have d11:=bl_cell hb2 c11
  have d12:=bl_cell hb2 c12
  have dR:=res_bl hR hb2
  have dB:=bl_then hB hb2
  obtain⟨F0,F1,F2,F3,U0,U1,U2,U3,I0,I1,I2,I3⟩:=res_all dR
  clear hR hB hA hb2 dR HRT c0 c1 c2 c3 c4 c5 c6 c7 c8 c9 c10 c11 c12
  go_wp2_with fail
  (try simp only[Exit.inBlock,Exit.then])
  refine bodyPost_ret (results_state2 rfl _ _ (by rfl) (set4 _ _ _ _ I0 I1 I2 I3)) rfl ⟨by first|rfl|simp,bl4 dB (by omega)⟩

theorem bdo_less (p:Pol) (s:St) (a:Option Addr) (n c:Nat) (hn:s.log.length=n) (ak anow acost:Int) (w:World) (h:rightB p s) (hk:(ak=1∨ak=2∨ak=3∨ak=4)) (hc:acost<1) :
    Calls Tryz.prog 124 #[p.v,s.v a n c,.agg #[.int .i64 ak,.int .i64 anow,.int .i64 acost]] w fun e w' =>
      e=.returned (.tuple #[s.v a n c,.bool false])∧Below w.heap.size w w':=by
  have hrt:=bright_any p s a n c hn
  rw[decide_eq_true h] at hrt
  have hkk:=decide_eq_true hk
  have HLK:=Go.Lib.hid (fun(W:World) (r q1 q2:Nat) (hA:ActsAt W r q1 q2)=>acts_look hA ak)
  clear h hn
  rw[hkk] at HLK
  clear hk hkk
  obtain⟨k,l,d,b,cc,o⟩:=p
  obtain⟨at_,level,held,lg⟩:=s
  unfold St.v Pol.v at *
  dsimp only at *
  have HRT:=Go.Lib.hid hrt
  clear hrt
  go_enter Tryz.func124,Tryz.ntmps124
  go_wp2_with fail
  refine wp_abs (S0:=fun w'=>P6 w' (w.heap.size) k l d b cc o (S4 w' (w.heap.size+1) at_ level held a n c (X3 w' (w.heap.size+1+1) ak anow acost (ResB w' (w.heap.size+1+1+1)∧Below w.heap.size w w')))) ⟨by go_simp,by go_simp,by go_simp,by go_simp,by go_simp,by go_simp,by go_simp,by go_simp,by go_simp,by go_simp,by go_simp,by go_simp,by go_simp,res_new _ _ _ _ _ _ (by simp),k4⟩ ?_
  rintro W ⟨c0,c1,c2,c3,c4,c5,c6,c7,c8,c9,c10,c11,c12,hR,hB⟩
  refine wp_region_held_drew (S:=fun w'=>P6 w' (w.heap.size) k l d b cc o (S4 w' (w.heap.size+1) at_ level held a n c (X3 w' (w.heap.size+1+1) ak anow acost (ResB w' (w.heap.size+1+1+1)∧Below w.heap.size w w')))) (by kernel_rfl) ?_ (fun hHeld=>?_)
  · exact⟨c0,c1,c2,c3,c4,c5,c6,c7,c8,c9,c10,c11,c12,hR,bl_drew hB⟩
  try simp only[Act.put,List.setIfInBounds_toArray,List.set_cons_zero,List.set_cons_succ]
  refine tkx 1 ?_
  refine tkx 2 ?_
  (refine callC (i:=0) rfl (fun K hK=>?_);go_simp;refine(acts_any _).mono ?_;rintro e w1 ⟨rfl,hA,hb⟩;generalize W.drew.heap.size+1+1=qr at *;generalize W.drew.heap.size+1=q2 at *;generalize W.drew.heap.size=q1 at hA;go_wp2_with fail;refine hK.out _ _ ?_ (fun hHeld'=>?_);(focus((try dsimp only);(obtain⟨h0,h1,h2,h3,h4,h5,h6,h7,h8,h9,h10,h11,h12,hr',hB'⟩:=hHeld;exact⟨bl_cell hb h0,bl_cell hb h1,bl_cell hb h2,bl_cell hb h3,bl_cell hb h4,bl_cell hb h5,bl_cell hb h6,bl_cell hb h7,bl_cell hb h8,bl_cell hb h9,bl_cell hb h10,bl_cell hb h11,bl_cell hb h12,res_bl hr' hb,bl_then hB' hb⟩)));clear hHeld hK K;rename _=>hHeld;try simp only[Act.put,List.setIfInBounds_toArray,List.set_cons_zero,List.set_cons_succ])
  have hlk:=HLK.out _ _ _ _ hA
  clear HLK
  generalize actF q1 q2 ak=fv at hlk
  (refine callC (i:=3) rfl (fun K hK=>?_);go_simp;refine hK.out _ _ ?_ (fun hHeld'=>?_);(focus((try dsimp only);exact hHeld));clear hHeld hK K;rename _=>hHeld;clear hlk;try simp only[Act.put,List.setIfInBounds_toArray,List.set_cons_zero,List.set_cons_succ])
  refine tkx 4 ?_
  refine tkx 5 ?_
  refine tkx 6 ?_
  refine tkx 7 ?_
  refine tkx 8 ?_
  refine wpAnyH_done (by kernel_rfl) ?_ _
  clear hR hB c0 c1 c2 c3 c4 c5 c6 c7 c8 c9 c10 c11 c12
  obtain⟨c0,c1,c2,c3,c4,c5,c6,c7,c8,c9,c10,c11,c12,hR,hB⟩:=hHeld
  go_wp2_with fail
  refine(HRT.out _).mono ?_
  rintro e w2 ⟨rfl,hb2⟩
  have d0:=bl_cell hb2 c0
  have d1:=bl_cell hb2 c1
  have d2:=bl_cell hb2 c2
  have d3:=bl_cell hb2 c3
  have d4:=bl_cell hb2 c4
  have d5:=bl_cell hb2 c5
  have d6:=bl_cell hb2 c6
  have d7:=bl_cell hb2 c7
  have d8:=bl_cell hb2 c8
  have d9:=bl_cell hb2 c9
  have d10:=bl_cell hb2 c10
  have d11:=bl_cell hb2 c11
  have d12:=bl_cell hb2 c12
  have dR:=res_bl hR hb2
  have dB:=bl_then hB hb2
  obtain⟨F0,F1,F2,F3,U0,U1,U2,U3,I0,I1,I2,I3⟩:=res_all dR
  clear hR hB hA hb2 dR HRT c0 c1 c2 c3 c4 c5 c6 c7 c8 c9 c10 c11 c12
  go_wp2_with fail
  (try simp only[Exit.inBlock,Exit.then])
  refine bodyPost_ret (results_state2 rfl _ _ (by rfl) (set4 _ _ _ _ I0 I1 I2 I3)) rfl ⟨by first|rfl|simp,bl4 dB (by omega)⟩

theorem bdo_more (p:Pol) (s:St) (a:Option Addr) (n c:Nat) (hn:s.log.length=n) (ak anow acost:Int) (w:World) (h:rightB p s) (hk:(ak=1∨ak=2∨ak=3∨ak=4)) (hc0:¬ acost<1) (hc:p.burst<acost) :
    Calls Tryz.prog 124 #[p.v,s.v a n c,.agg #[.int .i64 ak,.int .i64 anow,.int .i64 acost]] w fun e w' =>
      e=.returned (.tuple #[s.v a n c,.bool false])∧Below w.heap.size w w':=by
  have hrt:=bright_any p s a n c hn
  rw[decide_eq_true h] at hrt
  have hkk:=decide_eq_true hk
  have HLK:=Go.Lib.hid (fun(W:World) (r q1 q2:Nat) (hA:ActsAt W r q1 q2)=>acts_look hA ak)
  clear h hn
  rw[hkk] at HLK
  clear hk hkk
  obtain⟨k,l,d,b,cc,o⟩:=p
  obtain⟨at_,level,held,lg⟩:=s
  unfold St.v Pol.v at *
  dsimp only at *
  have HRT:=Go.Lib.hid hrt
  clear hrt
  go_enter Tryz.func124,Tryz.ntmps124
  go_wp2_with fail
  refine wp_abs (S0:=fun w'=>P6 w' (w.heap.size) k l d b cc o (S4 w' (w.heap.size+1) at_ level held a n c (X3 w' (w.heap.size+1+1) ak anow acost (ResB w' (w.heap.size+1+1+1)∧Below w.heap.size w w')))) ⟨by go_simp,by go_simp,by go_simp,by go_simp,by go_simp,by go_simp,by go_simp,by go_simp,by go_simp,by go_simp,by go_simp,by go_simp,by go_simp,res_new _ _ _ _ _ _ (by simp),k4⟩ ?_
  rintro W ⟨c0,c1,c2,c3,c4,c5,c6,c7,c8,c9,c10,c11,c12,hR,hB⟩
  refine wp_region_held_drew (S:=fun w'=>P6 w' (w.heap.size) k l d b cc o (S4 w' (w.heap.size+1) at_ level held a n c (X3 w' (w.heap.size+1+1) ak anow acost (ResB w' (w.heap.size+1+1+1)∧Below w.heap.size w w')))) (by kernel_rfl) ?_ (fun hHeld=>?_)
  · exact⟨c0,c1,c2,c3,c4,c5,c6,c7,c8,c9,c10,c11,c12,hR,bl_drew hB⟩
  try simp only[Act.put,List.setIfInBounds_toArray,List.set_cons_zero,List.set_cons_succ]
  refine tkx 1 ?_
  refine tkx 2 ?_
  (refine callC (i:=0) rfl (fun K hK=>?_);go_simp;refine(acts_any _).mono ?_;rintro e w1 ⟨rfl,hA,hb⟩;generalize W.drew.heap.size+1+1=qr at *;generalize W.drew.heap.size+1=q2 at *;generalize W.drew.heap.size=q1 at hA;go_wp2_with fail;refine hK.out _ _ ?_ (fun hHeld'=>?_);(focus((try dsimp only);(obtain⟨h0,h1,h2,h3,h4,h5,h6,h7,h8,h9,h10,h11,h12,hr',hB'⟩:=hHeld;exact⟨bl_cell hb h0,bl_cell hb h1,bl_cell hb h2,bl_cell hb h3,bl_cell hb h4,bl_cell hb h5,bl_cell hb h6,bl_cell hb h7,bl_cell hb h8,bl_cell hb h9,bl_cell hb h10,bl_cell hb h11,bl_cell hb h12,res_bl hr' hb,bl_then hB' hb⟩)));clear hHeld hK K;rename _=>hHeld;try simp only[Act.put,List.setIfInBounds_toArray,List.set_cons_zero,List.set_cons_succ])
  have hlk:=HLK.out _ _ _ _ hA
  clear HLK
  generalize actF q1 q2 ak=fv at hlk
  (refine callC (i:=3) rfl (fun K hK=>?_);go_simp;refine hK.out _ _ ?_ (fun hHeld'=>?_);(focus((try dsimp only);exact hHeld));clear hHeld hK K;rename _=>hHeld;clear hlk;try simp only[Act.put,List.setIfInBounds_toArray,List.set_cons_zero,List.set_cons_succ])
  refine tkx 4 ?_
  refine tkx 5 ?_
  refine tkx 6 ?_
  refine tkx 7 ?_
  refine tkx 8 ?_
  refine wpAnyH_done (by kernel_rfl) ?_ _
  clear hR hB c0 c1 c2 c3 c4 c5 c6 c7 c8 c9 c10 c11 c12
  obtain⟨c0,c1,c2,c3,c4,c5,c6,c7,c8,c9,c10,c11,c12,hR,hB⟩:=hHeld
  go_wp2_with fail
  refine(HRT.out _).mono ?_
  rintro e w2 ⟨rfl,hb2⟩
  have d0:=bl_cell hb2 c0
  have d1:=bl_cell hb2 c1
  have d2:=bl_cell hb2 c2
  have d3:=bl_cell hb2 c3
  have d4:=bl_cell hb2 c4
  have d5:=bl_cell hb2 c5
  have d6:=bl_cell hb2 c6
  have d7:=bl_cell hb2 c7
  have d8:=bl_cell hb2 c8
  have d9:=bl_cell hb2 c9
  have d10:=bl_cell hb2 c10
  have d11:=bl_cell hb2 c11
  have d12:=bl_cell hb2 c12
  have dR:=res_bl hR hb2
  have dB:=bl_then hB hb2
  obtain⟨F0,F1,F2,F3,U0,U1,U2,U3,I0,I1,I2,I3⟩:=res_all dR
  clear hR hB hA hb2 dR HRT c0 c1 c2 c3 c4 c5 c6 c7 c8 c9 c10 c11 c12
  go_wp2_with fail
  (try simp only[Exit.inBlock,Exit.then])
  refine bodyPost_ret (results_state2 rfl _ _ (by rfl) (set4 _ _ _ _ I0 I1 I2 I3)) rfl ⟨by first|rfl|simp,bl4 dB (by omega)⟩
end Go.Proofs.YtmhikkbdhboodaaGreat
