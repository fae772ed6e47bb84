/-
  What window.Do answers where the state may be.
  What window.Do answers where the state may be.
  What each policy's Do answers: one contract each, by the plain reckoning.
  What gcra.Do, counter.Do and window.Do answer: one contract each.
  What limiter.of answers; limiter.Check.
  What limiter.Check answers.
  What limiter.Check answers.
  What a kernel's methods answer, whatever function stands in it: do, start, room.
  What bucket.New answers.
  What gcra.New answers.
  What counter.New answers.
  No condition.
-/
import Derived.Test.YtmhikkbdhboodaaGreatZz1
import Derived.Test.YtmhikkbdhboodaaGreatZz2
import Derived.Test.YtmhikkbdhboodaaGreatZz3
import Derived.Test.YtmhikkbdhboodaaGreatZz4
import Derived.Laws.EntriesVeiled
import Derived.WideLaws
set_option maxHeartbeats 8000000
set_option maxRecDepth 100000
namespace Go.Proofs.YtmhikkbdhboodaaGreat
open Go.RowKit
set_option linter.unusedVariables false
set_option linter.unusedSimpArgs false

theorem wdo_take (p:Pol) (s:St) (a:Option Addr) (n c:Nat) (anow acost:Int) (A:St) (w:World) (h:rightL p s) (hlog:LogAt w a n c s.log) (hA:A=advL p s anow) (e1:1≤acost) (e2:acost≤p.limit - s.held - sumL A.log) :
    Calls Tryz.prog 108 #[p.v,s.v a n c,.agg #[.int .i64 1,.int .i64 anow,.int .i64 acost]] w fun e w'=>StOwn2 (noted p A acost,true) w.heap.size e w'∧Below w.heap.size w w':=by
  have hrt:=fun W hW=>wright_any p s a n c W hW
  rw[decide_eq_true h] at hrt
  have hav:=fun a1 c1 W hW=>wadv_any p s a1 n c1 anow W hW
  have hall:=risen_all h.2.2.2.2.2.2.1
  have hsub:=live_sub p.period (up s.at_ (clampT anow)) s.log
  have hssum:=live_sum p.period (up s.at_ (clampT anow)) s.log (fun e he=>by have:=(hall e he).1;omega)
  have hAe:A.log=live p.period (up s.at_ (clampT anow)) s.log∧A.level=0∧A.held=s.held:=by rw[hA];unfold advL;rw[if_pos h];exact⟨rfl,rfl,rfl⟩
  rw[← hA] at hav
  rw[← hAe.1] at hsub hssum
  obtain⟨⟨q0,q1,q2,q3,q4,q5,q6,q7⟩,r1,r2,r3,r4,r5,r6,r7,r8⟩:=h
  have hlen:=hlog.1
  have hsb:=sumL_bound A.log 1048576 (fun e he=>by have:=hall e (hsub.1 e he);omega)
  have hn1:n≤100:=by omega
  have hent:∀ e ∈ A.log,0≤e.2∧e.2≤1048576:=fun e he=>by have:=hall e (hsub.1 e he);omega
  have hw1:IntKind.i64.wrap (p.limit - s.held)=p.limit - s.held:=IntWalk.i64_in _ (by omega)
  have hw2:IntKind.i64.wrap (p.limit - s.held - sumL A.log)=p.limit - s.held - sumL A.log:=IntWalk.i64_in _ (by omega)
  have hcost:0≤acost∧acost≤1048576:=by omega
  have hsum:=fun a2 m2 c2 W (hW:LogAt W a2 m2 c2 A.log)=>sum_any a2 m2 c2 A.log W hW (by have:=hW.1;have:=hsub.2;omega) hent
  have HX:=Go.Lib.hid (And.intro hn1 (And.intro hent (And.intro hsub.2 hlen)))
  clear hall hsb hsub hssum hent hA r1 r2 r3 r4 r6 r7 r8 q0 q1 q2 q3 q4 q5 q6 q7
  obtain⟨k,l,d,b,cc,o⟩:=p
  obtain⟨at_,level,held,L⟩:=s
  obtain⟨aat,alv,ahd,L2⟩:=A
  obtain⟨-,hz1,hz2⟩:=hAe
  unfold St.v Pol.v at *
  dsimp only at *
  subst hz1 hz2 r5
  have HRT:=Go.Lib.hid hrt
  have HAV:=Go.Lib.hid hav
  have HSM:=Go.Lib.hid hsum
  have HLOG:=Go.Lib.hid hlog
  clear hrt hav hsum hlog hlen hn1
  generalize hS2:sumL L2=S2 at *
  clear hS2
  have hnote:=fun a2 m2 c2 base W (hb0:base≤W.heap.size) (hW:OwnLog W base (.slice a2 m2 c2) m2 L2)=>note_any ⟨k,l,d,b,cc,o⟩ ⟨aat,0,ahd,L2⟩ a2 m2 c2 acost base W hb0 hW (by have h1:=hW.1;have h2:=HX.out.1;have h3:=HX.out.2.2.1;have h4:=HX.out.2.2.2;rw[cellsL_len] at h1;omega) HX.out.2.1 hcost
  unfold St.v Pol.v at hnote
  dsimp only at hnote
  have HNT:=Go.Lib.hid hnote
  clear hnote
  go_enter Tryz.func108,Tryz.ntmps108
  go_wp2_with fail
  refine(HRT.out _ (log_bl HLOG.out k4)).mono ?_
  rintro e w1 ⟨rfl,hb⟩
  have hB:Below w.heap.size w w1:=bl_then k4 hb
  obtain⟨c0,c1,c2,c3,c4,c5⟩:=b6 (w.heap.size) k l d b cc o hb
  have c6:=bl_cell (v:=.int .i64 at_) hb (show World.cell? _ ⟨w.heap.size+1,0,none⟩=_ by go_simp)
  have c7:=bl_cell (v:=.int .i64 0) hb (show World.cell? _ ⟨w.heap.size+1,1,none⟩=_ by go_simp)
  have c8:=bl_cell (v:=.int .i64 ahd) hb (show World.cell? _ ⟨w.heap.size+1,2,none⟩=_ by go_simp)
  have c9:=bl_cell (v:=.slice a n c) hb (show World.cell? _ ⟨w.heap.size+1,3,none⟩=_ by go_simp)
  obtain⟨c10,c11,c12⟩:=b3 (w.heap.size+1+1) 1 anow acost hb
  have hR:ResB w1 (w.heap.size+1+1+1):=res_bl (res_new _ _ _ _ _ _ (by simp)) hb
  have hQ:ResB w1 (w.heap.size+1):=res_bl (res_bl (res_new (w.alloc _) _ _ _ _ _ (by simp)) k2) hb
  have hlg1:=log_bl HLOG.out hB
  clear hb HRT HLOG
  go_wp2_with fail
  refine(clone_all _ _ _ _ _ hlg1 (by have:=HX.out.1;omega)).mono ?_
  rintro e w2 ⟨v1,rfl,hown1,hb⟩
  obtain⟨a1,cp1,rfl,hlog1⟩:=own_log hown1
  have d0:=bl_cell hb c0
  have d1:=bl_cell hb c1
  have d2:=bl_cell hb c2
  have d3:=bl_cell hb c3
  have d4:=bl_cell hb c4
  have d5:=bl_cell hb c5
  have d6:=bl_cell hb c6
  have d7:=bl_cell hb c7
  have d8:=bl_cell hb c8
  have d9:=bl_cell hb c9
  have d10:=bl_cell hb c10
  have d11:=bl_cell hb c11
  have d12:=bl_cell hb c12
  have dR:=res_bl hR hb
  have dQ:=res_bl hQ hb
  have dB:=bl_then hB hb
  have hlt1:=res_lt hR
  have fz:=(dQ 3 (by omega)).1
  clear hR hQ hB hb hlg1 c0 c1 c2 c3 c4 c5 c6 c7 c8 c9 c10 c11 c12
  go_wp2_with fail
  have hown1':=own_far hown1 ⟨w.heap.size+1,3,none⟩ (.slice a1 n cp1) (own_above hown1 (by dsimp only;omega))
  refine(HAV.out _ _ _ (own_at hown1')).mono ?_
  rintro e w3 ⟨⟨v2,m2,rfl,hown2⟩,hb⟩
  obtain⟨a2,cp2,rfl,hlog2⟩:=own_log hown2
  have c0:=bl_cell hb (far_set d0 ⟨w.heap.size+1,3,none⟩ (.slice a1 n cp1) (by dsimp only;omega))
  have c1:=bl_cell hb (far_set d1 ⟨w.heap.size+1,3,none⟩ (.slice a1 n cp1) (by dsimp only;omega))
  have c2:=bl_cell hb (far_set d2 ⟨w.heap.size+1,3,none⟩ (.slice a1 n cp1) (by dsimp only;omega))
  have c3:=bl_cell hb (far_set d3 ⟨w.heap.size+1,3,none⟩ (.slice a1 n cp1) (by dsimp only;omega))
  have c4:=bl_cell hb (far_set d4 ⟨w.heap.size+1,3,none⟩ (.slice a1 n cp1) (by dsimp only;omega))
  have c5:=bl_cell hb (far_set d5 ⟨w.heap.size+1,3,none⟩ (.slice a1 n cp1) (by dsimp only;omega))
  have c6:=bl_cell hb (set_other (a:=⟨w.heap.size+1,3,none⟩) d6 (.slice a1 n cp1) (by simp))
  have c7:=bl_cell hb (set_other (a:=⟨w.heap.size+1,3,none⟩) d7 (.slice a1 n cp1) (by simp))
  have c8:=bl_cell hb (set_other (a:=⟨w.heap.size+1,3,none⟩) d8 (.slice a1 n cp1) (by simp))
  have c9:w3.cell? ⟨w.heap.size+1,3,none⟩=some (.slice a1 n cp1):=bl_cell hb (World.cell?_setCell_same' _ _ _ (by rw[d9];rfl))
  have c10:=bl_cell hb (far_set d10 ⟨w.heap.size+1,3,none⟩ (.slice a1 n cp1) (by dsimp only;omega))
  have c11:=bl_cell hb (far_set d11 ⟨w.heap.size+1,3,none⟩ (.slice a1 n cp1) (by dsimp only;omega))
  have c12:=bl_cell hb (far_set d12 ⟨w.heap.size+1,3,none⟩ (.slice a1 n cp1) (by dsimp only;omega))
  have hR:=res_bl (res_set dR ⟨w.heap.size+1,3,none⟩ (.slice a1 n cp1)) hb
  have hB:=bl_then (bl_set dB (a:=⟨w.heap.size+1,3,none⟩) (by dsimp only;omega) (.slice a1 n cp1)) hb
  have hO1:=own_bl hown1' hb
  have hlt2:=res_lt (res_set dR ⟨w.heap.size+1,3,none⟩ (.slice a1 n cp1))
  have hle3:=hb.size
  have HV2:=Go.Lib.hid (World.ownsRow.lt hown2)
  have hle1:=hlt1
  generalize (w2.setCell ⟨w.heap.size+1,3,none⟩ (.slice a1 n cp1)).heap.size=base2 at *
  clear hb dR dQ dB hown1 hown1' hlog1 hlog2 HAV d0 d1 d2 d3 d4 d5 d6 d7 d8 d9 d10 d11 d12
  dsimp only
  go_wp2_with fail
  refine wp_abs (S0:=fun X=>P6 X (w.heap.size) k l d b cc o (S4 X (w.heap.size+1) at_ 0 ahd a1 n cp1 (X3 X (w.heap.size+1+1) 1 anow acost (S4 X (w3.heap.size) aat 0 ahd a2 m2 cp2 (ResB X (w.heap.size+1+1+1)∧ResB X w3.heap.size∧OwnLog X w1.heap.size (.slice a1 n cp1) n L∧OwnLog X base2 (.slice a2 m2 cp2) m2 L2∧Below w.heap.size w X))))) ⟨bl_cell k1 c0,bl_cell k1 c1,bl_cell k1 c2,bl_cell k1 c3,bl_cell k1 c4,bl_cell k1 c5,bl_cell k1 c6,bl_cell k1 c7,bl_cell k1 c8,bl_cell k1 c9,bl_cell k1 c10,bl_cell k1 c11,bl_cell k1 c12,by go_simp,by go_simp,by go_simp,by go_simp,res_bl hR k1,res_new _ _ _ _ _ _ rfl,World.ownsRow.alloc hO1 _,World.ownsRow.alloc hown2 _,bl_alloc hB _⟩ ?_
  clear hR hO1 hown2 hB c0 c1 c2 c3 c4 c5 c6 c7 c8 c9 c10 c11 c12
  generalize w3.heap.size=nb at *
  rintro X ⟨c0,c1,c2,c3,c4,c5,c6,c7,c8,c9,c10,c11,c12,x0,x1,x2,x3,hR,hN,hO1,hO2,hB⟩
  refine wp_region_held_drew (S:=fun w'=>P6 w' (w.heap.size) k l d b cc o (S4 w' (w.heap.size+1) at_ 0 ahd a1 n cp1 (X3 w' (w.heap.size+1+1) 1 anow acost (S4 w' nb aat 0 ahd a2 m2 cp2 (ResB w' (w.heap.size+1+1+1)∧ResB w' nb∧OwnLog w' w1.heap.size (.slice a1 n cp1) n L∧OwnLog w' base2 (.slice a2 m2 cp2) m2 L2∧Below w.heap.size w w'))))) (by kernel_rfl) ?_ (fun hHeld=>?_)
  · exact⟨c0,c1,c2,c3,c4,c5,c6,c7,c8,c9,c10,c11,c12,x0,x1,x2,x3,hR,hN,hO1,hO2,bl_drew hB⟩
  try simp only[Act.put,List.setIfInBounds_toArray,List.set_cons_zero,List.set_cons_succ]
  refine tkx 0 ?_
  refine tkx 1 ?_
  refine tkx 2 ?_
  refine tkx 3 ?_
  refine tkx 4 ?_
  refine tkx 5 ?_
  refine tkx 6 ?_
  (refine callH (i:=7) rfl hHeld (fun W hW K hK=>?_);clear hHeld;(try dsimp only at hW);obtain⟨h0,h1,h2,h3,h4,h5,h6,h7,h8,h9,h10,h11,h12,y0,y1,y2,y3,hr',hn',ho1',ho2',hB'⟩:=hW;go_simp;refine(HSM.out _ _ _ _ (own_at ho2')).mono ?_;rintro e w9 ⟨rfl,hb⟩;go_wp2_with fail;refine hK.out _ _ ?_ (fun hHeld=>?_);(focus((try dsimp only);exact⟨bl_cell hb h0,bl_cell hb h1,bl_cell hb h2,bl_cell hb h3,bl_cell hb h4,bl_cell hb h5,bl_cell hb h6,bl_cell hb h7,bl_cell hb h8,bl_cell hb h9,bl_cell hb h10,bl_cell hb h11,bl_cell hb h12,bl_cell hb y0,bl_cell hb y1,bl_cell hb y2,bl_cell hb y3,res_bl hr' hb,res_bl hn' hb,own_bl ho1' hb,own_bl ho2' hb,bl_then hB' hb⟩));clear hK K;try simp only[Act.put,List.setIfInBounds_toArray,List.set_cons_zero,List.set_cons_succ])
  refine tkx 8 ?_
  refine tkx 9 ?_
  refine wpAnyH_done (by kernel_rfl) ?_ _
  refine then_abs (F:=fun X=>P6 X (w.heap.size) k l d b cc o (S4 X (w.heap.size+1) at_ 0 ahd a1 n cp1 (X3 X (w.heap.size+1+1) 1 anow acost (S4 X nb aat 0 ahd a2 m2 cp2 (ResB X (w.heap.size+1+1+1)∧ResB X nb∧OwnLog X w1.heap.size (.slice a1 n cp1) n L∧OwnLog X base2 (.slice a2 m2 cp2) m2 L2∧Below w.heap.size w X))))) hHeld ?_
  clear hHeld hR hN hO1 hO2 hB c0 c1 c2 c3 c4 c5 c6 c7 c8 c9 c10 c11 c12 x0 x1 x2 x3
  rintro Y ⟨c0,c1,c2,c3,c4,c5,c6,c7,c8,c9,c10,c11,c12,x0,x1,x2,x3,hR,hN,hO1,hO2,hE⟩
  obtain⟨F0,F1,F2,F3,U0,U1,U2,U3,I0,I1,I2,I3⟩:=res_all hR
  have hz2:=(hN 2 (by omega)).1
  have n0:¬ nb=w.heap.size:=by omega
  have m0':¬ w.heap.size=nb:=by omega
  have n1:¬ nb=w.heap.size+1:=by omega
  have m1':¬ w.heap.size+1=nb:=by omega
  have n2:¬ nb=w.heap.size+1+1:=by omega
  have m2':¬ w.heap.size+1+1=nb:=by omega
  have n3:¬ nb=w.heap.size+1+1+1:=by omega
  have m3':¬ w.heap.size+1+1+1=nb:=by omega
  go_wp2_with fail
  refine(HNT.out _ _ _ base2 _ (by have:=res_lt hN;omega) hO2).mono ?_
  rintro e w6 ⟨v6,m6,rfl,hown6,hb6⟩
  obtain⟨a6,cp6,rfl,-⟩:=own_log hown6
  have hR6:=res_blB hR hb6 (by omega)
  have hE6:Below w.heap.size w w6:=(hE).trans (hb6.mono (by omega))
  obtain⟨G0,G1,G2,G3,V0,V1,V2,V3,J0,J1,J2,J3⟩:=res_all hR6
  dsimp only
  go_wp2_with fail
  (try simp only[Exit.inBlock,Exit.then])
  refine bodyPost_ret (results_state2 rfl _ _ (by rfl) (set4r hR6)) rfl ⟨⟨_,_,by first|rfl|simp,own_mono (own_far4 hown6 (own_above hown6 (by omega))) (by omega)⟩,bl4 hE6 (by omega)⟩

theorem wdo_hold (p:Pol) (s:St) (a:Option Addr) (n c:Nat) (anow acost:Int) (A:St) (w:World) (h:rightL p s) (hlog:LogAt w a n c s.log) (hA:A=advL p s anow) (e1:1≤acost) (e2:acost≤p.limit - s.held - sumL A.log) :
    Calls Tryz.prog 108 #[p.v,s.v a n c,.agg #[.int .i64 2,.int .i64 anow,.int .i64 acost]] w fun e w'=>StOwn2 ({ A with held:=s.held+acost },true) w.heap.size e w'∧Below w.heap.size w w':=by
  have hrt:=fun W hW=>wright_any p s a n c W hW
  rw[decide_eq_true h] at hrt
  have hav:=fun a1 c1 W hW=>wadv_any p s a1 n c1 anow W hW
  have hall:=risen_all h.2.2.2.2.2.2.1
  have hsub:=live_sub p.period (up s.at_ (clampT anow)) s.log
  have hssum:=live_sum p.period (up s.at_ (clampT anow)) s.log (fun e he=>by have:=(hall e he).1;omega)
  have hAe:A.log=live p.period (up s.at_ (clampT anow)) s.log∧A.level=0∧A.held=s.held:=by rw[hA];unfold advL;rw[if_pos h];exact⟨rfl,rfl,rfl⟩
  rw[← hA] at hav
  rw[← hAe.1] at hsub hssum
  obtain⟨⟨q0,q1,q2,q3,q4,q5,q6,q7⟩,r1,r2,r3,r4,r5,r6,r7,r8⟩:=h
  have hlen:=hlog.1
  have hsb:=sumL_bound A.log 1048576 (fun e he=>by have:=hall e (hsub.1 e he);omega)
  have hn1:n≤100:=by omega
  have hent:∀ e ∈ A.log,0≤e.2∧e.2≤1048576:=fun e he=>by have:=hall e (hsub.1 e he);omega
  have hw1:IntKind.i64.wrap (p.limit - s.held)=p.limit - s.held:=IntWalk.i64_in _ (by omega)
  have hw2:IntKind.i64.wrap (p.limit - s.held - sumL A.log)=p.limit - s.held - sumL A.log:=IntWalk.i64_in _ (by omega)
  have hw3:IntKind.i64.wrap (s.held+acost)=s.held+acost:=IntWalk.i64_in _ (by omega)
  have hsum:=fun a2 m2 c2 W (hW:LogAt W a2 m2 c2 A.log)=>sum_any a2 m2 c2 A.log W hW (by have:=hW.1;have:=hsub.2;omega) hent
  have HX:=Go.Lib.hid (And.intro hn1 (And.intro hent (And.intro hsub.2 hlen)))
  clear hall hsb hsub hssum hent hA r1 r2 r3 r4 r6 r7 r8 q0 q1 q2 q3 q4 q5 q6 q7
  obtain⟨k,l,d,b,cc,o⟩:=p
  obtain⟨at_,level,held,L⟩:=s
  obtain⟨aat,alv,ahd,L2⟩:=A
  obtain⟨-,hz1,hz2⟩:=hAe
  unfold St.v Pol.v at *
  dsimp only at *
  subst hz1 hz2 r5
  have HRT:=Go.Lib.hid hrt
  have HAV:=Go.Lib.hid hav
  have HSM:=Go.Lib.hid hsum
  have HLOG:=Go.Lib.hid hlog
  clear hrt hav hsum hlog hlen hn1
  generalize hS2:sumL L2=S2 at *
  clear hS2
  go_enter Tryz.func108,Tryz.ntmps108
  go_wp2_with fail
  refine(HRT.out _ (log_bl HLOG.out k4)).mono ?_
  rintro e w1 ⟨rfl,hb⟩
  have hB:Below w.heap.size w w1:=bl_then k4 hb
  obtain⟨c0,c1,c2,c3,c4,c5⟩:=b6 (w.heap.size) k l d b cc o hb
  have c6:=bl_cell (v:=.int .i64 at_) hb (show World.cell? _ ⟨w.heap.size+1,0,none⟩=_ by go_simp)
  have c7:=bl_cell (v:=.int .i64 0) hb (show World.cell? _ ⟨w.heap.size+1,1,none⟩=_ by go_simp)
  have c8:=bl_cell (v:=.int .i64 ahd) hb (show World.cell? _ ⟨w.heap.size+1,2,none⟩=_ by go_simp)
  have c9:=bl_cell (v:=.slice a n c) hb (show World.cell? _ ⟨w.heap.size+1,3,none⟩=_ by go_simp)
  obtain⟨c10,c11,c12⟩:=b3 (w.heap.size+1+1) 2 anow acost hb
  have hR:ResB w1 (w.heap.size+1+1+1):=res_bl (res_new _ _ _ _ _ _ (by simp)) hb
  have hQ:ResB w1 (w.heap.size+1):=res_bl (res_bl (res_new (w.alloc _) _ _ _ _ _ (by simp)) k2) hb
  have hlg1:=log_bl HLOG.out hB
  clear hb HRT HLOG
  go_wp2_with fail
  refine(clone_all _ _ _ _ _ hlg1 (by have:=HX.out.1;omega)).mono ?_
  rintro e w2 ⟨v1,rfl,hown1,hb⟩
  obtain⟨a1,cp1,rfl,hlog1⟩:=own_log hown1
  have d0:=bl_cell hb c0
  have d1:=bl_cell hb c1
  have d2:=bl_cell hb c2
  have d3:=bl_cell hb c3
  have d4:=bl_cell hb c4
  have d5:=bl_cell hb c5
  have d6:=bl_cell hb c6
  have d7:=bl_cell hb c7
  have d8:=bl_cell hb c8
  have d9:=bl_cell hb c9
  have d10:=bl_cell hb c10
  have d11:=bl_cell hb c11
  have d12:=bl_cell hb c12
  have dR:=res_bl hR hb
  have dQ:=res_bl hQ hb
  have dB:=bl_then hB hb
  have hlt1:=res_lt hR
  have fz:=(dQ 3 (by omega)).1
  clear hR hQ hB hb hlg1 c0 c1 c2 c3 c4 c5 c6 c7 c8 c9 c10 c11 c12
  go_wp2_with fail
  have hown1':=own_far hown1 ⟨w.heap.size+1,3,none⟩ (.slice a1 n cp1) (own_above hown1 (by dsimp only;omega))
  refine(HAV.out _ _ _ (own_at hown1')).mono ?_
  rintro e w3 ⟨⟨v2,m2,rfl,hown2⟩,hb⟩
  obtain⟨a2,cp2,rfl,hlog2⟩:=own_log hown2
  have c0:=bl_cell hb (far_set d0 ⟨w.heap.size+1,3,none⟩ (.slice a1 n cp1) (by dsimp only;omega))
  have c1:=bl_cell hb (far_set d1 ⟨w.heap.size+1,3,none⟩ (.slice a1 n cp1) (by dsimp only;omega))
  have c2:=bl_cell hb (far_set d2 ⟨w.heap.size+1,3,none⟩ (.slice a1 n cp1) (by dsimp only;omega))
  have c3:=bl_cell hb (far_set d3 ⟨w.heap.size+1,3,none⟩ (.slice a1 n cp1) (by dsimp only;omega))
  have c4:=bl_cell hb (far_set d4 ⟨w.heap.size+1,3,none⟩ (.slice a1 n cp1) (by dsimp only;omega))
  have c5:=bl_cell hb (far_set d5 ⟨w.heap.size+1,3,none⟩ (.slice a1 n cp1) (by dsimp only;omega))
  have c6:=bl_cell hb (set_other (a:=⟨w.heap.size+1,3,none⟩) d6 (.slice a1 n cp1) (by simp))
  have c7:=bl_cell hb (set_other (a:=⟨w.heap.size+1,3,none⟩) d7 (.slice a1 n cp1) (by simp))
  have c8:=bl_cell hb (set_other (a:=⟨w.heap.size+1,3,none⟩) d8 (.slice a1 n cp1) (by simp))
  have c9:w3.cell? ⟨w.heap.size+1,3,none⟩=some (.slice a1 n cp1):=bl_cell hb (World.cell?_setCell_same' _ _ _ (by rw[d9];rfl))
  have c10:=bl_cell hb (far_set d10 ⟨w.heap.size+1,3,none⟩ (.slice a1 n cp1) (by dsimp only;omega))
  have c11:=bl_cell hb (far_set d11 ⟨w.heap.size+1,3,none⟩ (.slice a1 n cp1) (by dsimp only;omega))
  have c12:=bl_cell hb (far_set d12 ⟨w.heap.size+1,3,none⟩ (.slice a1 n cp1) (by dsimp only;omega))
  have hR:=res_bl (res_set dR ⟨w.heap.size+1,3,none⟩ (.slice a1 n cp1)) hb
  have hB:=bl_then (bl_set dB (a:=⟨w.heap.size+1,3,none⟩) (by dsimp only;omega) (.slice a1 n cp1)) hb
  have hO1:=own_bl hown1' hb
  have hlt2:=res_lt (res_set dR ⟨w.heap.size+1,3,none⟩ (.slice a1 n cp1))
  have hle3:=hb.size
  have HV2:=Go.Lib.hid (World.ownsRow.lt hown2)
  have hle1:=hlt1
  generalize (w2.setCell ⟨w.heap.size+1,3,none⟩ (.slice a1 n cp1)).heap.size=base2 at *
  clear hb dR dQ dB hown1 hown1' hlog1 hlog2 HAV d0 d1 d2 d3 d4 d5 d6 d7 d8 d9 d10 d11 d12
  dsimp only
  go_wp2_with fail
  refine wp_abs (S0:=fun X=>P6 X (w.heap.size) k l d b cc o (S4 X (w.heap.size+1) at_ 0 ahd a1 n cp1 (X3 X (w.heap.size+1+1) 2 anow acost (S4 X (w3.heap.size) aat 0 ahd a2 m2 cp2 (ResB X (w.heap.size+1+1+1)∧ResB X w3.heap.size∧OwnLog X w1.heap.size (.slice a1 n cp1) n L∧OwnLog X base2 (.slice a2 m2 cp2) m2 L2∧Below w.heap.size w X))))) ⟨bl_cell k1 c0,bl_cell k1 c1,bl_cell k1 c2,bl_cell k1 c3,bl_cell k1 c4,bl_cell k1 c5,bl_cell k1 c6,bl_cell k1 c7,bl_cell k1 c8,bl_cell k1 c9,bl_cell k1 c10,bl_cell k1 c11,bl_cell k1 c12,by go_simp,by go_simp,by go_simp,by go_simp,res_bl hR k1,res_new _ _ _ _ _ _ rfl,World.ownsRow.alloc hO1 _,World.ownsRow.alloc hown2 _,bl_alloc hB _⟩ ?_
  clear hR hO1 hown2 hB c0 c1 c2 c3 c4 c5 c6 c7 c8 c9 c10 c11 c12
  generalize w3.heap.size=nb at *
  rintro X ⟨c0,c1,c2,c3,c4,c5,c6,c7,c8,c9,c10,c11,c12,x0,x1,x2,x3,hR,hN,hO1,hO2,hB⟩
  refine wp_region_held_drew (S:=fun w'=>P6 w' (w.heap.size) k l d b cc o (S4 w' (w.heap.size+1) at_ 0 ahd a1 n cp1 (X3 w' (w.heap.size+1+1) 2 anow acost (S4 w' nb aat 0 ahd a2 m2 cp2 (ResB w' (w.heap.size+1+1+1)∧ResB w' nb∧OwnLog w' w1.heap.size (.slice a1 n cp1) n L∧OwnLog w' base2 (.slice a2 m2 cp2) m2 L2∧Below w.heap.size w w'))))) (by kernel_rfl) ?_ (fun hHeld=>?_)
  · exact⟨c0,c1,c2,c3,c4,c5,c6,c7,c8,c9,c10,c11,c12,x0,x1,x2,x3,hR,hN,hO1,hO2,bl_drew hB⟩
  try simp only[Act.put,List.setIfInBounds_toArray,List.set_cons_zero,List.set_cons_succ]
  refine tkx 0 ?_
  refine tkx 1 ?_
  refine tkx 2 ?_
  refine tkx 3 ?_
  refine tkx 4 ?_
  refine tkx 5 ?_
  refine tkx 6 ?_
  (refine callH (i:=7) rfl hHeld (fun W hW K hK=>?_);clear hHeld;(try dsimp only at hW);obtain⟨h0,h1,h2,h3,h4,h5,h6,h7,h8,h9,h10,h11,h12,y0,y1,y2,y3,hr',hn',ho1',ho2',hB'⟩:=hW;go_simp;refine(HSM.out _ _ _ _ (own_at ho2')).mono ?_;rintro e w9 ⟨rfl,hb⟩;go_wp2_with fail;refine hK.out _ _ ?_ (fun hHeld=>?_);(focus((try dsimp only);exact⟨bl_cell hb h0,bl_cell hb h1,bl_cell hb h2,bl_cell hb h3,bl_cell hb h4,bl_cell hb h5,bl_cell hb h6,bl_cell hb h7,bl_cell hb h8,bl_cell hb h9,bl_cell hb h10,bl_cell hb h11,bl_cell hb h12,bl_cell hb y0,bl_cell hb y1,bl_cell hb y2,bl_cell hb y3,res_bl hr' hb,res_bl hn' hb,own_bl ho1' hb,own_bl ho2' hb,bl_then hB' hb⟩));clear hK K;try simp only[Act.put,List.setIfInBounds_toArray,List.set_cons_zero,List.set_cons_succ])
  refine tkx 8 ?_
  refine tkx 9 ?_
  refine wpAnyH_done (by kernel_rfl) ?_ _
  refine then_abs (F:=fun X=>P6 X (w.heap.size) k l d b cc o (S4 X (w.heap.size+1) at_ 0 ahd a1 n cp1 (X3 X (w.heap.size+1+1) 2 anow acost (S4 X nb aat 0 ahd a2 m2 cp2 (ResB X (w.heap.size+1+1+1)∧ResB X nb∧OwnLog X w1.heap.size (.slice a1 n cp1) n L∧OwnLog X base2 (.slice a2 m2 cp2) m2 L2∧Below w.heap.size w X))))) hHeld ?_
  clear hHeld hR hN hO1 hO2 hB c0 c1 c2 c3 c4 c5 c6 c7 c8 c9 c10 c11 c12 x0 x1 x2 x3
  rintro Y ⟨c0,c1,c2,c3,c4,c5,c6,c7,c8,c9,c10,c11,c12,x0,x1,x2,x3,hR,hN,hO1,hO2,hE⟩
  obtain⟨F0,F1,F2,F3,U0,U1,U2,U3,I0,I1,I2,I3⟩:=res_all hR
  have hz2:=(hN 2 (by omega)).1
  have n0:¬ nb=w.heap.size:=by omega
  have m0':¬ w.heap.size=nb:=by omega
  have n1:¬ nb=w.heap.size+1:=by omega
  have m1':¬ w.heap.size+1=nb:=by omega
  have n2:¬ nb=w.heap.size+1+1:=by omega
  have m2':¬ w.heap.size+1+1=nb:=by omega
  have n3:¬ nb=w.heap.size+1+1+1:=by omega
  have m3':¬ w.heap.size+1+1+1=nb:=by omega
  have hO3:=fun u=>own_far hO2 ⟨nb,2,none⟩ u (fun g hg=>by have:=(HV2.out g hg).2;dsimp only;omega)
  have HO3:=Go.Lib.hid hO3
  clear hO3
  repeat' (first|go_skip|go_guarded|go_step|go_upon)
  (try simp only[Exit.inBlock,Exit.then])
  refine bodyPost_ret (results_state2 rfl _ _ (by rfl) (set4r (res_set hR _ _))) rfl ⟨⟨_,_,by first|rfl|simp,own_mono (own_far4 (HO3.out _) (own_above hO2 (by omega))) (by omega)⟩,bl4 (bl_set hE (by dsimp only;omega) _) (by omega)⟩

theorem wdo_release (p:Pol) (s:St) (a:Option Addr) (n c:Nat) (anow acost:Int) (A:St) (w:World) (h:rightL p s) (hlog:LogAt w a n c s.log) (hA:A=advL p s anow) (e1:1≤acost) (e2:acost≤s.held) :
    Calls Tryz.prog 108 #[p.v,s.v a n c,.agg #[.int .i64 3,.int .i64 anow,.int .i64 acost]] w fun e w'=>StOwn2 ({ A with held:=s.held - acost },true) w.heap.size e w'∧Below w.heap.size w w':=by
  have hrt:=fun W hW=>wright_any p s a n c W hW
  rw[decide_eq_true h] at hrt
  have hav:=fun a1 c1 W hW=>wadv_any p s a1 n c1 anow W hW
  have hall:=risen_all h.2.2.2.2.2.2.1
  have hsub:=live_sub p.period (up s.at_ (clampT anow)) s.log
  have hssum:=live_sum p.period (up s.at_ (clampT anow)) s.log (fun e he=>by have:=(hall e he).1;omega)
  have hAe:A.log=live p.period (up s.at_ (clampT anow)) s.log∧A.level=0∧A.held=s.held:=by rw[hA];unfold advL;rw[if_pos h];exact⟨rfl,rfl,rfl⟩
  rw[← hA] at hav
  rw[← hAe.1] at hsub hssum
  obtain⟨⟨q0,q1,q2,q3,q4,q5,q6,q7⟩,r1,r2,r3,r4,r5,r6,r7,r8⟩:=h
  have hlen:=hlog.1
  have hsb:=sumL_bound A.log 1048576 (fun e he=>by have:=hall e (hsub.1 e he);omega)
  have hn1:n≤100:=by omega
  have hent:∀ e ∈ A.log,0≤e.2∧e.2≤1048576:=fun e he=>by have:=hall e (hsub.1 e he);omega
  have hw1:IntKind.i64.wrap (p.limit - s.held)=p.limit - s.held:=IntWalk.i64_in _ (by omega)
  have hw2:IntKind.i64.wrap (p.limit - s.held - sumL A.log)=p.limit - s.held - sumL A.log:=IntWalk.i64_in _ (by omega)
  have hw3:IntKind.i64.wrap (s.held - acost)=s.held - acost:=IntWalk.i64_in _ (by omega)
  have hsum:=fun a2 m2 c2 W (hW:LogAt W a2 m2 c2 A.log)=>sum_any a2 m2 c2 A.log W hW (by have:=hW.1;have:=hsub.2;omega) hent
  have HX:=Go.Lib.hid (And.intro hn1 (And.intro hent (And.intro hsub.2 hlen)))
  clear hall hsb hsub hssum hent hA r1 r2 r3 r4 r6 r7 r8 q0 q1 q2 q3 q4 q5 q6 q7
  obtain⟨k,l,d,b,cc,o⟩:=p
  obtain⟨at_,level,held,L⟩:=s
  obtain⟨aat,alv,ahd,L2⟩:=A
  obtain⟨-,hz1,hz2⟩:=hAe
  unfold St.v Pol.v at *
  dsimp only at *
  subst hz1 hz2 r5
  have HRT:=Go.Lib.hid hrt
  have HAV:=Go.Lib.hid hav
  have HSM:=Go.Lib.hid hsum
  have HLOG:=Go.Lib.hid hlog
  clear hrt hav hsum hlog hlen hn1
  generalize hS2:sumL L2=S2 at *
  clear hS2
  go_enter Tryz.func108,Tryz.ntmps108
  go_wp2_with fail
  refine(HRT.out _ (log_bl HLOG.out k4)).mono ?_
  rintro e w1 ⟨rfl,hb⟩
  have hB:Below w.heap.size w w1:=bl_then k4 hb
  obtain⟨c0,c1,c2,c3,c4,c5⟩:=b6 (w.heap.size) k l d b cc o hb
  have c6:=bl_cell (v:=.int .i64 at_) hb (show World.cell? _ ⟨w.heap.size+1,0,none⟩=_ by go_simp)
  have c7:=bl_cell (v:=.int .i64 0) hb (show World.cell? _ ⟨w.heap.size+1,1,none⟩=_ by go_simp)
  have c8:=bl_cell (v:=.int .i64 ahd) hb (show World.cell? _ ⟨w.heap.size+1,2,none⟩=_ by go_simp)
  have c9:=bl_cell (v:=.slice a n c) hb (show World.cell? _ ⟨w.heap.size+1,3,none⟩=_ by go_simp)
  obtain⟨c10,c11,c12⟩:=b3 (w.heap.size+1+1) 3 anow acost hb
  have hR:ResB w1 (w.heap.size+1+1+1):=res_bl (res_new _ _ _ _ _ _ (by simp)) hb
  have hQ:ResB w1 (w.heap.size+1):=res_bl (res_bl (res_new (w.alloc _) _ _ _ _ _ (by simp)) k2) hb
  have hlg1:=log_bl HLOG.out hB
  clear hb HRT HLOG
  go_wp2_with fail
  refine(clone_all _ _ _ _ _ hlg1 (by have:=HX.out.1;omega)).mono ?_
  rintro e w2 ⟨v1,rfl,hown1,hb⟩
  obtain⟨a1,cp1,rfl,hlog1⟩:=own_log hown1
  have d0:=bl_cell hb c0
  have d1:=bl_cell hb c1
  have d2:=bl_cell hb c2
  have d3:=bl_cell hb c3
  have d4:=bl_cell hb c4
  have d5:=bl_cell hb c5
  have d6:=bl_cell hb c6
  have d7:=bl_cell hb c7
  have d8:=bl_cell hb c8
  have d9:=bl_cell hb c9
  have d10:=bl_cell hb c10
  have d11:=bl_cell hb c11
  have d12:=bl_cell hb c12
  have dR:=res_bl hR hb
  have dQ:=res_bl hQ hb
  have dB:=bl_then hB hb
  have hlt1:=res_lt hR
  have fz:=(dQ 3 (by omega)).1
  clear hR hQ hB hb hlg1 c0 c1 c2 c3 c4 c5 c6 c7 c8 c9 c10 c11 c12
  go_wp2_with fail
  have hown1':=own_far hown1 ⟨w.heap.size+1,3,none⟩ (.slice a1 n cp1) (own_above hown1 (by dsimp only;omega))
  refine(HAV.out _ _ _ (own_at hown1')).mono ?_
  rintro e w3 ⟨⟨v2,m2,rfl,hown2⟩,hb⟩
  obtain⟨a2,cp2,rfl,hlog2⟩:=own_log hown2
  have c0:=bl_cell hb (far_set d0 ⟨w.heap.size+1,3,none⟩ (.slice a1 n cp1) (by dsimp only;omega))
  have c1:=bl_cell hb (far_set d1 ⟨w.heap.size+1,3,none⟩ (.slice a1 n cp1) (by dsimp only;omega))
  have c2:=bl_cell hb (far_set d2 ⟨w.heap.size+1,3,none⟩ (.slice a1 n cp1) (by dsimp only;omega))
  have c3:=bl_cell hb (far_set d3 ⟨w.heap.size+1,3,none⟩ (.slice a1 n cp1) (by dsimp only;omega))
  have c4:=bl_cell hb (far_set d4 ⟨w.heap.size+1,3,none⟩ (.slice a1 n cp1) (by dsimp only;omega))
  have c5:=bl_cell hb (far_set d5 ⟨w.heap.size+1,3,none⟩ (.slice a1 n cp1) (by dsimp only;omega))
  have c6:=bl_cell hb (set_other (a:=⟨w.heap.size+1,3,none⟩) d6 (.slice a1 n cp1) (by simp))
  have c7:=bl_cell hb (set_other (a:=⟨w.heap.size+1,3,none⟩) d7 (.slice a1 n cp1) (by simp))
  have c8:=bl_cell hb (set_other (a:=⟨w.heap.size+1,3,none⟩) d8 (.slice a1 n cp1) (by simp))
  have c9:w3.cell? ⟨w.heap.size+1,3,none⟩=some (.slice a1 n cp1):=bl_cell hb (World.cell?_setCell_same' _ _ _ (by rw[d9];rfl))
  have c10:=bl_cell hb (far_set d10 ⟨w.heap.size+1,3,none⟩ (.slice a1 n cp1) (by dsimp only;omega))
  have c11:=bl_cell hb (far_set d11 ⟨w.heap.size+1,3,none⟩ (.slice a1 n cp1) (by dsimp only;omega))
  have c12:=bl_cell hb (far_set d12 ⟨w.heap.size+1,3,none⟩ (.slice a1 n cp1) (by dsimp only;omega))
  have hR:=res_bl (res_set dR ⟨w.heap.size+1,3,none⟩ (.slice a1 n cp1)) hb
  have hB:=bl_then (bl_set dB (a:=⟨w.heap.size+1,3,none⟩) (by dsimp only;omega) (.slice a1 n cp1)) hb
  have hO1:=own_bl hown1' hb
  have hlt2:=res_lt (res_set dR ⟨w.heap.size+1,3,none⟩ (.slice a1 n cp1))
  have hle3:=hb.size
  have HV2:=Go.Lib.hid (World.ownsRow.lt hown2)
  have hle1:=hlt1
  generalize (w2.setCell ⟨w.heap.size+1,3,none⟩ (.slice a1 n cp1)).heap.size=base2 at *
  clear hb dR dQ dB hown1 hown1' hlog1 hlog2 HAV d0 d1 d2 d3 d4 d5 d6 d7 d8 d9 d10 d11 d12
  dsimp only
  go_wp2_with fail
  refine wp_abs (S0:=fun X=>P6 X (w.heap.size) k l d b cc o (S4 X (w.heap.size+1) at_ 0 ahd a1 n cp1 (X3 X (w.heap.size+1+1) 3 anow acost (S4 X (w3.heap.size) aat 0 ahd a2 m2 cp2 (ResB X (w.heap.size+1+1+1)∧ResB X w3.heap.size∧OwnLog X w1.heap.size (.slice a1 n cp1) n L∧OwnLog X base2 (.slice a2 m2 cp2) m2 L2∧Below w.heap.size w X))))) ⟨bl_cell k1 c0,bl_cell k1 c1,bl_cell k1 c2,bl_cell k1 c3,bl_cell k1 c4,bl_cell k1 c5,bl_cell k1 c6,bl_cell k1 c7,bl_cell k1 c8,bl_cell k1 c9,bl_cell k1 c10,bl_cell k1 c11,bl_cell k1 c12,by go_simp,by go_simp,by go_simp,by go_simp,res_bl hR k1,res_new _ _ _ _ _ _ rfl,World.ownsRow.alloc hO1 _,World.ownsRow.alloc hown2 _,bl_alloc hB _⟩ ?_
  clear hR hO1 hown2 hB c0 c1 c2 c3 c4 c5 c6 c7 c8 c9 c10 c11 c12
  generalize w3.heap.size=nb at *
  rintro X ⟨c0,c1,c2,c3,c4,c5,c6,c7,c8,c9,c10,c11,c12,x0,x1,x2,x3,hR,hN,hO1,hO2,hB⟩
  refine wp_region_held_drew (S:=fun w'=>P6 w' (w.heap.size) k l d b cc o (S4 w' (w.heap.size+1) at_ 0 ahd a1 n cp1 (X3 w' (w.heap.size+1+1) 3 anow acost (S4 w' nb aat 0 ahd a2 m2 cp2 (ResB w' (w.heap.size+1+1+1)∧ResB w' nb∧OwnLog w' w1.heap.size (.slice a1 n cp1) n L∧OwnLog w' base2 (.slice a2 m2 cp2) m2 L2∧Below w.heap.size w w'))))) (by kernel_rfl) ?_ (fun hHeld=>?_)
  · exact⟨c0,c1,c2,c3,c4,c5,c6,c7,c8,c9,c10,c11,c12,x0,x1,x2,x3,hR,hN,hO1,hO2,bl_drew hB⟩
  try simp only[Act.put,List.setIfInBounds_toArray,List.set_cons_zero,List.set_cons_succ]
  refine tkx 0 ?_
  refine tkx 1 ?_
  refine tkx 2 ?_
  refine tkx 3 ?_
  refine tkx 4 ?_
  refine tkx 5 ?_
  refine tkx 6 ?_
  (refine callH (i:=7) rfl hHeld (fun W hW K hK=>?_);clear hHeld;(try dsimp only at hW);obtain⟨h0,h1,h2,h3,h4,h5,h6,h7,h8,h9,h10,h11,h12,y0,y1,y2,y3,hr',hn',ho1',ho2',hB'⟩:=hW;go_simp;refine(HSM.out _ _ _ _ (own_at ho2')).mono ?_;rintro e w9 ⟨rfl,hb⟩;go_wp2_with fail;refine hK.out _ _ ?_ (fun hHeld=>?_);(focus((try dsimp only);exact⟨bl_cell hb h0,bl_cell hb h1,bl_cell hb h2,bl_cell hb h3,bl_cell hb h4,bl_cell hb h5,bl_cell hb h6,bl_cell hb h7,bl_cell hb h8,bl_cell hb h9,bl_cell hb h10,bl_cell hb h11,bl_cell hb h12,bl_cell hb y0,bl_cell hb y1,bl_cell hb y2,bl_cell hb y3,res_bl hr' hb,res_bl hn' hb,own_bl ho1' hb,own_bl ho2' hb,bl_then hB' hb⟩));clear hK K;try simp only[Act.put,List.setIfInBounds_toArray,List.set_cons_zero,List.set_cons_succ])
  refine tkx 8 ?_
  refine tkx 9 ?_
  refine wpAnyH_done (by kernel_rfl) ?_ _
  refine then_abs (F:=fun X=>P6 X (w.heap.size) k l d b cc o (S4 X (w.heap.size+1) at_ 0 ahd a1 n cp1 (X3 X (w.heap.size+1+1) 3 anow acost (S4 X nb aat 0 ahd a2 m2 cp2 (ResB X (w.heap.size+1+1+1)∧ResB X nb∧OwnLog X w1.heap.size (.slice a1 n cp1) n L∧OwnLog X base2 (.slice a2 m2 cp2) m2 L2∧Below w.heap.size w X))))) hHeld ?_
  clear hHeld hR hN hO1 hO2 hB c0 c1 c2 c3 c4 c5 c6 c7 c8 c9 c10 c11 c12 x0 x1 x2 x3
  rintro Y ⟨c0,c1,c2,c3,c4,c5,c6,c7,c8,c9,c10,c11,c12,x0,x1,x2,x3,hR,hN,hO1,hO2,hE⟩
  obtain⟨F0,F1,F2,F3,U0,U1,U2,U3,I0,I1,I2,I3⟩:=res_all hR
  have hz2:=(hN 2 (by omega)).1
  have n0:¬ nb=w.heap.size:=by omega
  have m0':¬ w.heap.size=nb:=by omega
  have n1:¬ nb=w.heap.size+1:=by omega
  have m1':¬ w.heap.size+1=nb:=by omega
  have n2:¬ nb=w.heap.size+1+1:=by omega
  have m2':¬ w.heap.size+1+1=nb:=by omega
  have n3:¬ nb=w.heap.size+1+1+1:=by omega
  have m3':¬ w.heap.size+1+1+1=nb:=by omega
  have hO3:=fun u=>own_far hO2 ⟨nb,2,none⟩ u (fun g hg=>by have:=(HV2.out g hg).2;dsimp only;omega)
  have HO3:=Go.Lib.hid hO3
  clear hO3
  repeat' (first|go_skip|go_guarded|go_step|go_upon)
  (try simp only[Exit.inBlock,Exit.then])
  refine bodyPost_ret (results_state2 rfl _ _ (by rfl) (set4r (res_set hR _ _))) rfl ⟨⟨_,_,by first|rfl|simp,own_mono (own_far4 (HO3.out _) (own_above hO2 (by omega))) (by omega)⟩,bl4 (bl_set hE (by dsimp only;omega) _) (by omega)⟩

theorem wdo_commit (p:Pol) (s:St) (a:Option Addr) (n c:Nat) (anow acost:Int) (A:St) (w:World) (h:rightL p s) (hlog:LogAt w a n c s.log) (hA:A=advL p s anow) (e1:1≤acost) (e2:acost≤s.held) :
    Calls Tryz.prog 108 #[p.v,s.v a n c,.agg #[.int .i64 4,.int .i64 anow,.int .i64 acost]] w fun e w'=>StOwn2 (noted p { A with held:=s.held - acost } acost,true) w.heap.size e w'∧Below w.heap.size w w':=by
  have hrt:=fun W hW=>wright_any p s a n c W hW
  rw[decide_eq_true h] at hrt
  have hav:=fun a1 c1 W hW=>wadv_any p s a1 n c1 anow W hW
  have hall:=risen_all h.2.2.2.2.2.2.1
  have hsub:=live_sub p.period (up s.at_ (clampT anow)) s.log
  have hssum:=live_sum p.period (up s.at_ (clampT anow)) s.log (fun e he=>by have:=(hall e he).1;omega)
  have hAe:A.log=live p.period (up s.at_ (clampT anow)) s.log∧A.level=0∧A.held=s.held:=by rw[hA];unfold advL;rw[if_pos h];exact⟨rfl,rfl,rfl⟩
  rw[← hA] at hav
  rw[← hAe.1] at hsub hssum
  obtain⟨⟨q0,q1,q2,q3,q4,q5,q6,q7⟩,r1,r2,r3,r4,r5,r6,r7,r8⟩:=h
  have hlen:=hlog.1
  have hsb:=sumL_bound A.log 1048576 (fun e he=>by have:=hall e (hsub.1 e he);omega)
  have hn1:n≤100:=by omega
  have hent:∀ e ∈ A.log,0≤e.2∧e.2≤1048576:=fun e he=>by have:=hall e (hsub.1 e he);omega
  have hw1:IntKind.i64.wrap (p.limit - s.held)=p.limit - s.held:=IntWalk.i64_in _ (by omega)
  have hw2:IntKind.i64.wrap (p.limit - s.held - sumL A.log)=p.limit - s.held - sumL A.log:=IntWalk.i64_in _ (by omega)
  have hw3:IntKind.i64.wrap (s.held - acost)=s.held - acost:=IntWalk.i64_in _ (by omega)
  have hcost:0≤acost∧acost≤1048576:=by omega
  have hsum:=fun a2 m2 c2 W (hW:LogAt W a2 m2 c2 A.log)=>sum_any a2 m2 c2 A.log W hW (by have:=hW.1;have:=hsub.2;omega) hent
  have HX:=Go.Lib.hid (And.intro hn1 (And.intro hent (And.intro hsub.2 hlen)))
  clear hall hsb hsub hssum hent hA r1 r2 r3 r4 r6 r7 r8 q0 q1 q2 q3 q4 q5 q6 q7
  obtain⟨k,l,d,b,cc,o⟩:=p
  obtain⟨at_,level,held,L⟩:=s
  obtain⟨aat,alv,ahd,L2⟩:=A
  obtain⟨-,hz1,hz2⟩:=hAe
  unfold St.v Pol.v at *
  dsimp only at *
  subst hz1 hz2 r5
  have HRT:=Go.Lib.hid hrt
  have HAV:=Go.Lib.hid hav
  have HSM:=Go.Lib.hid hsum
  have HLOG:=Go.Lib.hid hlog
  clear hrt hav hsum hlog hlen hn1
  generalize hS2:sumL L2=S2 at *
  clear hS2
  have hnote:=fun a2 m2 c2 base W (hb0:base≤W.heap.size) (hW:OwnLog W base (.slice a2 m2 c2) m2 L2)=>note_any ⟨k,l,d,b,cc,o⟩ ⟨aat,0,(ahd - acost),L2⟩ a2 m2 c2 acost base W hb0 hW (by have h1:=hW.1;have h2:=HX.out.1;have h3:=HX.out.2.2.1;have h4:=HX.out.2.2.2;rw[cellsL_len] at h1;omega) HX.out.2.1 hcost
  unfold St.v Pol.v at hnote
  dsimp only at hnote
  have HNT:=Go.Lib.hid hnote
  clear hnote
  go_enter Tryz.func108,Tryz.ntmps108
  go_wp2_with fail
  refine(HRT.out _ (log_bl HLOG.out k4)).mono ?_
  rintro e w1 ⟨rfl,hb⟩
  have hB:Below w.heap.size w w1:=bl_then k4 hb
  obtain⟨c0,c1,c2,c3,c4,c5⟩:=b6 (w.heap.size) k l d b cc o hb
  have c6:=bl_cell (v:=.int .i64 at_) hb (show World.cell? _ ⟨w.heap.size+1,0,none⟩=_ by go_simp)
  have c7:=bl_cell (v:=.int .i64 0) hb (show World.cell? _ ⟨w.heap.size+1,1,none⟩=_ by go_simp)
  have c8:=bl_cell (v:=.int .i64 ahd) hb (show World.cell? _ ⟨w.heap.size+1,2,none⟩=_ by go_simp)
  have c9:=bl_cell (v:=.slice a n c) hb (show World.cell? _ ⟨w.heap.size+1,3,none⟩=_ by go_simp)
  obtain⟨c10,c11,c12⟩:=b3 (w.heap.size+1+1) 4 anow acost hb
  have hR:ResB w1 (w.heap.size+1+1+1):=res_bl (res_new _ _ _ _ _ _ (by simp)) hb
  have hQ:ResB w1 (w.heap.size+1):=res_bl (res_bl (res_new (w.alloc _) _ _ _ _ _ (by simp)) k2) hb
  have hlg1:=log_bl HLOG.out hB
  clear hb HRT HLOG
  go_wp2_with fail
  refine(clone_all _ _ _ _ _ hlg1 (by have:=HX.out.1;omega)).mono ?_
  rintro e w2 ⟨v1,rfl,hown1,hb⟩
  obtain⟨a1,cp1,rfl,hlog1⟩:=own_log hown1
  have d0:=bl_cell hb c0
  have d1:=bl_cell hb c1
  have d2:=bl_cell hb c2
  have d3:=bl_cell hb c3
  have d4:=bl_cell hb c4
  have d5:=bl_cell hb c5
  have d6:=bl_cell hb c6
  have d7:=bl_cell hb c7
  have d8:=bl_cell hb c8
  have d9:=bl_cell hb c9
  have d10:=bl_cell hb c10
  have d11:=bl_cell hb c11
  have d12:=bl_cell hb c12
  have dR:=res_bl hR hb
  have dQ:=res_bl hQ hb
  have dB:=bl_then hB hb
  have hlt1:=res_lt hR
  have fz:=(dQ 3 (by omega)).1
  clear hR hQ hB hb hlg1 c0 c1 c2 c3 c4 c5 c6 c7 c8 c9 c10 c11 c12
  go_wp2_with fail
  have hown1':=own_far hown1 ⟨w.heap.size+1,3,none⟩ (.slice a1 n cp1) (own_above hown1 (by dsimp only;omega))
  refine(HAV.out _ _ _ (own_at hown1')).mono ?_
  rintro e w3 ⟨⟨v2,m2,rfl,hown2⟩,hb⟩
  obtain⟨a2,cp2,rfl,hlog2⟩:=own_log hown2
  have c0:=bl_cell hb (far_set d0 ⟨w.heap.size+1,3,none⟩ (.slice a1 n cp1) (by dsimp only;omega))
  have c1:=bl_cell hb (far_set d1 ⟨w.heap.size+1,3,none⟩ (.slice a1 n cp1) (by dsimp only;omega))
  have c2:=bl_cell hb (far_set d2 ⟨w.heap.size+1,3,none⟩ (.slice a1 n cp1) (by dsimp only;omega))
  have c3:=bl_cell hb (far_set d3 ⟨w.heap.size+1,3,none⟩ (.slice a1 n cp1) (by dsimp only;omega))
  have c4:=bl_cell hb (far_set d4 ⟨w.heap.size+1,3,none⟩ (.slice a1 n cp1) (by dsimp only;omega))
  have c5:=bl_cell hb (far_set d5 ⟨w.heap.size+1,3,none⟩ (.slice a1 n cp1) (by dsimp only;omega))
  have c6:=bl_cell hb (set_other (a:=⟨w.heap.size+1,3,none⟩) d6 (.slice a1 n cp1) (by simp))
  have c7:=bl_cell hb (set_other (a:=⟨w.heap.size+1,3,none⟩) d7 (.slice a1 n cp1) (by simp))
  have c8:=bl_cell hb (set_other (a:=⟨w.heap.size+1,3,none⟩) d8 (.slice a1 n cp1) (by simp))
  have c9:w3.cell? ⟨w.heap.size+1,3,none⟩=some (.slice a1 n cp1):=bl_cell hb (World.cell?_setCell_same' _ _ _ (by rw[d9];rfl))
  have c10:=bl_cell hb (far_set d10 ⟨w.heap.size+1,3,none⟩ (.slice a1 n cp1) (by dsimp only;omega))
  have c11:=bl_cell hb (far_set d11 ⟨w.heap.size+1,3,none⟩ (.slice a1 n cp1) (by dsimp only;omega))
  have c12:=bl_cell hb (far_set d12 ⟨w.heap.size+1,3,none⟩ (.slice a1 n cp1) (by dsimp only;omega))
  have hR:=res_bl (res_set dR ⟨w.heap.size+1,3,none⟩ (.slice a1 n cp1)) hb
  have hB:=bl_then (bl_set dB (a:=⟨w.heap.size+1,3,none⟩) (by dsimp only;omega) (.slice a1 n cp1)) hb
  have hO1:=own_bl hown1' hb
  have hlt2:=res_lt (res_set dR ⟨w.heap.size+1,3,none⟩ (.slice a1 n cp1))
  have hle3:=hb.size
  have HV2:=Go.Lib.hid (World.ownsRow.lt hown2)
  have hle1:=hlt1
  generalize (w2.setCell ⟨w.heap.size+1,3,none⟩ (.slice a1 n cp1)).heap.size=base2 at *
  clear hb dR dQ dB hown1 hown1' hlog1 hlog2 HAV d0 d1 d2 d3 d4 d5 d6 d7 d8 d9 d10 d11 d12
  dsimp only
  go_wp2_with fail
  refine wp_abs (S0:=fun X=>P6 X (w.heap.size) k l d b cc o (S4 X (w.heap.size+1) at_ 0 ahd a1 n cp1 (X3 X (w.heap.size+1+1) 4 anow acost (S4 X (w3.heap.size) aat 0 ahd a2 m2 cp2 (ResB X (w.heap.size+1+1+1)∧ResB X w3.heap.size∧OwnLog X w1.heap.size (.slice a1 n cp1) n L∧OwnLog X base2 (.slice a2 m2 cp2) m2 L2∧Below w.heap.size w X))))) ⟨bl_cell k1 c0,bl_cell k1 c1,bl_cell k1 c2,bl_cell k1 c3,bl_cell k1 c4,bl_cell k1 c5,bl_cell k1 c6,bl_cell k1 c7,bl_cell k1 c8,bl_cell k1 c9,bl_cell k1 c10,bl_cell k1 c11,bl_cell k1 c12,by go_simp,by go_simp,by go_simp,by go_simp,res_bl hR k1,res_new _ _ _ _ _ _ rfl,World.ownsRow.alloc hO1 _,World.ownsRow.alloc hown2 _,bl_alloc hB _⟩ ?_
  clear hR hO1 hown2 hB c0 c1 c2 c3 c4 c5 c6 c7 c8 c9 c10 c11 c12
  generalize w3.heap.size=nb at *
  rintro X ⟨c0,c1,c2,c3,c4,c5,c6,c7,c8,c9,c10,c11,c12,x0,x1,x2,x3,hR,hN,hO1,hO2,hB⟩
  refine wp_region_held_drew (S:=fun w'=>P6 w' (w.heap.size) k l d b cc o (S4 w' (w.heap.size+1) at_ 0 ahd a1 n cp1 (X3 w' (w.heap.size+1+1) 4 anow acost (S4 w' nb aat 0 ahd a2 m2 cp2 (ResB w' (w.heap.size+1+1+1)∧ResB w' nb∧OwnLog w' w1.heap.size (.slice a1 n cp1) n L∧OwnLog w' base2 (.slice a2 m2 cp2) m2 L2∧Below w.heap.size w w'))))) (by kernel_rfl) ?_ (fun hHeld=>?_)
  · exact⟨c0,c1,c2,c3,c4,c5,c6,c7,c8,c9,c10,c11,c12,x0,x1,x2,x3,hR,hN,hO1,hO2,bl_drew hB⟩
  try simp only[Act.put,List.setIfInBounds_toArray,List.set_cons_zero,List.set_cons_succ]
  refine tkx 0 ?_
  refine tkx 1 ?_
  refine tkx 2 ?_
  refine tkx 3 ?_
  refine tkx 4 ?_
  refine tkx 5 ?_
  refine tkx 6 ?_
  (refine callH (i:=7) rfl hHeld (fun W hW K hK=>?_);clear hHeld;(try dsimp only at hW);obtain⟨h0,h1,h2,h3,h4,h5,h6,h7,h8,h9,h10,h11,h12,y0,y1,y2,y3,hr',hn',ho1',ho2',hB'⟩:=hW;go_simp;refine(HSM.out _ _ _ _ (own_at ho2')).mono ?_;rintro e w9 ⟨rfl,hb⟩;go_wp2_with fail;refine hK.out _ _ ?_ (fun hHeld=>?_);(focus((try dsimp only);exact⟨bl_cell hb h0,bl_cell hb h1,bl_cell hb h2,bl_cell hb h3,bl_cell hb h4,bl_cell hb h5,bl_cell hb h6,bl_cell hb h7,bl_cell hb h8,bl_cell hb h9,bl_cell hb h10,bl_cell hb h11,bl_cell hb h12,bl_cell hb y0,bl_cell hb y1,bl_cell hb y2,bl_cell hb y3,res_bl hr' hb,res_bl hn' hb,own_bl ho1' hb,own_bl ho2' hb,bl_then hB' hb⟩));clear hK K;try simp only[Act.put,List.setIfInBounds_toArray,List.set_cons_zero,List.set_cons_succ])
  refine tkx 8 ?_
  refine tkx 9 ?_
  refine wpAnyH_done (by kernel_rfl) ?_ _
  refine then_abs (F:=fun X=>P6 X (w.heap.size) k l d b cc o (S4 X (w.heap.size+1) at_ 0 ahd a1 n cp1 (X3 X (w.heap.size+1+1) 4 anow acost (S4 X nb aat 0 ahd a2 m2 cp2 (ResB X (w.heap.size+1+1+1)∧ResB X nb∧OwnLog X w1.heap.size (.slice a1 n cp1) n L∧OwnLog X base2 (.slice a2 m2 cp2) m2 L2∧Below w.heap.size w X))))) hHeld ?_
  clear hHeld hR hN hO1 hO2 hB c0 c1 c2 c3 c4 c5 c6 c7 c8 c9 c10 c11 c12 x0 x1 x2 x3
  rintro Y ⟨c0,c1,c2,c3,c4,c5,c6,c7,c8,c9,c10,c11,c12,x0,x1,x2,x3,hR,hN,hO1,hO2,hE⟩
  obtain⟨F0,F1,F2,F3,U0,U1,U2,U3,I0,I1,I2,I3⟩:=res_all hR
  have hz2:=(hN 2 (by omega)).1
  have n0:¬ nb=w.heap.size:=by omega
  have m0':¬ w.heap.size=nb:=by omega
  have n1:¬ nb=w.heap.size+1:=by omega
  have m1':¬ w.heap.size+1=nb:=by omega
  have n2:¬ nb=w.heap.size+1+1:=by omega
  have m2':¬ w.heap.size+1+1=nb:=by omega
  have n3:¬ nb=w.heap.size+1+1+1:=by omega
  have m3':¬ w.heap.size+1+1+1=nb:=by omega
  have hO3:=fun u=>own_far hO2 ⟨nb,2,none⟩ u (fun g hg=>by have:=(HV2.out g hg).2;dsimp only;omega)
  have HO3:=Go.Lib.hid hO3
  clear hO3
  go_wp2_with fail
  refine(HNT.out _ _ _ base2 _ (by have:=res_lt hN;rw[World.size_setCell];omega) (HO3.out _)).mono ?_
  rintro e w6 ⟨v6,m6,rfl,hown6,hb6⟩
  obtain⟨a6,cp6,rfl,-⟩:=own_log hown6
  have hR6:=res_blB (res_set hR _ _) hb6 (by omega)
  have hE6:Below w.heap.size w w6:=((bl_set hE (by dsimp only;omega) _)).trans (hb6.mono (by omega))
  obtain⟨G0,G1,G2,G3,V0,V1,V2,V3,J0,J1,J2,J3⟩:=res_all hR6
  dsimp only
  go_wp2_with fail
  (try simp only[Exit.inBlock,Exit.then])
  refine bodyPost_ret (results_state2 rfl _ _ (by rfl) (set4r hR6)) rfl ⟨⟨_,_,by first|rfl|simp,own_mono (own_far4 hown6 (own_above hown6 (by omega))) (by omega)⟩,bl4 hE6 (by omega)⟩
theorem wdo_less (p:Pol) (s:St) (a:Option Addr) (n c:Nat) (anow acost:Int) (ak:Int) (A:St) (w:World) (h:rightL p s) (hlog:LogAt w a n c s.log) (hA:A=advL p s anow) (e1:¬ 1≤acost) :
    Calls Tryz.prog 108 #[p.v,s.v a n c,.agg #[.int .i64 ak,.int .i64 anow,.int .i64 acost]] w fun e w'=>StOwn2 (s,false) w.heap.size e w'∧Below w.heap.size w w':=by
  have hrt:=fun W hW=>wright_any p s a n c W hW
  rw[decide_eq_true h] at hrt
  have hav:=fun a1 c1 W hW=>wadv_any p s a1 n c1 anow W hW
  have hall:=risen_all h.2.2.2.2.2.2.1
  have hsub:=live_sub p.period (up s.at_ (clampT anow)) s.log
  have hssum:=live_sum p.period (up s.at_ (clampT anow)) s.log (fun e he=>by have:=(hall e he).1;omega)
  have hAe:A.log=live p.period (up s.at_ (clampT anow)) s.log∧A.level=0∧A.held=s.held:=by rw[hA];unfold advL;rw[if_pos h];exact⟨rfl,rfl,rfl⟩
  rw[← hA] at hav
  rw[← hAe.1] at hsub hssum
  obtain⟨⟨q0,q1,q2,q3,q4,q5,q6,q7⟩,r1,r2,r3,r4,r5,r6,r7,r8⟩:=h
  have hlen:=hlog.1
  have hsb:=sumL_bound A.log 1048576 (fun e he=>by have:=hall e (hsub.1 e he);omega)
  have hn1:n≤100:=by omega
  have hent:∀ e ∈ A.log,0≤e.2∧e.2≤1048576:=fun e he=>by have:=hall e (hsub.1 e he);omega
  have hw1:IntKind.i64.wrap (p.limit - s.held)=p.limit - s.held:=IntWalk.i64_in _ (by omega)
  have hw2:IntKind.i64.wrap (p.limit - s.held - sumL A.log)=p.limit - s.held - sumL A.log:=IntWalk.i64_in _ (by omega)
  have hsum:=fun a2 m2 c2 W (hW:LogAt W a2 m2 c2 A.log)=>sum_any a2 m2 c2 A.log W hW (by have:=hW.1;have:=hsub.2;omega) hent
  have HX:=Go.Lib.hid (And.intro hn1 (And.intro hent (And.intro hsub.2 hlen)))
  clear hall hsb hsub hssum hent hA r1 r2 r3 r4 r6 r7 r8 q0 q1 q2 q3 q4 q5 q6 q7
  obtain⟨k,l,d,b,cc,o⟩:=p
  obtain⟨at_,level,held,L⟩:=s
  obtain⟨aat,alv,ahd,L2⟩:=A
  obtain⟨-,hz1,hz2⟩:=hAe
  unfold St.v Pol.v at *
  dsimp only at *
  subst hz1 hz2 r5
  have HRT:=Go.Lib.hid hrt
  have HAV:=Go.Lib.hid hav
  have HSM:=Go.Lib.hid hsum
  have HLOG:=Go.Lib.hid hlog
  clear hrt hav hsum hlog hlen hn1
  generalize hS2:sumL L2=S2 at *
  clear hS2
  go_enter Tryz.func108,Tryz.ntmps108
  go_wp2_with fail
  refine(HRT.out _ (log_bl HLOG.out (bl_alloc (bl_alloc (bl_alloc (bl_alloc (bl_refl _) _) _) _) _))).mono ?_
  rintro e w1 ⟨rfl,hb⟩
  have hB:Below w.heap.size w w1:=bl_then (bl_alloc (bl_alloc (bl_alloc (bl_alloc (bl_refl _) _) _) _) _) hb
  obtain⟨c0,c1,c2,c3,c4,c5⟩:=b6 (w.heap.size) k l d b cc o hb
  have c6:=bl_cell (v:=.int .i64 at_) hb (show World.cell? _ ⟨w.heap.size+1,0,none⟩=_ by go_simp)
  have c7:=bl_cell (v:=.int .i64 0) hb (show World.cell? _ ⟨w.heap.size+1,1,none⟩=_ by go_simp)
  have c8:=bl_cell (v:=.int .i64 ahd) hb (show World.cell? _ ⟨w.heap.size+1,2,none⟩=_ by go_simp)
  have c9:=bl_cell (v:=.slice a n c) hb (show World.cell? _ ⟨w.heap.size+1,3,none⟩=_ by go_simp)
  obtain⟨c10,c11,c12⟩:=b3 (w.heap.size+1+1) ak anow acost hb
  have hR:ResB w1 (w.heap.size+1+1+1):=res_bl (res_new _ _ _ _ _ _ (by simp)) hb
  have hQ:ResB w1 (w.heap.size+1):=res_bl (res_bl (res_new (w.alloc _) _ _ _ _ _ (by simp)) (bl_alloc (bl_alloc (bl_refl _) _) _)) hb
  have hlg1:=log_bl HLOG.out hB
  clear hb HRT HLOG
  go_wp2_with fail
  refine(clone_all _ _ _ _ _ hlg1 (by have:=HX.out.1;omega)).mono ?_
  rintro e w2 ⟨v1,rfl,hown1,hb⟩
  obtain⟨a1,cp1,rfl,hlog1⟩:=own_log hown1
  have d0:=bl_cell hb c0
  have d1:=bl_cell hb c1
  have d2:=bl_cell hb c2
  have d3:=bl_cell hb c3
  have d4:=bl_cell hb c4
  have d5:=bl_cell hb c5
  have d6:=bl_cell hb c6
  have d7:=bl_cell hb c7
  have d8:=bl_cell hb c8
  have d9:=bl_cell hb c9
  have d10:=bl_cell hb c10
  have d11:=bl_cell hb c11
  have d12:=bl_cell hb c12
  have dR:=res_bl hR hb
  have dQ:=res_bl hQ hb
  have dB:=bl_then hB hb
  have hlt1:=res_lt hR
  have fz:=(dQ 3 (by omega)).1
  clear hR hQ hB hb hlg1 c0 c1 c2 c3 c4 c5 c6 c7 c8 c9 c10 c11 c12
  go_wp2_with fail
  have hown1':=own_far hown1 ⟨w.heap.size+1,3,none⟩ (.slice a1 n cp1) (own_above hown1 (by dsimp only;omega))
  refine(HAV.out _ _ _ (own_at hown1')).mono ?_
  rintro e w3 ⟨⟨v2,m2,rfl,hown2⟩,hb⟩
  obtain⟨a2,cp2,rfl,hlog2⟩:=own_log hown2
  have c0:=bl_cell hb (far_set d0 ⟨w.heap.size+1,3,none⟩ (.slice a1 n cp1) (by dsimp only;omega))
  have c1:=bl_cell hb (far_set d1 ⟨w.heap.size+1,3,none⟩ (.slice a1 n cp1) (by dsimp only;omega))
  have c2:=bl_cell hb (far_set d2 ⟨w.heap.size+1,3,none⟩ (.slice a1 n cp1) (by dsimp only;omega))
  have c3:=bl_cell hb (far_set d3 ⟨w.heap.size+1,3,none⟩ (.slice a1 n cp1) (by dsimp only;omega))
  have c4:=bl_cell hb (far_set d4 ⟨w.heap.size+1,3,none⟩ (.slice a1 n cp1) (by dsimp only;omega))
  have c5:=bl_cell hb (far_set d5 ⟨w.heap.size+1,3,none⟩ (.slice a1 n cp1) (by dsimp only;omega))
  have c6:=bl_cell hb (set_other (a:=⟨w.heap.size+1,3,none⟩) d6 (.slice a1 n cp1) (by simp))
  have c7:=bl_cell hb (set_other (a:=⟨w.heap.size+1,3,none⟩) d7 (.slice a1 n cp1) (by simp))
  have c8:=bl_cell hb (set_other (a:=⟨w.heap.size+1,3,none⟩) d8 (.slice a1 n cp1) (by simp))
  have c9:w3.cell? ⟨w.heap.size+1,3,none⟩=some (.slice a1 n cp1):=bl_cell hb (World.cell?_setCell_same' _ _ _ (by rw[d9];rfl))
  have c10:=bl_cell hb (far_set d10 ⟨w.heap.size+1,3,none⟩ (.slice a1 n cp1) (by dsimp only;omega))
  have c11:=bl_cell hb (far_set d11 ⟨w.heap.size+1,3,none⟩ (.slice a1 n cp1) (by dsimp only;omega))
  have c12:=bl_cell hb (far_set d12 ⟨w.heap.size+1,3,none⟩ (.slice a1 n cp1) (by dsimp only;omega))
  have hR:=res_bl (res_set dR ⟨w.heap.size+1,3,none⟩ (.slice a1 n cp1)) hb
  have hB:=bl_then (bl_set dB (a:=⟨w.heap.size+1,3,none⟩) (by dsimp only;omega) (.slice a1 n cp1)) hb
  have hO1:=own_bl hown1' hb
  have hlt2:=res_lt (res_set dR ⟨w.heap.size+1,3,none⟩ (.slice a1 n cp1))
  have hle3:=hb.size
  have HV2:=Go.Lib.hid (World.ownsRow.lt hown2)
  have hle1:=hlt1
  generalize (w2.setCell ⟨w.heap.size+1,3,none⟩ (.slice a1 n cp1)).heap.size=base2 at *
  clear hb dR dQ dB hown1 hown1' hlog1 hlog2 HAV d0 d1 d2 d3 d4 d5 d6 d7 d8 d9 d10 d11 d12
  dsimp only
  go_wp2_with fail
  refine wp_abs (S0:=fun X=>P6 X (w.heap.size) k l d b cc o (S4 X (w.heap.size+1) at_ 0 ahd a1 n cp1 (X3 X (w.heap.size+1+1) ak anow acost (S4 X (w3.heap.size) aat 0 ahd a2 m2 cp2 (ResB X (w.heap.size+1+1+1)∧ResB X w3.heap.size∧OwnLog X w1.heap.size (.slice a1 n cp1) n L∧OwnLog X base2 (.slice a2 m2 cp2) m2 L2∧Below w.heap.size w X))))) ⟨bl_cell (bl_alloc (bl_refl _) _) c0,bl_cell (bl_alloc (bl_refl _) _) c1,bl_cell (bl_alloc (bl_refl _) _) c2,bl_cell (bl_alloc (bl_refl _) _) c3,bl_cell (bl_alloc (bl_refl _) _) c4,bl_cell (bl_alloc (bl_refl _) _) c5,bl_cell (bl_alloc (bl_refl _) _) c6,bl_cell (bl_alloc (bl_refl _) _) c7,bl_cell (bl_alloc (bl_refl _) _) c8,bl_cell (bl_alloc (bl_refl _) _) c9,bl_cell (bl_alloc (bl_refl _) _) c10,bl_cell (bl_alloc (bl_refl _) _) c11,bl_cell (bl_alloc (bl_refl _) _) c12,by go_simp,by go_simp,by go_simp,by go_simp,res_bl hR (bl_alloc (bl_refl _) _),res_new _ _ _ _ _ _ rfl,World.ownsRow.alloc hO1 _,World.ownsRow.alloc hown2 _,bl_alloc hB _⟩ ?_
  clear hR hO1 hown2 hB c0 c1 c2 c3 c4 c5 c6 c7 c8 c9 c10 c11 c12
  generalize w3.heap.size=nb at *
  rintro X ⟨c0,c1,c2,c3,c4,c5,c6,c7,c8,c9,c10,c11,c12,x0,x1,x2,x3,hR,hN,hO1,hO2,hB⟩
  refine wp_region_held_drew (S:=fun w'=>P6 w' (w.heap.size) k l d b cc o (S4 w' (w.heap.size+1) at_ 0 ahd a1 n cp1 (X3 w' (w.heap.size+1+1) ak anow acost (S4 w' nb aat 0 ahd a2 m2 cp2 (ResB w' (w.heap.size+1+1+1)∧ResB w' nb∧OwnLog w' w1.heap.size (.slice a1 n cp1) n L∧OwnLog w' base2 (.slice a2 m2 cp2) m2 L2∧Below w.heap.size w w'))))) (by kernel_rfl) ?_ (fun hHeld=>?_)
  · exact⟨c0,c1,c2,c3,c4,c5,c6,c7,c8,c9,c10,c11,c12,x0,x1,x2,x3,hR,hN,hO1,hO2,bl_drew hB⟩
  try simp only[Act.put,List.setIfInBounds_toArray,List.set_cons_zero,List.set_cons_succ]
  refine tkx 0 ?_
  refine tkx 1 ?_
  refine tkx 2 ?_
  refine tkx 3 ?_
  refine tkx 4 ?_
  refine tkx 5 ?_
  refine tkx 6 ?_
  (refine callH (i:=7) rfl hHeld (fun W hW K hK=>?_);clear hHeld;(try dsimp only at hW);obtain⟨h0,h1,h2,h3,h4,h5,h6,h7,h8,h9,h10,h11,h12,y0,y1,y2,y3,hr',hn',ho1',ho2',hB'⟩:=hW;go_simp;refine(HSM.out _ _ _ _ (own_at ho2')).mono ?_;rintro e w9 ⟨rfl,hb⟩;go_wp2_with fail;refine hK.out _ _ ?_ (fun hHeld=>?_);(focus((try dsimp only);exact⟨bl_cell hb h0,bl_cell hb h1,bl_cell hb h2,bl_cell hb h3,bl_cell hb h4,bl_cell hb h5,bl_cell hb h6,bl_cell hb h7,bl_cell hb h8,bl_cell hb h9,bl_cell hb h10,bl_cell hb h11,bl_cell hb h12,bl_cell hb y0,bl_cell hb y1,bl_cell hb y2,bl_cell hb y3,res_bl hr' hb,res_bl hn' hb,own_bl ho1' hb,own_bl ho2' hb,bl_then hB' hb⟩));clear hK K;try simp only[Act.put,List.setIfInBounds_toArray,List.set_cons_zero,List.set_cons_succ])
  refine tkx 8 ?_
  refine tkx 9 ?_
  refine wpAnyH_done (by kernel_rfl) ?_ _
  refine then_abs (F:=fun X=>P6 X (w.heap.size) k l d b cc o (S4 X (w.heap.size+1) at_ 0 ahd a1 n cp1 (X3 X (w.heap.size+1+1) ak anow acost (S4 X nb aat 0 ahd a2 m2 cp2 (ResB X (w.heap.size+1+1+1)∧ResB X nb∧OwnLog X w1.heap.size (.slice a1 n cp1) n L∧OwnLog X base2 (.slice a2 m2 cp2) m2 L2∧Below w.heap.size w X))))) hHeld ?_
  clear hHeld hR hN hO1 hO2 hB c0 c1 c2 c3 c4 c5 c6 c7 c8 c9 c10 c11 c12 x0 x1 x2 x3
  rintro Y ⟨c0,c1,c2,c3,c4,c5,c6,c7,c8,c9,c10,c11,c12,x0,x1,x2,x3,hR,hN,hO1,hO2,hE⟩
  obtain⟨F0,F1,F2,F3,U0,U1,U2,U3,I0,I1,I2,I3⟩:=res_all hR
  have hz2:=(hN 2 (by omega)).1
  have n0:¬ nb=w.heap.size:=by omega
  have m0':¬ w.heap.size=nb:=by omega
  have n1:¬ nb=w.heap.size+1:=by omega
  have m1':¬ w.heap.size+1=nb:=by omega
  have n2:¬ nb=w.heap.size+1+1:=by omega
  have m2':¬ w.heap.size+1+1=nb:=by omega
  have n3:¬ nb=w.heap.size+1+1+1:=by omega
  have m3':¬ w.heap.size+1+1+1=nb:=by omega
  repeat' (first|go_skip|go_guarded|go_step|go_upon)
  (try simp only[Exit.inBlock,Exit.then])
  refine bodyPost_ret (results_state2 rfl _ _ (by rfl) (set4r hR)) rfl ⟨⟨_,_,by first|rfl|simp,own_mono (own_far4 hO1 (own_above hO1 (by omega))) (by omega)⟩,bl4 hE (by omega)⟩

theorem wdo_full1 (p:Pol) (s:St) (a:Option Addr) (n c:Nat) (anow acost:Int) (A:St) (w:World) (h:rightL p s) (hlog:LogAt w a n c s.log) (hA:A=advL p s anow) (e1:1≤acost) (e2:¬ acost≤p.limit - s.held - sumL A.log) :
    Calls Tryz.prog 108 #[p.v,s.v a n c,.agg #[.int .i64 1,.int .i64 anow,.int .i64 acost]] w fun e w'=>StOwn2 (s,false) w.heap.size e w'∧Below w.heap.size w w':=by
  have hrt:=fun W hW=>wright_any p s a n c W hW
  rw[decide_eq_true h] at hrt
  have hav:=fun a1 c1 W hW=>wadv_any p s a1 n c1 anow W hW
  have hall:=risen_all h.2.2.2.2.2.2.1
  have hsub:=live_sub p.period (up s.at_ (clampT anow)) s.log
  have hssum:=live_sum p.period (up s.at_ (clampT anow)) s.log (fun e he=>by have:=(hall e he).1;omega)
  have hAe:A.log=live p.period (up s.at_ (clampT anow)) s.log∧A.level=0∧A.held=s.held:=by rw[hA];unfold advL;rw[if_pos h];exact⟨rfl,rfl,rfl⟩
  rw[← hA] at hav
  rw[← hAe.1] at hsub hssum
  obtain⟨⟨q0,q1,q2,q3,q4,q5,q6,q7⟩,r1,r2,r3,r4,r5,r6,r7,r8⟩:=h
  have hlen:=hlog.1
  have hsb:=sumL_bound A.log 1048576 (fun e he=>by have:=hall e (hsub.1 e he);omega)
  have hn1:n≤100:=by omega
  have hent:∀ e ∈ A.log,0≤e.2∧e.2≤1048576:=fun e he=>by have:=hall e (hsub.1 e he);omega
  have hw1:IntKind.i64.wrap (p.limit - s.held)=p.limit - s.held:=IntWalk.i64_in _ (by omega)
  have hw2:IntKind.i64.wrap (p.limit - s.held - sumL A.log)=p.limit - s.held - sumL A.log:=IntWalk.i64_in _ (by omega)
  have hsum:=fun a2 m2 c2 W (hW:LogAt W a2 m2 c2 A.log)=>sum_any a2 m2 c2 A.log W hW (by have:=hW.1;have:=hsub.2;omega) hent
  have HX:=Go.Lib.hid (And.intro hn1 (And.intro hent (And.intro hsub.2 hlen)))
  clear hall hsb hsub hssum hent hA r1 r2 r3 r4 r6 r7 r8 q0 q1 q2 q3 q4 q5 q6 q7
  obtain⟨k,l,d,b,cc,o⟩:=p
  obtain⟨at_,level,held,L⟩:=s
  obtain⟨aat,alv,ahd,L2⟩:=A
  obtain⟨-,hz1,hz2⟩:=hAe
  unfold St.v Pol.v at *
  dsimp only at *
  subst hz1 hz2 r5
  have HRT:=Go.Lib.hid hrt
  have HAV:=Go.Lib.hid hav
  have HSM:=Go.Lib.hid hsum
  have HLOG:=Go.Lib.hid hlog
  clear hrt hav hsum hlog hlen hn1
  generalize hS2:sumL L2=S2 at *
  clear hS2
  go_enter Tryz.func108,Tryz.ntmps108
  go_wp2_with fail
  refine(HRT.out _ (log_bl HLOG.out (bl_alloc (bl_alloc (bl_alloc (bl_alloc (bl_refl _) _) _) _) _))).mono ?_
  rintro e w1 ⟨rfl,hb⟩
  have hB:Below w.heap.size w w1:=bl_then (bl_alloc (bl_alloc (bl_alloc (bl_alloc (bl_refl _) _) _) _) _) hb
  obtain⟨c0,c1,c2,c3,c4,c5⟩:=b6 (w.heap.size) k l d b cc o hb
  have c6:=bl_cell (v:=.int .i64 at_) hb (show World.cell? _ ⟨w.heap.size+1,0,none⟩=_ by go_simp)
  have c7:=bl_cell (v:=.int .i64 0) hb (show World.cell? _ ⟨w.heap.size+1,1,none⟩=_ by go_simp)
  have c8:=bl_cell (v:=.int .i64 ahd) hb (show World.cell? _ ⟨w.heap.size+1,2,none⟩=_ by go_simp)
  have c9:=bl_cell (v:=.slice a n c) hb (show World.cell? _ ⟨w.heap.size+1,3,none⟩=_ by go_simp)
  obtain⟨c10,c11,c12⟩:=b3 (w.heap.size+1+1) 1 anow acost hb
  have hR:ResB w1 (w.heap.size+1+1+1):=res_bl (res_new _ _ _ _ _ _ (by simp)) hb
  have hQ:ResB w1 (w.heap.size+1):=res_bl (res_bl (res_new (w.alloc _) _ _ _ _ _ (by simp)) (bl_alloc (bl_alloc (bl_refl _) _) _)) hb
  have hlg1:=log_bl HLOG.out hB
  clear hb HRT HLOG
  go_wp2_with fail
  refine(clone_all _ _ _ _ _ hlg1 (by have:=HX.out.1;omega)).mono ?_
  rintro e w2 ⟨v1,rfl,hown1,hb⟩
  obtain⟨a1,cp1,rfl,hlog1⟩:=own_log hown1
  have d0:=bl_cell hb c0
  have d1:=bl_cell hb c1
  have d2:=bl_cell hb c2
  have d3:=bl_cell hb c3
  have d4:=bl_cell hb c4
  have d5:=bl_cell hb c5
  have d6:=bl_cell hb c6
  have d7:=bl_cell hb c7
  have d8:=bl_cell hb c8
  have d9:=bl_cell hb c9
  have d10:=bl_cell hb c10
  have d11:=bl_cell hb c11
  have d12:=bl_cell hb c12
  have dR:=res_bl hR hb
  have dQ:=res_bl hQ hb
  have dB:=bl_then hB hb
  have hlt1:=res_lt hR
  have fz:=(dQ 3 (by omega)).1
  clear hR hQ hB hb hlg1 c0 c1 c2 c3 c4 c5 c6 c7 c8 c9 c10 c11 c12
  go_wp2_with fail
  have hown1':=own_far hown1 ⟨w.heap.size+1,3,none⟩ (.slice a1 n cp1) (own_above hown1 (by dsimp only;omega))
  refine(HAV.out _ _ _ (own_at hown1')).mono ?_
  rintro e w3 ⟨⟨v2,m2,rfl,hown2⟩,hb⟩
  obtain⟨a2,cp2,rfl,hlog2⟩:=own_log hown2
  have c0:=bl_cell hb (far_set d0 ⟨w.heap.size+1,3,none⟩ (.slice a1 n cp1) (by dsimp only;omega))
  have c1:=bl_cell hb (far_set d1 ⟨w.heap.size+1,3,none⟩ (.slice a1 n cp1) (by dsimp only;omega))
  have c2:=bl_cell hb (far_set d2 ⟨w.heap.size+1,3,none⟩ (.slice a1 n cp1) (by dsimp only;omega))
  have c3:=bl_cell hb (far_set d3 ⟨w.heap.size+1,3,none⟩ (.slice a1 n cp1) (by dsimp only;omega))
  have c4:=bl_cell hb (far_set d4 ⟨w.heap.size+1,3,none⟩ (.slice a1 n cp1) (by dsimp only;omega))
  have c5:=bl_cell hb (far_set d5 ⟨w.heap.size+1,3,none⟩ (.slice a1 n cp1) (by dsimp only;omega))
  have c6:=bl_cell hb (set_other (a:=⟨w.heap.size+1,3,none⟩) d6 (.slice a1 n cp1) (by simp))
  have c7:=bl_cell hb (set_other (a:=⟨w.heap.size+1,3,none⟩) d7 (.slice a1 n cp1) (by simp))
  have c8:=bl_cell hb (set_other (a:=⟨w.heap.size+1,3,none⟩) d8 (.slice a1 n cp1) (by simp))
  have c9:w3.cell? ⟨w.heap.size+1,3,none⟩=some (.slice a1 n cp1):=bl_cell hb (World.cell?_setCell_same' _ _ _ (by rw[d9];rfl))
  have c10:=bl_cell hb (far_set d10 ⟨w.heap.size+1,3,none⟩ (.slice a1 n cp1) (by dsimp only;omega))
  have c11:=bl_cell hb (far_set d11 ⟨w.heap.size+1,3,none⟩ (.slice a1 n cp1) (by dsimp only;omega))
  have c12:=bl_cell hb (far_set d12 ⟨w.heap.size+1,3,none⟩ (.slice a1 n cp1) (by dsimp only;omega))
  have hR:=res_bl (res_set dR ⟨w.heap.size+1,3,none⟩ (.slice a1 n cp1)) hb
  have hB:=bl_then (bl_set dB (a:=⟨w.heap.size+1,3,none⟩) (by dsimp only;omega) (.slice a1 n cp1)) hb
  have hO1:=own_bl hown1' hb
  have hlt2:=res_lt (res_set dR ⟨w.heap.size+1,3,none⟩ (.slice a1 n cp1))
  have hle3:=hb.size
  have HV2:=Go.Lib.hid (World.ownsRow.lt hown2)
  have hle1:=hlt1
  generalize (w2.setCell ⟨w.heap.size+1,3,none⟩ (.slice a1 n cp1)).heap.size=base2 at *
  clear hb dR dQ dB hown1 hown1' hlog1 hlog2 HAV d0 d1 d2 d3 d4 d5 d6 d7 d8 d9 d10 d11 d12
  dsimp only
  go_wp2_with fail
  refine wp_abs (S0:=fun X=>P6 X (w.heap.size) k l d b cc o (S4 X (w.heap.size+1) at_ 0 ahd a1 n cp1 (X3 X (w.heap.size+1+1) 1 anow acost (S4 X (w3.heap.size) aat 0 ahd a2 m2 cp2 (ResB X (w.heap.size+1+1+1)∧ResB X w3.heap.size∧OwnLog X w1.heap.size (.slice a1 n cp1) n L∧OwnLog X base2 (.slice a2 m2 cp2) m2 L2∧Below w.heap.size w X))))) ⟨bl_cell (bl_alloc (bl_refl _) _) c0,bl_cell (bl_alloc (bl_refl _) _) c1,bl_cell (bl_alloc (bl_refl _) _) c2,bl_cell (bl_alloc (bl_refl _) _) c3,bl_cell (bl_alloc (bl_refl _) _) c4,bl_cell (bl_alloc (bl_refl _) _) c5,bl_cell (bl_alloc (bl_refl _) _) c6,bl_cell (bl_alloc (bl_refl _) _) c7,bl_cell (bl_alloc (bl_refl _) _) c8,bl_cell (bl_alloc (bl_refl _) _) c9,bl_cell (bl_alloc (bl_refl _) _) c10,bl_cell (bl_alloc (bl_refl _) _) c11,bl_cell (bl_alloc (bl_refl _) _) c12,by go_simp,by go_simp,by go_simp,by go_simp,res_bl hR (bl_alloc (bl_refl _) _),res_new _ _ _ _ _ _ rfl,World.ownsRow.alloc hO1 _,World.ownsRow.alloc hown2 _,bl_alloc hB _⟩ ?_
  clear hR hO1 hown2 hB c0 c1 c2 c3 c4 c5 c6 c7 c8 c9 c10 c11 c12
  generalize w3.heap.size=nb at *
  rintro X ⟨c0,c1,c2,c3,c4,c5,c6,c7,c8,c9,c10,c11,c12,x0,x1,x2,x3,hR,hN,hO1,hO2,hB⟩
  refine wp_region_held_drew (S:=fun w'=>P6 w' (w.heap.size) k l d b cc o (S4 w' (w.heap.size+1) at_ 0 ahd a1 n cp1 (X3 w' (w.heap.size+1+1) 1 anow acost (S4 w' nb aat 0 ahd a2 m2 cp2 (ResB w' (w.heap.size+1+1+1)∧ResB w' nb∧OwnLog w' w1.heap.size (.slice a1 n cp1) n L∧OwnLog w' base2 (.slice a2 m2 cp2) m2 L2∧Below w.heap.size w w'))))) (by kernel_rfl) ?_ (fun hHeld=>?_)
  · exact⟨c0,c1,c2,c3,c4,c5,c6,c7,c8,c9,c10,c11,c12,x0,x1,x2,x3,hR,hN,hO1,hO2,bl_drew hB⟩
  try simp only[Act.put,List.setIfInBounds_toArray,List.set_cons_zero,List.set_cons_succ]
  refine tkx 0 ?_
  refine tkx 1 ?_
  refine tkx 2 ?_
  refine tkx 3 ?_
  refine tkx 4 ?_
  refine tkx 5 ?_
  refine tkx 6 ?_
  (refine callH (i:=7) rfl hHeld (fun W hW K hK=>?_);clear hHeld;(try dsimp only at hW);obtain⟨h0,h1,h2,h3,h4,h5,h6,h7,h8,h9,h10,h11,h12,y0,y1,y2,y3,hr',hn',ho1',ho2',hB'⟩:=hW;go_simp;refine(HSM.out _ _ _ _ (own_at ho2')).mono ?_;rintro e w9 ⟨rfl,hb⟩;go_wp2_with fail;refine hK.out _ _ ?_ (fun hHeld=>?_);(focus((try dsimp only);exact⟨bl_cell hb h0,bl_cell hb h1,bl_cell hb h2,bl_cell hb h3,bl_cell hb h4,bl_cell hb h5,bl_cell hb h6,bl_cell hb h7,bl_cell hb h8,bl_cell hb h9,bl_cell hb h10,bl_cell hb h11,bl_cell hb h12,bl_cell hb y0,bl_cell hb y1,bl_cell hb y2,bl_cell hb y3,res_bl hr' hb,res_bl hn' hb,own_bl ho1' hb,own_bl ho2' hb,bl_then hB' hb⟩));clear hK K;try simp only[Act.put,List.setIfInBounds_toArray,List.set_cons_zero,List.set_cons_succ])
  refine tkx 8 ?_
  refine tkx 9 ?_
  refine wpAnyH_done (by kernel_rfl) ?_ _
  refine then_abs (F:=fun X=>P6 X (w.heap.size) k l d b cc o (S4 X (w.heap.size+1) at_ 0 ahd a1 n cp1 (X3 X (w.heap.size+1+1) 1 anow acost (S4 X nb aat 0 ahd a2 m2 cp2 (ResB X (w.heap.size+1+1+1)∧ResB X nb∧OwnLog X w1.heap.size (.slice a1 n cp1) n L∧OwnLog X base2 (.slice a2 m2 cp2) m2 L2∧Below w.heap.size w X))))) hHeld ?_
  clear hHeld hR hN hO1 hO2 hB c0 c1 c2 c3 c4 c5 c6 c7 c8 c9 c10 c11 c12 x0 x1 x2 x3
  rintro Y ⟨c0,c1,c2,c3,c4,c5,c6,c7,c8,c9,c10,c11,c12,x0,x1,x2,x3,hR,hN,hO1,hO2,hE⟩
  obtain⟨F0,F1,F2,F3,U0,U1,U2,U3,I0,I1,I2,I3⟩:=res_all hR
  have hz2:=(hN 2 (by omega)).1
  have n0:¬ nb=w.heap.size:=by omega
  have m0':¬ w.heap.size=nb:=by omega
  have n1:¬ nb=w.heap.size+1:=by omega
  have m1':¬ w.heap.size+1=nb:=by omega
  have n2:¬ nb=w.heap.size+1+1:=by omega
  have m2':¬ w.heap.size+1+1=nb:=by omega
  have n3:¬ nb=w.heap.size+1+1+1:=by omega
  have m3':¬ w.heap.size+1+1+1=nb:=by omega
  repeat' (first|go_skip|go_guarded|go_step|go_upon)
  (try simp only[Exit.inBlock,Exit.then])
  refine bodyPost_ret (results_state2 rfl _ _ (by rfl) (set4r hR)) rfl ⟨⟨_,_,by first|rfl|simp,own_mono (own_far4 hO1 (own_above hO1 (by omega))) (by omega)⟩,bl4 hE (by omega)⟩

theorem wdo_full2 (p:Pol) (s:St) (a:Option Addr) (n c:Nat) (anow acost:Int) (A:St) (w:World) (h:rightL p s) (hlog:LogAt w a n c s.log) (hA:A=advL p s anow) (e1:1≤acost) (e2:¬ acost≤p.limit - s.held - sumL A.log) :
    Calls Tryz.prog 108 #[p.v,s.v a n c,.agg #[.int .i64 2,.int .i64 anow,.int .i64 acost]] w fun e w'=>StOwn2 (s,false) w.heap.size e w'∧Below w.heap.size w w':=by
  have hrt:=fun W hW=>wright_any p s a n c W hW
  rw[decide_eq_true h] at hrt
  have hav:=fun a1 c1 W hW=>wadv_any p s a1 n c1 anow W hW
  have hall:=risen_all h.2.2.2.2.2.2.1
  have hsub:=live_sub p.period (up s.at_ (clampT anow)) s.log
  have hssum:=live_sum p.period (up s.at_ (clampT anow)) s.log (fun e he=>by have:=(hall e he).1;omega)
  have hAe:A.log=live p.period (up s.at_ (clampT anow)) s.log∧A.level=0∧A.held=s.held:=by rw[hA];unfold advL;rw[if_pos h];exact⟨rfl,rfl,rfl⟩
  rw[← hA] at hav
  rw[← hAe.1] at hsub hssum
  obtain⟨⟨q0,q1,q2,q3,q4,q5,q6,q7⟩,r1,r2,r3,r4,r5,r6,r7,r8⟩:=h
  have hlen:=hlog.1
  have hsb:=sumL_bound A.log 1048576 (fun e he=>by have:=hall e (hsub.1 e he);omega)
  have hn1:n≤100:=by omega
  have hent:∀ e ∈ A.log,0≤e.2∧e.2≤1048576:=fun e he=>by have:=hall e (hsub.1 e he);omega
  have hw1:IntKind.i64.wrap (p.limit - s.held)=p.limit - s.held:=IntWalk.i64_in _ (by omega)
  have hw2:IntKind.i64.wrap (p.limit - s.held - sumL A.log)=p.limit - s.held - sumL A.log:=IntWalk.i64_in _ (by omega)
  have hsum:=fun a2 m2 c2 W (hW:LogAt W a2 m2 c2 A.log)=>sum_any a2 m2 c2 A.log W hW (by have:=hW.1;have:=hsub.2;omega) hent
  have HX:=Go.Lib.hid (And.intro hn1 (And.intro hent (And.intro hsub.2 hlen)))
  clear hall hsb hsub hssum hent hA r1 r2 r3 r4 r6 r7 r8 q0 q1 q2 q3 q4 q5 q6 q7
  obtain⟨k,l,d,b,cc,o⟩:=p
  obtain⟨at_,level,held,L⟩:=s
  obtain⟨aat,alv,ahd,L2⟩:=A
  obtain⟨-,hz1,hz2⟩:=hAe
  unfold St.v Pol.v at *
  dsimp only at *
  subst hz1 hz2 r5
  have HRT:=Go.Lib.hid hrt
  have HAV:=Go.Lib.hid hav
  have HSM:=Go.Lib.hid hsum
  have HLOG:=Go.Lib.hid hlog
  clear hrt hav hsum hlog hlen hn1
  generalize hS2:sumL L2=S2 at *
  clear hS2
  go_enter Tryz.func108,Tryz.ntmps108
  go_wp2_with fail
  refine(HRT.out _ (log_bl HLOG.out (bl_alloc (bl_alloc (bl_alloc (bl_alloc (bl_refl _) _) _) _) _))).mono ?_
  rintro e w1 ⟨rfl,hb⟩
  have hB:Below w.heap.size w w1:=bl_then (bl_alloc (bl_alloc (bl_alloc (bl_alloc (bl_refl _) _) _) _) _) hb
  obtain⟨c0,c1,c2,c3,c4,c5⟩:=b6 (w.heap.size) k l d b cc o hb
  have c6:=bl_cell (v:=.int .i64 at_) hb (show World.cell? _ ⟨w.heap.size+1,0,none⟩=_ by go_simp)
  have c7:=bl_cell (v:=.int .i64 0) hb (show World.cell? _ ⟨w.heap.size+1,1,none⟩=_ by go_simp)
  have c8:=bl_cell (v:=.int .i64 ahd) hb (show World.cell? _ ⟨w.heap.size+1,2,none⟩=_ by go_simp)
  have c9:=bl_cell (v:=.slice a n c) hb (show World.cell? _ ⟨w.heap.size+1,3,none⟩=_ by go_simp)
  obtain⟨c10,c11,c12⟩:=b3 (w.heap.size+1+1) 2 anow acost hb
  have hR:ResB w1 (w.heap.size+1+1+1):=res_bl (res_new _ _ _ _ _ _ (by simp)) hb
  have hQ:ResB w1 (w.heap.size+1):=res_bl (res_bl (res_new (w.alloc _) _ _ _ _ _ (by simp)) (bl_alloc (bl_alloc (bl_refl _) _) _)) hb
  have hlg1:=log_bl HLOG.out hB
  clear hb HRT HLOG
  go_wp2_with fail
  refine(clone_all _ _ _ _ _ hlg1 (by have:=HX.out.1;omega)).mono ?_
  rintro e w2 ⟨v1,rfl,hown1,hb⟩
  obtain⟨a1,cp1,rfl,hlog1⟩:=own_log hown1
  have d0:=bl_cell hb c0
  have d1:=bl_cell hb c1
  have d2:=bl_cell hb c2
  have d3:=bl_cell hb c3
  have d4:=bl_cell hb c4
  have d5:=bl_cell hb c5
  have d6:=bl_cell hb c6
  have d7:=bl_cell hb c7
  have d8:=bl_cell hb c8
  have d9:=bl_cell hb c9
  have d10:=bl_cell hb c10
  have d11:=bl_cell hb c11
  have d12:=bl_cell hb c12
  have dR:=res_bl hR hb
  have dQ:=res_bl hQ hb
  have dB:=bl_then hB hb
  have hlt1:=res_lt hR
  have fz:=(dQ 3 (by omega)).1
  clear hR hQ hB hb hlg1 c0 c1 c2 c3 c4 c5 c6 c7 c8 c9 c10 c11 c12
  go_wp2_with fail
  have hown1':=own_far hown1 ⟨w.heap.size+1,3,none⟩ (.slice a1 n cp1) (own_above hown1 (by dsimp only;omega))
  refine(HAV.out _ _ _ (own_at hown1')).mono ?_
  rintro e w3 ⟨⟨v2,m2,rfl,hown2⟩,hb⟩
  obtain⟨a2,cp2,rfl,hlog2⟩:=own_log hown2
  have c0:=bl_cell hb (far_set d0 ⟨w.heap.size+1,3,none⟩ (.slice a1 n cp1) (by dsimp only;omega))
  have c1:=bl_cell hb (far_set d1 ⟨w.heap.size+1,3,none⟩ (.slice a1 n cp1) (by dsimp only;omega))
  have c2:=bl_cell hb (far_set d2 ⟨w.heap.size+1,3,none⟩ (.slice a1 n cp1) (by dsimp only;omega))
  have c3:=bl_cell hb (far_set d3 ⟨w.heap.size+1,3,none⟩ (.slice a1 n cp1) (by dsimp only;omega))
  have c4:=bl_cell hb (far_set d4 ⟨w.heap.size+1,3,none⟩ (.slice a1 n cp1) (by dsimp only;omega))
  have c5:=bl_cell hb (far_set d5 ⟨w.heap.size+1,3,none⟩ (.slice a1 n cp1) (by dsimp only;omega))
  have c6:=bl_cell hb (set_other (a:=⟨w.heap.size+1,3,none⟩) d6 (.slice a1 n cp1) (by simp))
  have c7:=bl_cell hb (set_other (a:=⟨w.heap.size+1,3,none⟩) d7 (.slice a1 n cp1) (by simp))
  have c8:=bl_cell hb (set_other (a:=⟨w.heap.size+1,3,none⟩) d8 (.slice a1 n cp1) (by simp))
  have c9:w3.cell? ⟨w.heap.size+1,3,none⟩=some (.slice a1 n cp1):=bl_cell hb (World.cell?_setCell_same' _ _ _ (by rw[d9];rfl))
  have c10:=bl_cell hb (far_set d10 ⟨w.heap.size+1,3,none⟩ (.slice a1 n cp1) (by dsimp only;omega))
  have c11:=bl_cell hb (far_set d11 ⟨w.heap.size+1,3,none⟩ (.slice a1 n cp1) (by dsimp only;omega))
  have c12:=bl_cell hb (far_set d12 ⟨w.heap.size+1,3,none⟩ (.slice a1 n cp1) (by dsimp only;omega))
  have hR:=res_bl (res_set dR ⟨w.heap.size+1,3,none⟩ (.slice a1 n cp1)) hb
  have hB:=bl_then (bl_set dB (a:=⟨w.heap.size+1,3,none⟩) (by dsimp only;omega) (.slice a1 n cp1)) hb
  have hO1:=own_bl hown1' hb
  have hlt2:=res_lt (res_set dR ⟨w.heap.size+1,3,none⟩ (.slice a1 n cp1))
  have hle3:=hb.size
  have HV2:=Go.Lib.hid (World.ownsRow.lt hown2)
  have hle1:=hlt1
  generalize (w2.setCell ⟨w.heap.size+1,3,none⟩ (.slice a1 n cp1)).heap.size=base2 at *
  clear hb dR dQ dB hown1 hown1' hlog1 hlog2 HAV d0 d1 d2 d3 d4 d5 d6 d7 d8 d9 d10 d11 d12
  dsimp only
  go_wp2_with fail
  refine wp_abs (S0:=fun X=>P6 X (w.heap.size) k l d b cc o (S4 X (w.heap.size+1) at_ 0 ahd a1 n cp1 (X3 X (w.heap.size+1+1) 2 anow acost (S4 X (w3.heap.size) aat 0 ahd a2 m2 cp2 (ResB X (w.heap.size+1+1+1)∧ResB X w3.heap.size∧OwnLog X w1.heap.size (.slice a1 n cp1) n L∧OwnLog X base2 (.slice a2 m2 cp2) m2 L2∧Below w.heap.size w X))))) ⟨bl_cell (bl_alloc (bl_refl _) _) c0,bl_cell (bl_alloc (bl_refl _) _) c1,bl_cell (bl_alloc (bl_refl _) _) c2,bl_cell (bl_alloc (bl_refl _) _) c3,bl_cell (bl_alloc (bl_refl _) _) c4,bl_cell (bl_alloc (bl_refl _) _) c5,bl_cell (bl_alloc (bl_refl _) _) c6,bl_cell (bl_alloc (bl_refl _) _) c7,bl_cell (bl_alloc (bl_refl _) _) c8,bl_cell (bl_alloc (bl_refl _) _) c9,bl_cell (bl_alloc (bl_refl _) _) c10,bl_cell (bl_alloc (bl_refl _) _) c11,bl_cell (bl_alloc (bl_refl _) _) c12,by go_simp,by go_simp,by go_simp,by go_simp,res_bl hR (bl_alloc (bl_refl _) _),res_new _ _ _ _ _ _ rfl,World.ownsRow.alloc hO1 _,World.ownsRow.alloc hown2 _,bl_alloc hB _⟩ ?_
  clear hR hO1 hown2 hB c0 c1 c2 c3 c4 c5 c6 c7 c8 c9 c10 c11 c12
  generalize w3.heap.size=nb at *
  rintro X ⟨c0,c1,c2,c3,c4,c5,c6,c7,c8,c9,c10,c11,c12,x0,x1,x2,x3,hR,hN,hO1,hO2,hB⟩
  refine wp_region_held_drew (S:=fun w'=>P6 w' (w.heap.size) k l d b cc o (S4 w' (w.heap.size+1) at_ 0 ahd a1 n cp1 (X3 w' (w.heap.size+1+1) 2 anow acost (S4 w' nb aat 0 ahd a2 m2 cp2 (ResB w' (w.heap.size+1+1+1)∧ResB w' nb∧OwnLog w' w1.heap.size (.slice a1 n cp1) n L∧OwnLog w' base2 (.slice a2 m2 cp2) m2 L2∧Below w.heap.size w w'))))) (by kernel_rfl) ?_ (fun hHeld=>?_)
  · exact⟨c0,c1,c2,c3,c4,c5,c6,c7,c8,c9,c10,c11,c12,x0,x1,x2,x3,hR,hN,hO1,hO2,bl_drew hB⟩
  try simp only[Act.put,List.setIfInBounds_toArray,List.set_cons_zero,List.set_cons_succ]
  refine tkx 0 ?_
  refine tkx 1 ?_
  refine tkx 2 ?_
  refine tkx 3 ?_
  refine tkx 4 ?_
  refine tkx 5 ?_
  refine tkx 6 ?_
  (refine callH (i:=7) rfl hHeld (fun W hW K hK=>?_);clear hHeld;(try dsimp only at hW);obtain⟨h0,h1,h2,h3,h4,h5,h6,h7,h8,h9,h10,h11,h12,y0,y1,y2,y3,hr',hn',ho1',ho2',hB'⟩:=hW;go_simp;refine(HSM.out _ _ _ _ (own_at ho2')).mono ?_;rintro e w9 ⟨rfl,hb⟩;go_wp2_with fail;refine hK.out _ _ ?_ (fun hHeld=>?_);(focus((try dsimp only);exact⟨bl_cell hb h0,bl_cell hb h1,bl_cell hb h2,bl_cell hb h3,bl_cell hb h4,bl_cell hb h5,bl_cell hb h6,bl_cell hb h7,bl_cell hb h8,bl_cell hb h9,bl_cell hb h10,bl_cell hb h11,bl_cell hb h12,bl_cell hb y0,bl_cell hb y1,bl_cell hb y2,bl_cell hb y3,res_bl hr' hb,res_bl hn' hb,own_bl ho1' hb,own_bl ho2' hb,bl_then hB' hb⟩));clear hK K;try simp only[Act.put,List.setIfInBounds_toArray,List.set_cons_zero,List.set_cons_succ])
  refine tkx 8 ?_
  refine tkx 9 ?_
  refine wpAnyH_done (by kernel_rfl) ?_ _
  refine then_abs (F:=fun X=>P6 X (w.heap.size) k l d b cc o (S4 X (w.heap.size+1) at_ 0 ahd a1 n cp1 (X3 X (w.heap.size+1+1) 2 anow acost (S4 X nb aat 0 ahd a2 m2 cp2 (ResB X (w.heap.size+1+1+1)∧ResB X nb∧OwnLog X w1.heap.size (.slice a1 n cp1) n L∧OwnLog X base2 (.slice a2 m2 cp2) m2 L2∧Below w.heap.size w X))))) hHeld ?_
  clear hHeld hR hN hO1 hO2 hB c0 c1 c2 c3 c4 c5 c6 c7 c8 c9 c10 c11 c12 x0 x1 x2 x3
  rintro Y ⟨c0,c1,c2,c3,c4,c5,c6,c7,c8,c9,c10,c11,c12,x0,x1,x2,x3,hR,hN,hO1,hO2,hE⟩
  obtain⟨F0,F1,F2,F3,U0,U1,U2,U3,I0,I1,I2,I3⟩:=res_all hR
  have hz2:=(hN 2 (by omega)).1
  have n0:¬ nb=w.heap.size:=by omega
  have m0':¬ w.heap.size=nb:=by omega
  have n1:¬ nb=w.heap.size+1:=by omega
  have m1':¬ w.heap.size+1=nb:=by omega
  have n2:¬ nb=w.heap.size+1+1:=by omega
  have m2':¬ w.heap.size+1+1=nb:=by omega
  have n3:¬ nb=w.heap.size+1+1+1:=by omega
  have m3':¬ w.heap.size+1+1+1=nb:=by omega
  repeat' (first|go_skip|go_guarded|go_step|go_upon)
  (try simp only[Exit.inBlock,Exit.then])
  refine bodyPost_ret (results_state2 rfl _ _ (by rfl) (set4r hR)) rfl ⟨⟨_,_,by first|rfl|simp,own_mono (own_far4 hO1 (own_above hO1 (by omega))) (by omega)⟩,bl4 hE (by omega)⟩

theorem wdo_over3 (p:Pol) (s:St) (a:Option Addr) (n c:Nat) (anow acost:Int) (A:St) (w:World) (h:rightL p s) (hlog:LogAt w a n c s.log) (hA:A=advL p s anow) (e1:1≤acost) (e2:¬ acost≤s.held) :
    Calls Tryz.prog 108 #[p.v,s.v a n c,.agg #[.int .i64 3,.int .i64 anow,.int .i64 acost]] w fun e w'=>StOwn2 (s,false) w.heap.size e w'∧Below w.heap.size w w':=by
  have hrt:=fun W hW=>wright_any p s a n c W hW
  rw[decide_eq_true h] at hrt
  have hav:=fun a1 c1 W hW=>wadv_any p s a1 n c1 anow W hW
  have hall:=risen_all h.2.2.2.2.2.2.1
  have hsub:=live_sub p.period (up s.at_ (clampT anow)) s.log
  have hssum:=live_sum p.period (up s.at_ (clampT anow)) s.log (fun e he=>by have:=(hall e he).1;omega)
  have hAe:A.log=live p.period (up s.at_ (clampT anow)) s.log∧A.level=0∧A.held=s.held:=by rw[hA];unfold advL;rw[if_pos h];exact⟨rfl,rfl,rfl⟩
  rw[← hA] at hav
  rw[← hAe.1] at hsub hssum
  obtain⟨⟨q0,q1,q2,q3,q4,q5,q6,q7⟩,r1,r2,r3,r4,r5,r6,r7,r8⟩:=h
  have hlen:=hlog.1
  have hsb:=sumL_bound A.log 1048576 (fun e he=>by have:=hall e (hsub.1 e he);omega)
  have hn1:n≤100:=by omega
  have hent:∀ e ∈ A.log,0≤e.2∧e.2≤1048576:=fun e he=>by have:=hall e (hsub.1 e he);omega
  have hw1:IntKind.i64.wrap (p.limit - s.held)=p.limit - s.held:=IntWalk.i64_in _ (by omega)
  have hw2:IntKind.i64.wrap (p.limit - s.held - sumL A.log)=p.limit - s.held - sumL A.log:=IntWalk.i64_in _ (by omega)
  have hsum:=fun a2 m2 c2 W (hW:LogAt W a2 m2 c2 A.log)=>sum_any a2 m2 c2 A.log W hW (by have:=hW.1;have:=hsub.2;omega) hent
  have HX:=Go.Lib.hid (And.intro hn1 (And.intro hent (And.intro hsub.2 hlen)))
  clear hall hsb hsub hssum hent hA r1 r2 r3 r4 r6 r7 r8 q0 q1 q2 q3 q4 q5 q6 q7
  obtain⟨k,l,d,b,cc,o⟩:=p
  obtain⟨at_,level,held,L⟩:=s
  obtain⟨aat,alv,ahd,L2⟩:=A
  obtain⟨-,hz1,hz2⟩:=hAe
  unfold St.v Pol.v at *
  dsimp only at *
  subst hz1 hz2 r5
  have HRT:=Go.Lib.hid hrt
  have HAV:=Go.Lib.hid hav
  have HSM:=Go.Lib.hid hsum
  have HLOG:=Go.Lib.hid hlog
  clear hrt hav hsum hlog hlen hn1
  generalize hS2:sumL L2=S2 at *
  clear hS2
  go_enter Tryz.func108,Tryz.ntmps108
  go_wp2_with fail
  refine(HRT.out _ (log_bl HLOG.out (bl_alloc (bl_alloc (bl_alloc (bl_alloc (bl_refl _) _) _) _) _))).mono ?_
  rintro e w1 ⟨rfl,hb⟩
  have hB:Below w.heap.size w w1:=bl_then (bl_alloc (bl_alloc (bl_alloc (bl_alloc (bl_refl _) _) _) _) _) hb
  obtain⟨c0,c1,c2,c3,c4,c5⟩:=b6 (w.heap.size) k l d b cc o hb
  have c6:=bl_cell (v:=.int .i64 at_) hb (show World.cell? _ ⟨w.heap.size+1,0,none⟩=_ by go_simp)
  have c7:=bl_cell (v:=.int .i64 0) hb (show World.cell? _ ⟨w.heap.size+1,1,none⟩=_ by go_simp)
  have c8:=bl_cell (v:=.int .i64 ahd) hb (show World.cell? _ ⟨w.heap.size+1,2,none⟩=_ by go_simp)
  have c9:=bl_cell (v:=.slice a n c) hb (show World.cell? _ ⟨w.heap.size+1,3,none⟩=_ by go_simp)
  obtain⟨c10,c11,c12⟩:=b3 (w.heap.size+1+1) 3 anow acost hb
  have hR:ResB w1 (w.heap.size+1+1+1):=res_bl (res_new _ _ _ _ _ _ (by simp)) hb
  have hQ:ResB w1 (w.heap.size+1):=res_bl (res_bl (res_new (w.alloc _) _ _ _ _ _ (by simp)) (bl_alloc (bl_alloc (bl_refl _) _) _)) hb
  have hlg1:=log_bl HLOG.out hB
  clear hb HRT HLOG
  go_wp2_with fail
  refine(clone_all _ _ _ _ _ hlg1 (by have:=HX.out.1;omega)).mono ?_
  rintro e w2 ⟨v1,rfl,hown1,hb⟩
  obtain⟨a1,cp1,rfl,hlog1⟩:=own_log hown1
  have d0:=bl_cell hb c0
  have d1:=bl_cell hb c1
  have d2:=bl_cell hb c2
  have d3:=bl_cell hb c3
  have d4:=bl_cell hb c4
  have d5:=bl_cell hb c5
  have d6:=bl_cell hb c6
  have d7:=bl_cell hb c7
  have d8:=bl_cell hb c8
  have d9:=bl_cell hb c9
  have d10:=bl_cell hb c10
  have d11:=bl_cell hb c11
  have d12:=bl_cell hb c12
  have dR:=res_bl hR hb
  have dQ:=res_bl hQ hb
  have dB:=bl_then hB hb
  have hlt1:=res_lt hR
  have fz:=(dQ 3 (by omega)).1
  clear hR hQ hB hb hlg1 c0 c1 c2 c3 c4 c5 c6 c7 c8 c9 c10 c11 c12
  go_wp2_with fail
  have hown1':=own_far hown1 ⟨w.heap.size+1,3,none⟩ (.slice a1 n cp1) (own_above hown1 (by dsimp only;omega))
  refine(HAV.out _ _ _ (own_at hown1')).mono ?_
  rintro e w3 ⟨⟨v2,m2,rfl,hown2⟩,hb⟩
  obtain⟨a2,cp2,rfl,hlog2⟩:=own_log hown2
  have c0:=bl_cell hb (far_set d0 ⟨w.heap.size+1,3,none⟩ (.slice a1 n cp1) (by dsimp only;omega))
  have c1:=bl_cell hb (far_set d1 ⟨w.heap.size+1,3,none⟩ (.slice a1 n cp1) (by dsimp only;omega))
  have c2:=bl_cell hb (far_set d2 ⟨w.heap.size+1,3,none⟩ (.slice a1 n cp1) (by dsimp only;omega))
  have c3:=bl_cell hb (far_set d3 ⟨w.heap.size+1,3,none⟩ (.slice a1 n cp1) (by dsimp only;omega))
  have c4:=bl_cell hb (far_set d4 ⟨w.heap.size+1,3,none⟩ (.slice a1 n cp1) (by dsimp only;omega))
  have c5:=bl_cell hb (far_set d5 ⟨w.heap.size+1,3,none⟩ (.slice a1 n cp1) (by dsimp only;omega))
  have c6:=bl_cell hb (set_other (a:=⟨w.heap.size+1,3,none⟩) d6 (.slice a1 n cp1) (by simp))
  have c7:=bl_cell hb (set_other (a:=⟨w.heap.size+1,3,none⟩) d7 (.slice a1 n cp1) (by simp))
  have c8:=bl_cell hb (set_other (a:=⟨w.heap.size+1,3,none⟩) d8 (.slice a1 n cp1) (by simp))
  have c9:w3.cell? ⟨w.heap.size+1,3,none⟩=some (.slice a1 n cp1):=bl_cell hb (World.cell?_setCell_same' _ _ _ (by rw[d9];rfl))
  have c10:=bl_cell hb (far_set d10 ⟨w.heap.size+1,3,none⟩ (.slice a1 n cp1) (by dsimp only;omega))
  have c11:=bl_cell hb (far_set d11 ⟨w.heap.size+1,3,none⟩ (.slice a1 n cp1) (by dsimp only;omega))
  have c12:=bl_cell hb (far_set d12 ⟨w.heap.size+1,3,none⟩ (.slice a1 n cp1) (by dsimp only;omega))
  have hR:=res_bl (res_set dR ⟨w.heap.size+1,3,none⟩ (.slice a1 n cp1)) hb
  have hB:=bl_then (bl_set dB (a:=⟨w.heap.size+1,3,none⟩) (by dsimp only;omega) (.slice a1 n cp1)) hb
  have hO1:=own_bl hown1' hb
  have hlt2:=res_lt (res_set dR ⟨w.heap.size+1,3,none⟩ (.slice a1 n cp1))
  have hle3:=hb.size
  have HV2:=Go.Lib.hid (World.ownsRow.lt hown2)
  have hle1:=hlt1
  generalize (w2.setCell ⟨w.heap.size+1,3,none⟩ (.slice a1 n cp1)).heap.size=base2 at *
  clear hb dR dQ dB hown1 hown1' hlog1 hlog2 HAV d0 d1 d2 d3 d4 d5 d6 d7 d8 d9 d10 d11 d12
  dsimp only
  go_wp2_with fail
  refine wp_abs (S0:=fun X=>P6 X (w.heap.size) k l d b cc o (S4 X (w.heap.size+1) at_ 0 ahd a1 n cp1 (X3 X (w.heap.size+1+1) 3 anow acost (S4 X (w3.heap.size) aat 0 ahd a2 m2 cp2 (ResB X (w.heap.size+1+1+1)∧ResB X w3.heap.size∧OwnLog X w1.heap.size (.slice a1 n cp1) n L∧OwnLog X base2 (.slice a2 m2 cp2) m2 L2∧Below w.heap.size w X))))) ⟨bl_cell (bl_alloc (bl_refl _) _) c0,bl_cell (bl_alloc (bl_refl _) _) c1,bl_cell (bl_alloc (bl_refl _) _) c2,bl_cell (bl_alloc (bl_refl _) _) c3,bl_cell (bl_alloc (bl_refl _) _) c4,bl_cell (bl_alloc (bl_refl _) _) c5,bl_cell (bl_alloc (bl_refl _) _) c6,bl_cell (bl_alloc (bl_refl _) _) c7,bl_cell (bl_alloc (bl_refl _) _) c8,bl_cell (bl_alloc (bl_refl _) _) c9,bl_cell (bl_alloc (bl_refl _) _) c10,bl_cell (bl_alloc (bl_refl _) _) c11,bl_cell (bl_alloc (bl_refl _) _) c12,by go_simp,by go_simp,by go_simp,by go_simp,res_bl hR (bl_alloc (bl_refl _) _),res_new _ _ _ _ _ _ rfl,World.ownsRow.alloc hO1 _,World.ownsRow.alloc hown2 _,bl_alloc hB _⟩ ?_
  clear hR hO1 hown2 hB c0 c1 c2 c3 c4 c5 c6 c7 c8 c9 c10 c11 c12
  generalize w3.heap.size=nb at *
  rintro X ⟨c0,c1,c2,c3,c4,c5,c6,c7,c8,c9,c10,c11,c12,x0,x1,x2,x3,hR,hN,hO1,hO2,hB⟩
  refine wp_region_held_drew (S:=fun w'=>P6 w' (w.heap.size) k l d b cc o (S4 w' (w.heap.size+1) at_ 0 ahd a1 n cp1 (X3 w' (w.heap.size+1+1) 3 anow acost (S4 w' nb aat 0 ahd a2 m2 cp2 (ResB w' (w.heap.size+1+1+1)∧ResB w' nb∧OwnLog w' w1.heap.size (.slice a1 n cp1) n L∧OwnLog w' base2 (.slice a2 m2 cp2) m2 L2∧Below w.heap.size w w'))))) (by kernel_rfl) ?_ (fun hHeld=>?_)
  · exact⟨c0,c1,c2,c3,c4,c5,c6,c7,c8,c9,c10,c11,c12,x0,x1,x2,x3,hR,hN,hO1,hO2,bl_drew hB⟩
  try simp only[Act.put,List.setIfInBounds_toArray,List.set_cons_zero,List.set_cons_succ]
  refine tkx 0 ?_
  refine tkx 1 ?_
  refine tkx 2 ?_
  refine tkx 3 ?_
  refine tkx 4 ?_
  refine tkx 5 ?_
  refine tkx 6 ?_
  (refine callH (i:=7) rfl hHeld (fun W hW K hK=>?_);clear hHeld;(try dsimp only at hW);obtain⟨h0,h1,h2,h3,h4,h5,h6,h7,h8,h9,h10,h11,h12,y0,y1,y2,y3,hr',hn',ho1',ho2',hB'⟩:=hW;go_simp;refine(HSM.out _ _ _ _ (own_at ho2')).mono ?_;rintro e w9 ⟨rfl,hb⟩;go_wp2_with fail;refine hK.out _ _ ?_ (fun hHeld=>?_);(focus((try dsimp only);exact⟨bl_cell hb h0,bl_cell hb h1,bl_cell hb h2,bl_cell hb h3,bl_cell hb h4,bl_cell hb h5,bl_cell hb h6,bl_cell hb h7,bl_cell hb h8,bl_cell hb h9,bl_cell hb h10,bl_cell hb h11,bl_cell hb h12,bl_cell hb y0,bl_cell hb y1,bl_cell hb y2,bl_cell hb y3,res_bl hr' hb,res_bl hn' hb,own_bl ho1' hb,own_bl ho2' hb,bl_then hB' hb⟩));clear hK K;try simp only[Act.put,List.setIfInBounds_toArray,List.set_cons_zero,List.set_cons_succ])
  refine tkx 8 ?_
  refine tkx 9 ?_
  refine wpAnyH_done (by kernel_rfl) ?_ _
  refine then_abs (F:=fun X=>P6 X (w.heap.size) k l d b cc o (S4 X (w.heap.size+1) at_ 0 ahd a1 n cp1 (X3 X (w.heap.size+1+1) 3 anow acost (S4 X nb aat 0 ahd a2 m2 cp2 (ResB X (w.heap.size+1+1+1)∧ResB X nb∧OwnLog X w1.heap.size (.slice a1 n cp1) n L∧OwnLog X base2 (.slice a2 m2 cp2) m2 L2∧Below w.heap.size w X))))) hHeld ?_
  clear hHeld hR hN hO1 hO2 hB c0 c1 c2 c3 c4 c5 c6 c7 c8 c9 c10 c11 c12 x0 x1 x2 x3
  rintro Y ⟨c0,c1,c2,c3,c4,c5,c6,c7,c8,c9,c10,c11,c12,x0,x1,x2,x3,hR,hN,hO1,hO2,hE⟩
  obtain⟨F0,F1,F2,F3,U0,U1,U2,U3,I0,I1,I2,I3⟩:=res_all hR
  have hz2:=(hN 2 (by omega)).1
  have n0:¬ nb=w.heap.size:=by omega
  have m0':¬ w.heap.size=nb:=by omega
  have n1:¬ nb=w.heap.size+1:=by omega
  have m1':¬ w.heap.size+1=nb:=by omega
  have n2:¬ nb=w.heap.size+1+1:=by omega
  have m2':¬ w.heap.size+1+1=nb:=by omega
  have n3:¬ nb=w.heap.size+1+1+1:=by omega
  have m3':¬ w.heap.size+1+1+1=nb:=by omega
  repeat' (first|go_skip|go_guarded|go_step|go_upon)
  (try simp only[Exit.inBlock,Exit.then])
  refine bodyPost_ret (results_state2 rfl _ _ (by rfl) (set4r hR)) rfl ⟨⟨_,_,by first|rfl|simp,own_mono (own_far4 hO1 (own_above hO1 (by omega))) (by omega)⟩,bl4 hE (by omega)⟩

theorem wdo_over4 (p:Pol) (s:St) (a:Option Addr) (n c:Nat) (anow acost:Int) (A:St) (w:World) (h:rightL p s) (hlog:LogAt w a n c s.log) (hA:A=advL p s anow) (e1:1≤acost) (e2:¬ acost≤s.held) :
    Calls Tryz.prog 108 #[p.v,s.v a n c,.agg #[.int .i64 4,.int .i64 anow,.int .i64 acost]] w fun e w'=>StOwn2 (s,false) w.heap.size e w'∧Below w.heap.size w w':=by
  have hrt:=fun W hW=>wright_any p s a n c W hW
  rw[decide_eq_true h] at hrt
  have hav:=fun a1 c1 W hW=>wadv_any p s a1 n c1 anow W hW
  have hall:=risen_all h.2.2.2.2.2.2.1
  have hsub:=live_sub p.period (up s.at_ (clampT anow)) s.log
  have hssum:=live_sum p.period (up s.at_ (clampT anow)) s.log (fun e he=>by have:=(hall e he).1;omega)
  have hAe:A.log=live p.period (up s.at_ (clampT anow)) s.log∧A.level=0∧A.held=s.held:=by rw[hA];unfold advL;rw[if_pos h];exact⟨rfl,rfl,rfl⟩
  rw[← hA] at hav
  rw[← hAe.1] at hsub hssum
  obtain⟨⟨q0,q1,q2,q3,q4,q5,q6,q7⟩,r1,r2,r3,r4,r5,r6,r7,r8⟩:=h
  have hlen:=hlog.1
  have hsb:=sumL_bound A.log 1048576 (fun e he=>by have:=hall e (hsub.1 e he);omega)
  have hn1:n≤100:=by omega
  have hent:∀ e ∈ A.log,0≤e.2∧e.2≤1048576:=fun e he=>by have:=hall e (hsub.1 e he);omega
  have hw1:IntKind.i64.wrap (p.limit - s.held)=p.limit - s.held:=IntWalk.i64_in _ (by omega)
  have hw2:IntKind.i64.wrap (p.limit - s.held - sumL A.log)=p.limit - s.held - sumL A.log:=IntWalk.i64_in _ (by omega)
  have hsum:=fun a2 m2 c2 W (hW:LogAt W a2 m2 c2 A.log)=>sum_any a2 m2 c2 A.log W hW (by have:=hW.1;have:=hsub.2;omega) hent
  have HX:=Go.Lib.hid (And.intro hn1 (And.intro hent (And.intro hsub.2 hlen)))
  clear hall hsb hsub hssum hent hA r1 r2 r3 r4 r6 r7 r8 q0 q1 q2 q3 q4 q5 q6 q7
  obtain⟨k,l,d,b,cc,o⟩:=p
  obtain⟨at_,level,held,L⟩:=s
  obtain⟨aat,alv,ahd,L2⟩:=A
  obtain⟨-,hz1,hz2⟩:=hAe
  unfold St.v Pol.v at *
  dsimp only at *
  subst hz1 hz2 r5
  have HRT:=Go.Lib.hid hrt
  have HAV:=Go.Lib.hid hav
  have HSM:=Go.Lib.hid hsum
  have HLOG:=Go.Lib.hid hlog
  clear hrt hav hsum hlog hlen hn1
  generalize hS2:sumL L2=S2 at *
  clear hS2
  go_enter Tryz.func108,Tryz.ntmps108
  go_wp2_with fail
  refine(HRT.out _ (log_bl HLOG.out (bl_alloc (bl_alloc (bl_alloc (bl_alloc (bl_refl _) _) _) _) _))).mono ?_
  rintro e w1 ⟨rfl,hb⟩
  have hB:Below w.heap.size w w1:=bl_then (bl_alloc (bl_alloc (bl_alloc (bl_alloc (bl_refl _) _) _) _) _) hb
  obtain⟨c0,c1,c2,c3,c4,c5⟩:=b6 (w.heap.size) k l d b cc o hb
  have c6:=bl_cell (v:=.int .i64 at_) hb (show World.cell? _ ⟨w.heap.size+1,0,none⟩=_ by go_simp)
  have c7:=bl_cell (v:=.int .i64 0) hb (show World.cell? _ ⟨w.heap.size+1,1,none⟩=_ by go_simp)
  have c8:=bl_cell (v:=.int .i64 ahd) hb (show World.cell? _ ⟨w.heap.size+1,2,none⟩=_ by go_simp)
  have c9:=bl_cell (v:=.slice a n c) hb (show World.cell? _ ⟨w.heap.size+1,3,none⟩=_ by go_simp)
  obtain⟨c10,c11,c12⟩:=b3 (w.heap.size+1+1) 4 anow acost hb
  have hR:ResB w1 (w.heap.size+1+1+1):=res_bl (res_new _ _ _ _ _ _ (by simp)) hb
  have hQ:ResB w1 (w.heap.size+1):=res_bl (res_bl (res_new (w.alloc _) _ _ _ _ _ (by simp)) (bl_alloc (bl_alloc (bl_refl _) _) _)) hb
  have hlg1:=log_bl HLOG.out hB
  clear hb HRT HLOG
  go_wp2_with fail
  refine(clone_all _ _ _ _ _ hlg1 (by have:=HX.out.1;omega)).mono ?_
  rintro e w2 ⟨v1,rfl,hown1,hb⟩
  obtain⟨a1,cp1,rfl,hlog1⟩:=own_log hown1
  have d0:=bl_cell hb c0
  have d1:=bl_cell hb c1
  have d2:=bl_cell hb c2
  have d3:=bl_cell hb c3
  have d4:=bl_cell hb c4
  have d5:=bl_cell hb c5
  have d6:=bl_cell hb c6
  have d7:=bl_cell hb c7
  have d8:=bl_cell hb c8
  have d9:=bl_cell hb c9
  have d10:=bl_cell hb c10
  have d11:=bl_cell hb c11
  have d12:=bl_cell hb c12
  have dR:=res_bl hR hb
  have dQ:=res_bl hQ hb
  have dB:=bl_then hB hb
  have hlt1:=res_lt hR
  have fz:=(dQ 3 (by omega)).1
  clear hR hQ hB hb hlg1 c0 c1 c2 c3 c4 c5 c6 c7 c8 c9 c10 c11 c12
  go_wp2_with fail
  have hown1':=own_far hown1 ⟨w.heap.size+1,3,none⟩ (.slice a1 n cp1) (own_above hown1 (by dsimp only;omega))
  refine(HAV.out _ _ _ (own_at hown1')).mono ?_
  rintro e w3 ⟨⟨v2,m2,rfl,hown2⟩,hb⟩
  obtain⟨a2,cp2,rfl,hlog2⟩:=own_log hown2
  have c0:=bl_cell hb (far_set d0 ⟨w.heap.size+1,3,none⟩ (.slice a1 n cp1) (by dsimp only;omega))
  have c1:=bl_cell hb (far_set d1 ⟨w.heap.size+1,3,none⟩ (.slice a1 n cp1) (by dsimp only;omega))
  have c2:=bl_cell hb (far_set d2 ⟨w.heap.size+1,3,none⟩ (.slice a1 n cp1) (by dsimp only;omega))
  have c3:=bl_cell hb (far_set d3 ⟨w.heap.size+1,3,none⟩ (.slice a1 n cp1) (by dsimp only;omega))
  have c4:=bl_cell hb (far_set d4 ⟨w.heap.size+1,3,none⟩ (.slice a1 n cp1) (by dsimp only;omega))
  have c5:=bl_cell hb (far_set d5 ⟨w.heap.size+1,3,none⟩ (.slice a1 n cp1) (by dsimp only;omega))
  have c6:=bl_cell hb (set_other (a:=⟨w.heap.size+1,3,none⟩) d6 (.slice a1 n cp1) (by simp))
  have c7:=bl_cell hb (set_other (a:=⟨w.heap.size+1,3,none⟩) d7 (.slice a1 n cp1) (by simp))
  have c8:=bl_cell hb (set_other (a:=⟨w.heap.size+1,3,none⟩) d8 (.slice a1 n cp1) (by simp))
  have c9:w3.cell? ⟨w.heap.size+1,3,none⟩=some (.slice a1 n cp1):=bl_cell hb (World.cell?_setCell_same' _ _ _ (by rw[d9];rfl))
  have c10:=bl_cell hb (far_set d10 ⟨w.heap.size+1,3,none⟩ (.slice a1 n cp1) (by dsimp only;omega))
  have c11:=bl_cell hb (far_set d11 ⟨w.heap.size+1,3,none⟩ (.slice a1 n cp1) (by dsimp only;omega))
  have c12:=bl_cell hb (far_set d12 ⟨w.heap.size+1,3,none⟩ (.slice a1 n cp1) (by dsimp only;omega))
  have hR:=res_bl (res_set dR ⟨w.heap.size+1,3,none⟩ (.slice a1 n cp1)) hb
  have hB:=bl_then (bl_set dB (a:=⟨w.heap.size+1,3,none⟩) (by dsimp only;omega) (.slice a1 n cp1)) hb
  have hO1:=own_bl hown1' hb
  have hlt2:=res_lt (res_set dR ⟨w.heap.size+1,3,none⟩ (.slice a1 n cp1))
  have hle3:=hb.size
  have HV2:=Go.Lib.hid (World.ownsRow.lt hown2)
  have hle1:=hlt1
  generalize (w2.setCell ⟨w.heap.size+1,3,none⟩ (.slice a1 n cp1)).heap.size=base2 at *
  clear hb dR dQ dB hown1 hown1' hlog1 hlog2 HAV d0 d1 d2 d3 d4 d5 d6 d7 d8 d9 d10 d11 d12
  dsimp only
  go_wp2_with fail
  refine wp_abs (S0:=fun X=>P6 X (w.heap.size) k l d b cc o (S4 X (w.heap.size+1) at_ 0 ahd a1 n cp1 (X3 X (w.heap.size+1+1) 4 anow acost (S4 X (w3.heap.size) aat 0 ahd a2 m2 cp2 (ResB X (w.heap.size+1+1+1)∧ResB X w3.heap.size∧OwnLog X w1.heap.size (.slice a1 n cp1) n L∧OwnLog X base2 (.slice a2 m2 cp2) m2 L2∧Below w.heap.size w X))))) ⟨bl_cell (bl_alloc (bl_refl _) _) c0,bl_cell (bl_alloc (bl_refl _) _) c1,bl_cell (bl_alloc (bl_refl _) _) c2,bl_cell (bl_alloc (bl_refl _) _) c3,bl_cell (bl_alloc (bl_refl _) _) c4,bl_cell (bl_alloc (bl_refl _) _) c5,bl_cell (bl_alloc (bl_refl _) _) c6,bl_cell (bl_alloc (bl_refl _) _) c7,bl_cell (bl_alloc (bl_refl _) _) c8,bl_cell (bl_alloc (bl_refl _) _) c9,bl_cell (bl_alloc (bl_refl _) _) c10,bl_cell (bl_alloc (bl_refl _) _) c11,bl_cell (bl_alloc (bl_refl _) _) c12,by go_simp,by go_simp,by go_simp,by go_simp,res_bl hR (bl_alloc (bl_refl _) _),res_new _ _ _ _ _ _ rfl,World.ownsRow.alloc hO1 _,World.ownsRow.alloc hown2 _,bl_alloc hB _⟩ ?_
  clear hR hO1 hown2 hB c0 c1 c2 c3 c4 c5 c6 c7 c8 c9 c10 c11 c12
  generalize w3.heap.size=nb at *
  rintro X ⟨c0,c1,c2,c3,c4,c5,c6,c7,c8,c9,c10,c11,c12,x0,x1,x2,x3,hR,hN,hO1,hO2,hB⟩
  refine wp_region_held_drew (S:=fun w'=>P6 w' (w.heap.size) k l d b cc o (S4 w' (w.heap.size+1) at_ 0 ahd a1 n cp1 (X3 w' (w.heap.size+1+1) 4 anow acost (S4 w' nb aat 0 ahd a2 m2 cp2 (ResB w' (w.heap.size+1+1+1)∧ResB w' nb∧OwnLog w' w1.heap.size (.slice a1 n cp1) n L∧OwnLog w' base2 (.slice a2 m2 cp2) m2 L2∧Below w.heap.size w w'))))) (by kernel_rfl) ?_ (fun hHeld=>?_)
  · exact⟨c0,c1,c2,c3,c4,c5,c6,c7,c8,c9,c10,c11,c12,x0,x1,x2,x3,hR,hN,hO1,hO2,bl_drew hB⟩
  try simp only[Act.put,List.setIfInBounds_toArray,List.set_cons_zero,List.set_cons_succ]
  refine tkx 0 ?_
  refine tkx 1 ?_
  refine tkx 2 ?_
  refine tkx 3 ?_
  refine tkx 4 ?_
  refine tkx 5 ?_
  refine tkx 6 ?_
  (refine callH (i:=7) rfl hHeld (fun W hW K hK=>?_);clear hHeld;(try dsimp only at hW);obtain⟨h0,h1,h2,h3,h4,h5,h6,h7,h8,h9,h10,h11,h12,y0,y1,y2,y3,hr',hn',ho1',ho2',hB'⟩:=hW;go_simp;refine(HSM.out _ _ _ _ (own_at ho2')).mono ?_;rintro e w9 ⟨rfl,hb⟩;go_wp2_with fail;refine hK.out _ _ ?_ (fun hHeld=>?_);(focus((try dsimp only);exact⟨bl_cell hb h0,bl_cell hb h1,bl_cell hb h2,bl_cell hb h3,bl_cell hb h4,bl_cell hb h5,bl_cell hb h6,bl_cell hb h7,bl_cell hb h8,bl_cell hb h9,bl_cell hb h10,bl_cell hb h11,bl_cell hb h12,bl_cell hb y0,bl_cell hb y1,bl_cell hb y2,bl_cell hb y3,res_bl hr' hb,res_bl hn' hb,own_bl ho1' hb,own_bl ho2' hb,bl_then hB' hb⟩));clear hK K;try simp only[Act.put,List.setIfInBounds_toArray,List.set_cons_zero,List.set_cons_succ])
  refine tkx 8 ?_
  refine tkx 9 ?_
  refine wpAnyH_done (by kernel_rfl) ?_ _
  refine then_abs (F:=fun X=>P6 X (w.heap.size) k l d b cc o (S4 X (w.heap.size+1) at_ 0 ahd a1 n cp1 (X3 X (w.heap.size+1+1) 4 anow acost (S4 X nb aat 0 ahd a2 m2 cp2 (ResB X (w.heap.size+1+1+1)∧ResB X nb∧OwnLog X w1.heap.size (.slice a1 n cp1) n L∧OwnLog X base2 (.slice a2 m2 cp2) m2 L2∧Below w.heap.size w X))))) hHeld ?_
  clear hHeld hR hN hO1 hO2 hB c0 c1 c2 c3 c4 c5 c6 c7 c8 c9 c10 c11 c12 x0 x1 x2 x3
  rintro Y ⟨c0,c1,c2,c3,c4,c5,c6,c7,c8,c9,c10,c11,c12,x0,x1,x2,x3,hR,hN,hO1,hO2,hE⟩
  obtain⟨F0,F1,F2,F3,U0,U1,U2,U3,I0,I1,I2,I3⟩:=res_all hR
  have hz2:=(hN 2 (by omega)).1
  have n0:¬ nb=w.heap.size:=by omega
  have m0':¬ w.heap.size=nb:=by omega
  have n1:¬ nb=w.heap.size+1:=by omega
  have m1':¬ w.heap.size+1=nb:=by omega
  have n2:¬ nb=w.heap.size+1+1:=by omega
  have m2':¬ w.heap.size+1+1=nb:=by omega
  have n3:¬ nb=w.heap.size+1+1+1:=by omega
  have m3':¬ w.heap.size+1+1+1=nb:=by omega
  repeat' (first|go_skip|go_guarded|go_step|go_upon)
  (try simp only[Exit.inBlock,Exit.then])
  refine bodyPost_ret (results_state2 rfl _ _ (by rfl) (set4r hR)) rfl ⟨⟨_,_,by first|rfl|simp,own_mono (own_far4 hO1 (own_above hO1 (by omega))) (by omega)⟩,bl4 hE (by omega)⟩

theorem wdo_kind (p:Pol) (s:St) (a:Option Addr) (n c:Nat) (anow acost:Int) (ak:Int) (A:St) (w:World) (h:rightL p s) (hlog:LogAt w a n c s.log) (hA:A=advL p s anow) (e1:1≤acost) (k1:¬ ak=1) (k2:¬ ak=2) (k3:¬ ak=3) (k4:¬ ak=4) :
    Calls Tryz.prog 108 #[p.v,s.v a n c,.agg #[.int .i64 ak,.int .i64 anow,.int .i64 acost]] w fun e w'=>StOwn2 (s,false) w.heap.size e w'∧Below w.heap.size w w':=by
  have hrt:=fun W hW=>wright_any p s a n c W hW
  rw[decide_eq_true h] at hrt
  have hav:=fun a1 c1 W hW=>wadv_any p s a1 n c1 anow W hW
  have hall:=risen_all h.2.2.2.2.2.2.1
  have hsub:=live_sub p.period (up s.at_ (clampT anow)) s.log
  have hssum:=live_sum p.period (up s.at_ (clampT anow)) s.log (fun e he=>by have:=(hall e he).1;omega)
  have hAe:A.log=live p.period (up s.at_ (clampT anow)) s.log∧A.level=0∧A.held=s.held:=by rw[hA];unfold advL;rw[if_pos h];exact⟨rfl,rfl,rfl⟩
  rw[← hA] at hav
  rw[← hAe.1] at hsub hssum
  obtain⟨⟨q0,q1,q2,q3,q4,q5,q6,q7⟩,r1,r2,r3,r4,r5,r6,r7,r8⟩:=h
  have hlen:=hlog.1
  have hsb:=sumL_bound A.log 1048576 (fun e he=>by have:=hall e (hsub.1 e he);omega)
  have hn1:n≤100:=by omega
  have hent:∀ e ∈ A.log,0≤e.2∧e.2≤1048576:=fun e he=>by have:=hall e (hsub.1 e he);omega
  have hw1:IntKind.i64.wrap (p.limit - s.held)=p.limit - s.held:=IntWalk.i64_in _ (by omega)
  have hw2:IntKind.i64.wrap (p.limit - s.held - sumL A.log)=p.limit - s.held - sumL A.log:=IntWalk.i64_in _ (by omega)
  have hsum:=fun a2 m2 c2 W (hW:LogAt W a2 m2 c2 A.log)=>sum_any a2 m2 c2 A.log W hW (by have:=hW.1;have:=hsub.2;omega) hent
  have HX:=Go.Lib.hid (And.intro hn1 (And.intro hent (And.intro hsub.2 hlen)))
  clear hall hsb hsub hssum hent hA r1 r2 r3 r4 r6 r7 r8 q0 q1 q2 q3 q4 q5 q6 q7
  obtain⟨k,l,d,b,cc,o⟩:=p
  obtain⟨at_,level,held,L⟩:=s
  obtain⟨aat,alv,ahd,L2⟩:=A
  obtain⟨-,hz1,hz2⟩:=hAe
  unfold St.v Pol.v at *
  dsimp only at *
  subst hz1 hz2 r5
  have HRT:=Go.Lib.hid hrt
  have HAV:=Go.Lib.hid hav
  have HSM:=Go.Lib.hid hsum
  have HLOG:=Go.Lib.hid hlog
  clear hrt hav hsum hlog hlen hn1
  generalize hS2:sumL L2=S2 at *
  clear hS2
  go_enter Tryz.func108,Tryz.ntmps108
  go_wp2_with fail
  refine(HRT.out _ (log_bl HLOG.out (bl_alloc (bl_alloc (bl_alloc (bl_alloc (bl_refl _) _) _) _) _))).mono ?_
  rintro e w1 ⟨rfl,hb⟩
  have hB:Below w.heap.size w w1:=bl_then (bl_alloc (bl_alloc (bl_alloc (bl_alloc (bl_refl _) _) _) _) _) hb
  obtain⟨c0,c1,c2,c3,c4,c5⟩:=b6 (w.heap.size) k l d b cc o hb
  have c6:=bl_cell (v:=.int .i64 at_) hb (show World.cell? _ ⟨w.heap.size+1,0,none⟩=_ by go_simp)
  have c7:=bl_cell (v:=.int .i64 0) hb (show World.cell? _ ⟨w.heap.size+1,1,none⟩=_ by go_simp)
  have c8:=bl_cell (v:=.int .i64 ahd) hb (show World.cell? _ ⟨w.heap.size+1,2,none⟩=_ by go_simp)
  have c9:=bl_cell (v:=.slice a n c) hb (show World.cell? _ ⟨w.heap.size+1,3,none⟩=_ by go_simp)
  obtain⟨c10,c11,c12⟩:=b3 (w.heap.size+1+1) ak anow acost hb
  have hR:ResB w1 (w.heap.size+1+1+1):=res_bl (res_new _ _ _ _ _ _ (by simp)) hb
  have hQ:ResB w1 (w.heap.size+1):=res_bl (res_bl (res_new (w.alloc _) _ _ _ _ _ (by simp)) (bl_alloc (bl_alloc (bl_refl _) _) _)) hb
  have hlg1:=log_bl HLOG.out hB
  clear hb HRT HLOG
  go_wp2_with fail
  refine(clone_all _ _ _ _ _ hlg1 (by have:=HX.out.1;omega)).mono ?_
  rintro e w2 ⟨v1,rfl,hown1,hb⟩
  obtain⟨a1,cp1,rfl,hlog1⟩:=own_log hown1
  have d0:=bl_cell hb c0
  have d1:=bl_cell hb c1
  have d2:=bl_cell hb c2
  have d3:=bl_cell hb c3
  have d4:=bl_cell hb c4
  have d5:=bl_cell hb c5
  have d6:=bl_cell hb c6
  have d7:=bl_cell hb c7
  have d8:=bl_cell hb c8
  have d9:=bl_cell hb c9
  have d10:=bl_cell hb c10
  have d11:=bl_cell hb c11
  have d12:=bl_cell hb c12
  have dR:=res_bl hR hb
  have dQ:=res_bl hQ hb
  have dB:=bl_then hB hb
  have hlt1:=res_lt hR
  have fz:=(dQ 3 (by omega)).1
  clear hR hQ hB hb hlg1 c0 c1 c2 c3 c4 c5 c6 c7 c8 c9 c10 c11 c12
  go_wp2_with fail
  have hown1':=own_far hown1 ⟨w.heap.size+1,3,none⟩ (.slice a1 n cp1) (own_above hown1 (by dsimp only;omega))
  refine(HAV.out _ _ _ (own_at hown1')).mono ?_
  rintro e w3 ⟨⟨v2,m2,rfl,hown2⟩,hb⟩
  obtain⟨a2,cp2,rfl,hlog2⟩:=own_log hown2
  have c0:=bl_cell hb (far_set d0 ⟨w.heap.size+1,3,none⟩ (.slice a1 n cp1) (by dsimp only;omega))
  have c1:=bl_cell hb (far_set d1 ⟨w.heap.size+1,3,none⟩ (.slice a1 n cp1) (by dsimp only;omega))
  have c2:=bl_cell hb (far_set d2 ⟨w.heap.size+1,3,none⟩ (.slice a1 n cp1) (by dsimp only;omega))
  have c3:=bl_cell hb (far_set d3 ⟨w.heap.size+1,3,none⟩ (.slice a1 n cp1) (by dsimp only;omega))
  have c4:=bl_cell hb (far_set d4 ⟨w.heap.size+1,3,none⟩ (.slice a1 n cp1) (by dsimp only;omega))
  have c5:=bl_cell hb (far_set d5 ⟨w.heap.size+1,3,none⟩ (.slice a1 n cp1) (by dsimp only;omega))
  have c6:=bl_cell hb (set_other (a:=⟨w.heap.size+1,3,none⟩) d6 (.slice a1 n cp1) (by simp))
  have c7:=bl_cell hb (set_other (a:=⟨w.heap.size+1,3,none⟩) d7 (.slice a1 n cp1) (by simp))
  have c8:=bl_cell hb (set_other (a:=⟨w.heap.size+1,3,none⟩) d8 (.slice a1 n cp1) (by simp))
  have c9:w3.cell? ⟨w.heap.size+1,3,none⟩=some (.slice a1 n cp1):=bl_cell hb (World.cell?_setCell_same' _ _ _ (by rw[d9];rfl))
  have c10:=bl_cell hb (far_set d10 ⟨w.heap.size+1,3,none⟩ (.slice a1 n cp1) (by dsimp only;omega))
  have c11:=bl_cell hb (far_set d11 ⟨w.heap.size+1,3,none⟩ (.slice a1 n cp1) (by dsimp only;omega))
  have c12:=bl_cell hb (far_set d12 ⟨w.heap.size+1,3,none⟩ (.slice a1 n cp1) (by dsimp only;omega))
  have hR:=res_bl (res_set dR ⟨w.heap.size+1,3,none⟩ (.slice a1 n cp1)) hb
  have hB:=bl_then (bl_set dB (a:=⟨w.heap.size+1,3,none⟩) (by dsimp only;omega) (.slice a1 n cp1)) hb
  have hO1:=own_bl hown1' hb
  have hlt2:=res_lt (res_set dR ⟨w.heap.size+1,3,none⟩ (.slice a1 n cp1))
  have hle3:=hb.size
  have HV2:=Go.Lib.hid (World.ownsRow.lt hown2)
  have hle1:=hlt1
  generalize (w2.setCell ⟨w.heap.size+1,3,none⟩ (.slice a1 n cp1)).heap.size=base2 at *
  clear hb dR dQ dB hown1 hown1' hlog1 hlog2 HAV d0 d1 d2 d3 d4 d5 d6 d7 d8 d9 d10 d11 d12
  dsimp only
  go_wp2_with fail
  refine wp_abs (S0:=fun X=>P6 X (w.heap.size) k l d b cc o (S4 X (w.heap.size+1) at_ 0 ahd a1 n cp1 (X3 X (w.heap.size+1+1) ak anow acost (S4 X (w3.heap.size) aat 0 ahd a2 m2 cp2 (ResB X (w.heap.size+1+1+1)∧ResB X w3.heap.size∧OwnLog X w1.heap.size (.slice a1 n cp1) n L∧OwnLog X base2 (.slice a2 m2 cp2) m2 L2∧Below w.heap.size w X))))) ⟨bl_cell (bl_alloc (bl_refl _) _) c0,bl_cell (bl_alloc (bl_refl _) _) c1,bl_cell (bl_alloc (bl_refl _) _) c2,bl_cell (bl_alloc (bl_refl _) _) c3,bl_cell (bl_alloc (bl_refl _) _) c4,bl_cell (bl_alloc (bl_refl _) _) c5,bl_cell (bl_alloc (bl_refl _) _) c6,bl_cell (bl_alloc (bl_refl _) _) c7,bl_cell (bl_alloc (bl_refl _) _) c8,bl_cell (bl_alloc (bl_refl _) _) c9,bl_cell (bl_alloc (bl_refl _) _) c10,bl_cell (bl_alloc (bl_refl _) _) c11,bl_cell (bl_alloc (bl_refl _) _) c12,by go_simp,by go_simp,by go_simp,by go_simp,res_bl hR (bl_alloc (bl_refl _) _),res_new _ _ _ _ _ _ rfl,World.ownsRow.alloc hO1 _,World.ownsRow.alloc hown2 _,bl_alloc hB _⟩ ?_
  clear hR hO1 hown2 hB c0 c1 c2 c3 c4 c5 c6 c7 c8 c9 c10 c11 c12
  generalize w3.heap.size=nb at *
  rintro X ⟨c0,c1,c2,c3,c4,c5,c6,c7,c8,c9,c10,c11,c12,x0,x1,x2,x3,hR,hN,hO1,hO2,hB⟩
  refine wp_region_held_drew (S:=fun w'=>P6 w' (w.heap.size) k l d b cc o (S4 w' (w.heap.size+1) at_ 0 ahd a1 n cp1 (X3 w' (w.heap.size+1+1) ak anow acost (S4 w' nb aat 0 ahd a2 m2 cp2 (ResB w' (w.heap.size+1+1+1)∧ResB w' nb∧OwnLog w' w1.heap.size (.slice a1 n cp1) n L∧OwnLog w' base2 (.slice a2 m2 cp2) m2 L2∧Below w.heap.size w w'))))) (by kernel_rfl) ?_ (fun hHeld=>?_)
  · exact⟨c0,c1,c2,c3,c4,c5,c6,c7,c8,c9,c10,c11,c12,x0,x1,x2,x3,hR,hN,hO1,hO2,bl_drew hB⟩
  try simp only[Act.put,List.setIfInBounds_toArray,List.set_cons_zero,List.set_cons_succ]
  refine tkx 0 ?_
  refine tkx 1 ?_
  refine tkx 2 ?_
  refine tkx 3 ?_
  refine tkx 4 ?_
  refine tkx 5 ?_
  refine tkx 6 ?_
  (refine callH (i:=7) rfl hHeld (fun W hW K hK=>?_);clear hHeld;(try dsimp only at hW);obtain⟨h0,h1,h2,h3,h4,h5,h6,h7,h8,h9,h10,h11,h12,y0,y1,y2,y3,hr',hn',ho1',ho2',hB'⟩:=hW;go_simp;refine(HSM.out _ _ _ _ (own_at ho2')).mono ?_;rintro e w9 ⟨rfl,hb⟩;go_wp2_with fail;refine hK.out _ _ ?_ (fun hHeld=>?_);(focus((try dsimp only);exact⟨bl_cell hb h0,bl_cell hb h1,bl_cell hb h2,bl_cell hb h3,bl_cell hb h4,bl_cell hb h5,bl_cell hb h6,bl_cell hb h7,bl_cell hb h8,bl_cell hb h9,bl_cell hb h10,bl_cell hb h11,bl_cell hb h12,bl_cell hb y0,bl_cell hb y1,bl_cell hb y2,bl_cell hb y3,res_bl hr' hb,res_bl hn' hb,own_bl ho1' hb,own_bl ho2' hb,bl_then hB' hb⟩));clear hK K;try simp only[Act.put,List.setIfInBounds_toArray,List.set_cons_zero,List.set_cons_succ])
  refine tkx 8 ?_
  refine tkx 9 ?_
  refine wpAnyH_done (by kernel_rfl) ?_ _
  refine then_abs (F:=fun X=>P6 X (w.heap.size) k l d b cc o (S4 X (w.heap.size+1) at_ 0 ahd a1 n cp1 (X3 X (w.heap.size+1+1) ak anow acost (S4 X nb aat 0 ahd a2 m2 cp2 (ResB X (w.heap.size+1+1+1)∧ResB X nb∧OwnLog X w1.heap.size (.slice a1 n cp1) n L∧OwnLog X base2 (.slice a2 m2 cp2) m2 L2∧Below w.heap.size w X))))) hHeld ?_
  clear hHeld hR hN hO1 hO2 hB c0 c1 c2 c3 c4 c5 c6 c7 c8 c9 c10 c11 c12 x0 x1 x2 x3
  rintro Y ⟨c0,c1,c2,c3,c4,c5,c6,c7,c8,c9,c10,c11,c12,x0,x1,x2,x3,hR,hN,hO1,hO2,hE⟩
  obtain⟨F0,F1,F2,F3,U0,U1,U2,U3,I0,I1,I2,I3⟩:=res_all hR
  have hz2:=(hN 2 (by omega)).1
  have n0:¬ nb=w.heap.size:=by omega
  have m0':¬ w.heap.size=nb:=by omega
  have n1:¬ nb=w.heap.size+1:=by omega
  have m1':¬ w.heap.size+1=nb:=by omega
  have n2:¬ nb=w.heap.size+1+1:=by omega
  have m2':¬ w.heap.size+1+1=nb:=by omega
  have n3:¬ nb=w.heap.size+1+1+1:=by omega
  have m3':¬ w.heap.size+1+1+1=nb:=by omega
  repeat' (first|go_skip|go_guarded|go_step|go_upon)
  (try simp only[Exit.inBlock,Exit.then])
  refine bodyPost_ret (results_state2 rfl _ _ (by rfl) (set4r hR)) rfl ⟨⟨_,_,by first|rfl|simp,own_mono (own_far4 hO1 (own_above hO1 (by omega))) (by omega)⟩,bl4 hE (by omega)⟩
def Ac.v (a:Ac):Value:=.agg #[.int .i64 a.kind,.int .i64 a.now,.int .i64 a.cost]
/-- Where a log that is told comes from: it is empty, or that which was handed in, or a new one. -/
def Src (a0:Option Addr) (n0:Nat) (w:World) (a:Option Addr) (n:Nat):Prop:=n=0∨(a=a0∧n=n0)∨∀ ad,a=some ad→w.heap.size≤ad.block
/-- A state, and whether it was done. -/
def PostSB (a0:Option Addr) (n0:Nat) (r:St × Bool) (w:World) (e:Ending) (w':World):Prop:=∃ (a:Option Addr) (n c:Nat),e=.returned (.tuple #[r.1.v a n c,.bool r.2])∧LogAt w' a n c r.1.log∧Src a0 n0 w a n∧Below w.heap.size w w'
/-- A state. -/
def PostS (a0:Option Addr) (n0:Nat) (s:St) (w:World) (e:Ending) (w':World):Prop:=∃ (a:Option Addr) (n c:Nat),e=.returned (s.v a n c)∧LogAt w' a n c s.log∧Src a0 n0 w a n∧Below w.heap.size w w'
theorem own_src {w w':World} {a0 a:Option Addr} {n0 n c:Nat} {L:List (Int × Int)} (h:OwnLog w' w.heap.size (.slice a n c) n L):Src a0 n0 w a n :=
  .inr (.inr (fun ad e=>by subst e;exact(World.ownsRow.lt h _ rfl).1))
theorem sb_none {a0:Option Addr} {n0:Nat} {w w':World} {e:Ending} (h:e=.returned (.tuple #[.agg #[.int .i64 0,.int .i64 0,.int .i64 0,.slice none 0 0],.bool false])∧Below w.heap.size w w'):PostSB a0 n0 (St.none,false) w e w' :=
  ⟨none,0,0,h.1,log_nil _ _ _ (by omega),.inl rfl,h.2⟩
theorem sb_same {w w':World} {e:Ending} {s:St} {a:Option Addr} {n c:Nat} (hl:LogAt w a n c s.log) (h:e=.returned (.tuple #[s.v a n c,.bool false])∧Below w.heap.size w w'):PostSB a n (s,false) w e w' :=
  ⟨a,n,c,h.1,log_bl hl h.2,.inr (.inl ⟨rfl,rfl⟩),h.2⟩
theorem sb_own {a0:Option Addr} {n0:Nat} {w w':World} {e:Ending} {r:St × Bool} (h:StOwn2 r w.heap.size e w'∧Below w.heap.size w w'):PostSB a0 n0 r w e w':=by
  obtain⟨⟨v,m,he,ho⟩,hb⟩:=h
  obtain⟨a,c,rfl,hl⟩:=own_log ho
  exact⟨a,m,c,he,hl,own_src ho,hb⟩
theorem s_own {a0:Option Addr} {n0:Nat} {w w':World} {e:Ending} {s:St} (h:StOwn s w.heap.size e w'∧Below w.heap.size w w'):PostS a0 n0 s w e w':=by
  obtain⟨⟨v,m,he,ho⟩,hb⟩:=h
  obtain⟨a,c,rfl,hl⟩:=own_log ho
  exact⟨a,m,c,he,hl,own_src ho,hb⟩
theorem s_none {a0:Option Addr} {n0:Nat} {w w':World} {e:Ending} {s:St} (hs:s.log=[]) (h:e=.returned (s.v none 0 0)∧Below w.heap.size w w'):PostS a0 n0 s w e w' :=
  ⟨none,0,0,h.1,by rw[hs];exact log_nil _ _ _ (by omega),.inl rfl,h.2⟩

theorem bdo_all (p:Pol) (s:St) (a:Option Addr) (n c:Nat) (x:Ac) (w:World) (hl:LogAt w a n c s.log):Calls Tryz.prog 124 #[p.v,s.v a n c,x.v] w (PostSB a n (doB p s x) w):=by
  obtain⟨k,nw,co⟩:=x
  unfold Ac.v doB
  dsimp only
  by_cases h:rightB p s
  · rw [if_pos h]
    have hn0:n=0:=by rw[← hl.1,h.2.2.2.2.2.2.2];rfl
    by_cases hk:k=1∨k=2∨k=3∨k=4
    · by_cases h1 : co<1
      · rw[if_pos (.inl h1)]
        exact(bdo_less p s a n c hl.1 k nw co w h hk h1).mono fun e w' hh=>sb_same hl hh
      · by_cases h2:p.burst<co
        · rw[if_pos (.inr (.inl h2))]
          exact(bdo_more p s a n c hl.1 k nw co w h hk h1 h2).mono fun e w' hh=>sb_same hl hh
        · subst hn0
          have key:∀ kk:Int,Calls Tryz.prog 124 #[p.v,s.v a 0 c,.agg #[.int .i64 kk,.int .i64 nw,.int .i64 co]] w (fun e w' =>
              e=.returned (.tuple #[if (actB p (advB p s nw) ⟨kk,nw,co⟩).2 then(actB p (advB p s nw) ⟨kk,nw,co⟩).1.v none 0 0 else s.v a 0 c,.bool (actB p (advB p s nw) ⟨kk,nw,co⟩).2])∧Below w.heap.size w w') →
              Calls Tryz.prog 124 #[p.v,s.v a 0 c,.agg #[.int .i64 kk,.int .i64 nw,.int .i64 co]] w (PostSB a 0 (if co<1∨p.burst<co∨(actB p (advB p s nw) ⟨kk,nw,co⟩).2=false then(s,false) else actB p (advB p s nw) ⟨kk,nw,co⟩) w):=fun kk hc=>by
            refine hc.mono fun e w' hh=>?_
            cases hg:(actB p (advB p s nw) ⟨kk,nw,co⟩).2
            · rw[if_pos (.inr (.inr rfl))]
              rw[hg] at hh
              exact sb_same hl hh
            · rw [if_neg (by rintro(z|z|z);exact h1 z;exact h2 z;cases z)]
              rw[hg] at hh
              refine⟨none,0,0,?_,?_,.inl rfl,hh.2⟩
              · rw[hh.1,hg];rfl
              · have e1:(actB p (advB p s nw) ⟨kk,nw,co⟩).1.log=[]:=by
                  have e2:(advB p s nw).log=[]:=by unfold advB;rw[if_pos h]
                  unfold actB
                  repeat' split
                  all_goals exact e2
                rw[e1]
                exact log_nil _ _ _ (by omega)
          rcases hk with rfl|rfl|rfl|rfl
          · exact key 1 (bdo_1 p s a c nw co w h (by omega) (by omega))
          · exact key 2 (bdo_2 p s a c nw co w h (by omega) (by omega))
          · exact key 3 (bdo_3 p s a c nw co w h (by omega) (by omega))
          · exact key 4 (bdo_4 p s a c nw co w h (by omega) (by omega))
    · have e1:(actB p (advB p s nw) ⟨k,nw,co⟩).2=false:=by
        unfold actB
        dsimp only
        rw[if_neg (fun z=>hk (.inl z)),if_neg (fun z=>hk (.inr (.inl z))),if_neg (fun z=>hk (.inr (.inr (.inl z)))),if_neg (fun z=>hk (.inr (.inr (.inr z))))]
      rw[if_pos (.inr (.inr e1))]
      exact(bdo_kind p s a n c hl.1 k nw co w h hk).mono fun e w' hh=>sb_same hl hh
  · rw[if_neg h]
    exact(bdo_no p s a n c hl.1 k nw co w h).mono fun e w' hh=>sb_none hh
theorem gdo_all (p:Pol) (s:St) (a:Option Addr) (n c:Nat) (x:Ac) (w:World) (hl:LogAt w a n c s.log):Calls Tryz.prog 100 #[p.v,s.v a n c,x.v] w (PostSB a n (doG p s x) w):=by
  obtain⟨k,nw,co⟩:=x
  unfold Ac.v doG
  dsimp only
  by_cases h:rightG p s
  · rw [if_pos h]
    have hn0:n=0:=by rw[← hl.1,h.2.2.2.2.2.2.2];rfl
    by_cases hc:1≤co∧co≤p.burst
    · subst hn0
      have hlog:(advG p s nw).log=[]:=by unfold advG;rw[if_pos h]
      have key:∀ (kk:Int) (bad:Bool),(1≤kk∧kk≤4)→(bad=true↔((actG p (advG p s nw) ⟨kk,nw,co⟩).held<0∨p.burst*p.period<(actG p (advG p s nw) ⟨kk,nw,co⟩).level)) →
          (actG p (advG p s nw) ⟨kk,nw,co⟩).log=[] →
          Calls Tryz.prog 100 #[p.v,s.v a 0 c,.agg #[.int .i64 kk,.int .i64 nw,.int .i64 co]] w (fun e w' =>
            e=.returned (.tuple #[if bad then s.v a 0 c else(actG p (advG p s nw) ⟨kk,nw,co⟩).v none 0 0,.bool (!bad)])∧Below w.heap.size w w') →
          Calls Tryz.prog 100 #[p.v,s.v a 0 c,.agg #[.int .i64 kk,.int .i64 nw,.int .i64 co]] w (PostSB a 0 (if co<1∨p.burst<co∨kk<1∨4<kk∨(actG p (advG p s nw) ⟨kk,nw,co⟩).held<0∨p.burst*p.period<(actG p (advG p s nw) ⟨kk,nw,co⟩).level then(s,false) else(actG p (advG p s nw) ⟨kk,nw,co⟩,true)) w):=fun kk bad hkk hb hlg hcl=>by
        refine hcl.mono fun e w' hh=>?_
        cases bad
        · rw[if_neg (by rintro(z|z|z|z|z|z) <;> first|omega|exact absurd (hb.2 (.inl z)) (by decide)|exact absurd (hb.2 (.inr z)) (by decide))]
          exact⟨none,0,0,hh.1,by rw[hlg];exact log_nil _ _ _ (by omega),.inl rfl,hh.2⟩
        · have hz:=hb.1 rfl
          rw[if_pos (.inr (.inr (.inr (.inr hz))))]
          exact sb_same hl hh
      by_cases hk1:k=1
      · subst hk1
        exact key 1 (decide ((advG p s nw).held<0∨p.burst*p.period<(advG p s nw).level+co*p.period)) ⟨by omega,by omega⟩ (by rw[decide_eq_true_eq];exact Iff.rfl) hlog (gdo_1 p s a c nw co _ w h hc.1 hc.2 rfl _ (by rw[decide_eq_true_eq]))
      by_cases hk2:k=2
      · subst hk2
        exact key 2 (decide ((advG p s nw).held+co<0∨p.burst*p.period<(advG p s nw).level+co*p.period)) ⟨by omega,by omega⟩ (by rw[decide_eq_true_eq];exact Iff.rfl) hlog (gdo_2 p s a c nw co _ w h hc.1 hc.2 rfl _ (by rw[decide_eq_true_eq]))
      by_cases hk3:k=3
      · subst hk3
        exact key 3 (decide ((advG p s nw).held - co<0∨p.burst*p.period<(advG p s nw).level - co*p.period)) ⟨by omega,by omega⟩ (by rw[decide_eq_true_eq];exact Iff.rfl) hlog (gdo_3 p s a c nw co _ w h hc.1 hc.2 rfl _ (by rw[decide_eq_true_eq]))
      by_cases hk4:k=4
      · subst hk4
        exact key 4 (decide ((advG p s nw).held - co<0∨p.burst*p.period<(advG p s nw).level)) ⟨by omega,by omega⟩ (by rw[decide_eq_true_eq];exact Iff.rfl) hlog (gdo_4 p s a c nw co _ w h hc.1 hc.2 rfl _ (by rw[decide_eq_true_eq]))
      · rw[if_pos (by omega)]
        exact(gdo_5 p s a c nw co k _ w h hc.1 hc.2 rfl hk1 hk2 hk3 hk4).mono fun e w' hh=>sb_same hl hh
    · rw[if_pos (by omega)]
      exact(gdo_cost p s a n c k nw co w hl.1 h hc).mono fun e w' hh=>sb_same hl hh
  · rw[if_neg h]
    exact(gdo_no p s a n c k nw co w hl.1 h).mono fun e w' hh=>sb_none hh

theorem cdo_all (p:Pol) (s:St) (a:Option Addr) (n c:Nat) (x:Ac) (w:World) (hl:LogAt w a n c s.log):Calls Tryz.prog 116 #[p.v,s.v a n c,x.v] w (PostSB a n (doC p s x) w):=by
  obtain⟨k,nw,co⟩:=x
  unfold Ac.v doC
  dsimp only
  by_cases h:rightC p s
  · rw [if_pos h]
    have hn0:n=0:=by rw[← hl.1,h.2.2.2.2.2.2.2.2];rfl
    subst hn0
    have hlog:(advC p s nw).log=[]:=by unfold advC;rw[if_pos h]
    have hheld:(advC p s nw).held=s.held:=by unfold advC;rw[if_pos h]
    have fin:∀ (bad:Bool) (t:St) {e:Ending} {w':World},t.log=[]→(e=.returned (.tuple #[if bad then s.v a 0 c else t.v none 0 0,.bool (!bad)])∧Below w.heap.size w w')→PostSB a 0 (if bad then(s,false) else(t,true)) w e w':=fun bad t e w' ht hh=>by
      cases bad
      · exact⟨none,0,0,hh.1,by show LogAt _ _ _ _ t.log;rw[ht];exact log_nil _ _ _ (by omega),.inl rfl,hh.2⟩
      · exact sb_same hl hh
    have e4:∀ (bad:Bool) (r:St × Bool) {t:St},((if bad then(s,false) else(t,true))=r)→∀ {e:Ending} {w':World},PostSB a 0 (if bad then(s,false) else(t,true)) w e w'→PostSB a 0 r w e w':=fun bad r t hr e w' hh=>hr ▸ hh
    by_cases hk1:k=1
    · subst hk1
      refine(cdo_1 p s a c nw co _ w h rfl (decide (co<1∨p.limit - (advC p s nw).held - (advC p s nw).level<co)) (by rw[decide_eq_true_eq])).mono fun e w' hh=>e4 _ _ ?_ (fin _ ⟨(advC p s nw).at_,(advC p s nw).level+co,(advC p s nw).held,[]⟩ rfl hh)
      clear hh fin e4
      rw[hheld]
      by_cases hB:co<1∨p.limit - s.held - (advC p s nw).level<co
      · rw [if_pos (decide_eq_true hB)]
        by_cases h1:co<1
        · simp[h1]
        · have h2:¬ co≤p.limit - s.held - (advC p s nw).level:=by omega
          simp[h1,h2]
      · rw[if_neg (by rw[decide_eq_true_eq];exact hB)]
        have h1:¬ co<1:=by omega
        have h2:co≤p.limit - s.held - (advC p s nw).level:=by omega
        simp[h1,h2,hlog,hheld]
    by_cases hk2:k=2
    · subst hk2
      refine(cdo_2 p s a c nw co _ w h rfl (decide (co<1∨p.limit - (advC p s nw).held - (advC p s nw).level<co)) (by rw[decide_eq_true_eq])).mono fun e w' hh=>e4 _ _ ?_ (fin _ ⟨(advC p s nw).at_,(advC p s nw).level,(advC p s nw).held+co,[]⟩ rfl hh)
      clear hh fin e4
      rw[hheld]
      by_cases hB:co<1∨p.limit - s.held - (advC p s nw).level<co
      · rw [if_pos (decide_eq_true hB)]
        by_cases h1:co<1
        · simp[h1]
        · have h2:¬ co≤p.limit - s.held - (advC p s nw).level:=by omega
          simp[h1,h2]
      · rw[if_neg (by rw[decide_eq_true_eq];exact hB)]
        have h1:¬ co<1:=by omega
        have h2:co≤p.limit - s.held - (advC p s nw).level:=by omega
        simp[h1,h2,hlog,hheld]
    by_cases hk3:k=3
    · subst hk3
      refine(cdo_3 p s a c nw co _ w h rfl (decide (co<1∨(advC p s nw).held<co)) (by rw[decide_eq_true_eq])).mono fun e w' hh=>e4 _ _ ?_ (fin _ ⟨(advC p s nw).at_,(advC p s nw).level,(advC p s nw).held - co,[]⟩ rfl hh)
      clear hh fin e4
      rw[hheld]
      by_cases hB:co<1∨s.held<co
      · rw [if_pos (decide_eq_true hB)]
        by_cases h1:co<1
        · simp[h1]
        · have h2:¬ co≤s.held:=by omega
          simp[h1,h2]
      · rw[if_neg (by rw[decide_eq_true_eq];exact hB)]
        have h1:¬ co<1:=by omega
        have h2:co≤s.held:=by omega
        simp[h1,h2,hlog,hheld]
    by_cases hk4:k=4
    · subst hk4
      refine(cdo_4 p s a c nw co _ w h rfl (decide (co<1∨(advC p s nw).held<co)) (by rw[decide_eq_true_eq])).mono fun e w' hh=>e4 _ _ ?_ (fin _ ⟨(advC p s nw).at_,(advC p s nw).level+co,(advC p s nw).held - co,[]⟩ rfl hh)
      clear hh fin e4
      rw[hheld]
      by_cases hB:co<1∨s.held<co
      · rw [if_pos (decide_eq_true hB)]
        by_cases h1:co<1
        · simp[h1]
        · have h2:¬ co≤s.held:=by omega
          simp[h1,h2]
      · rw[if_neg (by rw[decide_eq_true_eq];exact hB)]
        have h1:¬ co<1:=by omega
        have h2:co≤s.held:=by omega
        simp[h1,h2,hlog,hheld]
    · have e5:(if co<1 then(s,false)
          else if k=1∧co≤p.limit - s.held - (advC p s nw).level then({ advC p s nw with level:=(advC p s nw).level+co },true)
          else if k=2∧co≤p.limit - s.held - (advC p s nw).level then({ advC p s nw with held:=s.held+co },true)
          else if k=3∧co≤s.held then({ advC p s nw with held:=s.held - co },true)
          else if k=4∧co≤s.held then({ advC p s nw with held:=s.held - co,level:=(advC p s nw).level+co },true)
          else(s,false))=(s,false):=by
        rw[if_neg (fun z:k=1∧_=>hk1 z.1),if_neg (fun z:k=2∧_=>hk2 z.1),if_neg (fun z:k=3∧_=>hk3 z.1),if_neg (fun z:k=4∧_=>hk4 z.1)]
        split <;> rfl
      rw[e5]
      exact(cdo_5 p s a c nw co k _ w h rfl hk1 hk2 hk3 hk4).mono fun e w' hh=>sb_same hl hh
  · rw[if_neg h]
    exact(cdo_no p s a n c k nw co w hl.1 h).mono fun e w' hh=>sb_none hh

theorem wdo_all (p:Pol) (s:St) (a:Option Addr) (n c:Nat) (x:Ac) (w:World) (hl:LogAt w a n c s.log):Calls Tryz.prog 108 #[p.v,s.v a n c,x.v] w (PostSB a n (doL p s x) w):=by
  obtain⟨k,nw,co⟩:=x
  unfold Ac.v doL
  dsimp only
  by_cases h:rightL p s
  · rw [if_pos h]
    by_cases h1:1≤co
    · by_cases hk1:k=1
      · subst hk1
        by_cases h2:co≤p.limit - s.held - sumL (advL p s nw).log
        · rw[if_pos ⟨h1,rfl,h2⟩]
          exact(wdo_take p s a n c nw co _ w h hl rfl h1 h2).mono fun e w' hh=>sb_own hh
        · rw[if_neg (fun z=>h2 z.2.2),if_neg (fun z=>absurd z.2.1 (by decide)),if_neg (fun z=>absurd z.2.1 (by decide)),if_neg (fun z=>absurd z.2.1 (by decide))]
          exact(wdo_full1 p s a n c nw co _ w h hl rfl h1 h2).mono fun e w' hh=>sb_own hh
      rw[if_neg (fun z=>hk1 z.2.1)]
      by_cases hk2:k=2
      · subst hk2
        by_cases h2:co≤p.limit - s.held - sumL (advL p s nw).log
        · rw[if_pos ⟨h1,rfl,h2⟩]
          exact(wdo_hold p s a n c nw co _ w h hl rfl h1 h2).mono fun e w' hh=>sb_own hh
        · rw[if_neg (fun z=>h2 z.2.2),if_neg (fun z=>absurd z.2.1 (by decide)),if_neg (fun z=>absurd z.2.1 (by decide))]
          exact(wdo_full2 p s a n c nw co _ w h hl rfl h1 h2).mono fun e w' hh=>sb_own hh
      rw[if_neg (fun z=>hk2 z.2.1)]
      by_cases hk3:k=3
      · subst hk3
        by_cases h2:co≤s.held
        · rw[if_pos ⟨h1,rfl,h2⟩]
          exact(wdo_release p s a n c nw co _ w h hl rfl h1 h2).mono fun e w' hh=>sb_own hh
        · rw[if_neg (fun z=>h2 z.2.2),if_neg (fun z=>absurd z.2.1 (by decide))]
          exact(wdo_over3 p s a n c nw co _ w h hl rfl h1 h2).mono fun e w' hh=>sb_own hh
      rw[if_neg (fun z=>hk3 z.2.1)]
      by_cases hk4:k=4
      · subst hk4
        by_cases h2:co≤s.held
        · rw[if_pos ⟨h1,rfl,h2⟩]
          exact(wdo_commit p s a n c nw co _ w h hl rfl h1 h2).mono fun e w' hh=>sb_own hh
        · rw[if_neg (fun z=>h2 z.2.2)]
          exact(wdo_over4 p s a n c nw co _ w h hl rfl h1 h2).mono fun e w' hh=>sb_own hh
      · rw[if_neg (fun z=>hk4 z.2.1)]
        exact(wdo_kind p s a n c nw co k _ w h hl rfl h1 hk1 hk2 hk3 hk4).mono fun e w' hh=>sb_own hh
    · rw[if_neg (fun z=>h1 z.1),if_neg (fun z=>h1 z.1),if_neg (fun z=>h1 z.1),if_neg (fun z=>h1 z.1)]
      exact(wdo_less p s a n c nw co k _ w h hl rfl h1).mono fun e w' hh=>sb_own hh
  · rw[if_neg h]
    exact(wdo_no p s a n c k nw co w hl h).mono fun e w' hh=>sb_none hh
def fv (f:Nat):Value:=.func (.func f) #[] #[]
def kernB:Array Value := #[fv 119,fv 120,fv 121,fv 122,fv 123,fv 124,fv 125,fv 126]
def kernG:Array Value := #[fv 95,fv 96,fv 97,fv 98,fv 99,fv 100,fv 101,fv 102]
def kernL:Array Value := #[fv 103,fv 104,fv 105,fv 106,fv 107,fv 108,fv 109,fv 110]
def kernC:Array Value := #[fv 111,fv 112,fv 113,fv 114,fv 115,fv 116,fv 117,fv 118]
def kern (k:Int):Array Value:=if k=2 then kernG else if k=3 then kernL else if k=4 then kernC else kernB

theorem of_any (p:Pol) (w:World):Calls Tryz.prog 56 #[p.v] w fun e w'=>e=.returned (.iface 108 (.agg (kern p.kind)))∧Below w.heap.size w w':=by
  obtain⟨k,l,d,b,cc,o⟩:=p
  unfold Pol.v
  dsimp only
  unfold kern
  by_cases h2:k=2
  · subst h2
    go_enter Tryz.func56,Tryz.ntmps56
    go_wp2_with fail
    go_ret
    exact⟨rfl,k1⟩
  rw[if_neg h2]
  by_cases h3:k=3
  · subst h3
    go_enter Tryz.func56,Tryz.ntmps56
    go_wp2_with fail
    go_ret
    exact⟨rfl,k1⟩
  rw[if_neg h3]
  by_cases h4:k=4
  · subst h4
    go_enter Tryz.func56,Tryz.ntmps56
    go_wp2_with fail
    go_ret
    exact⟨rfl,k1⟩
  · rw[if_neg h4]
    go_enter Tryz.func56,Tryz.ntmps56
    go_wp2_with fail
    go_ret
    exact⟨rfl,k1⟩
def Enters (g:Nat):Prop:=∀ args w,(callFunc g args).run Tryz.prog w=.ok (.enter g args) w

theorem made_check (g:Nat) (eg:Enters g) (f1 f2 f3 f4 f5 f6 f7:Value) (p:Pol) (r:Int) (hc:∀ w,Calls Tryz.prog g #[p.v] w fun e w'=>e=.returned (.int .i64 r)∧Below w.heap.size w w') (w:World) :
    Calls Tryz.prog 207 #[.agg #[fv g,f1,f2,f3,f4,f5,f6,f7],p.v] w fun e w'=>e=.returned (.int .i64 r)∧Below w.heap.size w w':=by
  obtain⟨k,l,d,b,cc,o⟩:=p
  unfold Pol.v at *
  unfold fv
  unfold Enters at eg
  dsimp only at *
  have HC:=Go.Lib.hid hc
  clear hc
  go_enter Tryz.func207,Tryz.ntmps207
  go_wp2_with fail
  refine(HC.out _).mono ?_
  rintro e w1 ⟨rfl,hb⟩
  go_wp2_with fail
  go_ret
  exact⟨rfl,bl_then k2 hb⟩

theorem meth_check (x : Array Value) (w : World) : (method 85 108 (.agg x) "tapster/limiter.check").run Tryz.prog w = .ok (207, .agg x) w := by kernel_rfl
def chkP (p:Pol):Int:=if p.kind=2 then chkG p else if p.kind=3 then chkL p else if p.kind=4 then chkC p else chkB p
theorem kern_check (p:Pol) (w:World):Calls Tryz.prog 207 #[.agg (kern p.kind),p.v] w fun e w'=>e=.returned (.int .i64 (chkP p))∧Below w.heap.size w w':=by
  unfold kern chkP
  by_cases h2:p.kind=2
  · rw[if_pos h2,if_pos h2];exact made_check _ (fun _ _=>by kernel_rfl) _ _ _ _ _ _ _ p _ (gcheck_any p) w
  rw[if_neg h2,if_neg h2]
  by_cases h3:p.kind=3
  · rw[if_pos h3,if_pos h3];exact made_check _ (fun _ _=>by kernel_rfl) _ _ _ _ _ _ _ p _ (wcheck_any p) w
  rw[if_neg h3,if_neg h3]
  by_cases h4:p.kind=4
  · rw[if_pos h4,if_pos h4];exact made_check _ (fun _ _=>by kernel_rfl) _ _ _ _ _ _ _ p _ (ccheck_any p) w
  · rw[if_neg h4,if_neg h4];exact made_check _ (fun _ _=>by kernel_rfl) _ _ _ _ _ _ _ p _ (bcheck_any p) w
theorem lcheck_any (p:Pol) (w:World):Calls Tryz.prog 23 #[p.v] w fun e w'=>e=.returned (.int .i64 (chkP p))∧Below w.heap.size w w':=by
  have hof:=of_any p
  have hkc:=kern_check p
  have hme:=meth_check
  generalize kern p.kind=KV at *
  generalize chkP p=R at *
  obtain⟨k,l,d,b,cc,o⟩:=p
  unfold Pol.v at *
  dsimp only at *
  have HOF:=Go.Lib.hid hof
  have HKC:=Go.Lib.hid hkc
  clear hof hkc
  go_enter Tryz.func23,Tryz.ntmps23
  go_wp2_with fail
  refine wp_abs (S0:=fun w'=>P6 w' (w.heap.size) k l d b cc o (Below w.heap.size w w')) ⟨by go_simp,by go_simp,by go_simp,by go_simp,by go_simp,by go_simp,k1⟩ ?_
  rintro W ⟨c0,c1,c2,c3,c4,c5,hB⟩
  refine wp_region_held_drew (S:=fun w'=>P6 w' (w.heap.size) k l d b cc o (Below w.heap.size w w')) (by kernel_rfl) ?_ (fun hHeld=>?_)
  · exact⟨c0,c1,c2,c3,c4,c5,bl_drew hB⟩
  try simp only[Act.put,List.setIfInBounds_toArray,List.set_cons_zero,List.set_cons_succ]
  all_goals refine tkx 0 ?_
  all_goals refine tkx 2 ?_
  all_goals((refine callH (i:=1) rfl hHeld (fun W hW K hK=>?_);clear hHeld;(try dsimp only at hW);go_simp;refine(HOF.out _).mono ?_;rintro e w1 ⟨rfl,hb⟩;go_wp2_with fail;refine hK.out _ _ ?_ (fun hHeld=>?_);(focus((try dsimp only);(obtain⟨h0,h1,h2,h3,h4,h5,hB'⟩:=hW;exact⟨bl_cell hb h0,bl_cell hb h1,bl_cell hb h2,bl_cell hb h3,bl_cell hb h4,bl_cell hb h5,bl_then hB' hb⟩)));clear hK K;try simp only[Act.put,List.setIfInBounds_toArray,List.set_cons_zero,List.set_cons_succ]))
  all_goals((refine callH (i:=3) rfl hHeld (fun W hW K hK=>?_);clear hHeld;(try dsimp only at hW);go_simp;refine(HKC.out _).mono ?_;rintro e w1 ⟨rfl,hb⟩;go_wp2_with fail;refine hK.out _ _ ?_ (fun hHeld=>?_);(focus((try dsimp only);(obtain⟨h0,h1,h2,h3,h4,h5,hB'⟩:=hW;exact⟨bl_cell hb h0,bl_cell hb h1,bl_cell hb h2,bl_cell hb h3,bl_cell hb h4,bl_cell hb h5,bl_then hB' hb⟩)));clear hK K;try simp only[Act.put,List.setIfInBounds_toArray,List.set_cons_zero,List.set_cons_succ]))
  all_goals refine tkx 4 ?_
  all_goals(refine wpAnyH_done (by kernel_rfl) ?_ _)
  obtain⟨-,-,-,-,-,-,hE⟩:=hHeld
  repeat' (first|go_skip|go_guarded|go_step|go_upon)
  go_ret
  exact⟨rfl,hE⟩
theorem log_set4 {w:World} {a:Option Addr} {n c b:Nat} {L:List (Int × Int)} {v0 v1 v2 v3:Value} (h:LogAt w a n c L) (hne:∀ ad,a=some ad→n≠0→ad.block≠b) :
    LogAt ((((w.setCell ⟨b,0,none⟩ v0).setCell ⟨b,1,none⟩ v1).setCell ⟨b,2,none⟩ v2).setCell ⟨b,3,none⟩ v3) a n c L :=
  ⟨h.1,h.2.1,h.2.2.1,fun i hi=>by
    obtain⟨bb,off,e,h1,h2⟩:=h.2.2.2 i hi
    have hb:b≠bb:=fun x=>hne _ e (by omega) x.symm
    exact⟨bb,off,e,far4 h1 hb,far4 h2 hb⟩⟩
theorem log_lt {w:World} {a:Option Addr} {n c:Nat} {L:List (Int × Int)} (h:LogAt w a n c L):∀ ad,a=some ad→n≠0→ad.block<w.heap.size:=fun ad e hn=>by
  obtain⟨bb,off,e',h1,-⟩:=h.2.2.2 0 (by omega)
  rw[e] at e'
  injection e' with e'
  subst e'
  exact World.block_lt_of_cell? w _ h1
theorem src_ne {w w1:World} {a0 a:Option Addr} {n0 n c0 b:Nat} {L0:List (Int × Int)} (h0:LogAt w a0 n0 c0 L0) (h:Src a0 n0 w1 a n) (h1:w.heap.size≤b) (h2:b<w1.heap.size):∀ ad,a=some ad→n≠0→ad.block≠b:=fun ad e hn=>by
  rcases h with h|⟨rfl,rfl⟩|h
  · exact absurd h hn
  · have:=log_lt h0 ad e hn
    omega
  · have:=h ad e
    omega
theorem src_out {w w1:World} {a0 a:Option Addr} {n0 n:Nat} (h:Src a0 n0 w1 a n) (hs:w.heap.size≤w1.heap.size):Src a0 n0 w a n:=by
  rcases h with h|h|h
  · exact .inl h
  · exact .inr (.inl h)
  · exact .inr (.inr fun ad e=>Nat.le_trans hs (h ad e))

theorem made_do (g:Nat) (eg:Enters g) (f0 f1 f2 f3 f4 f6 f7:Value) (p:Pol) (s:St) (a:Option Addr) (n c:Nat) (x:Ac) (R:St × Bool) (hc:∀ w,LogAt w a n c s.log→Calls Tryz.prog g #[p.v,s.v a n c,x.v] w (PostSB a n R w)) (w:World) (hl:LogAt w a n c s.log) :
    Calls Tryz.prog 208 #[.agg #[f0,f1,f2,f3,f4,fv g,f6,f7],p.v,s.v a n c,x.v] w (PostSB a n R w):=by
  obtain⟨k,l,d,b,cc,o⟩:=p
  obtain⟨at_,level,held,L⟩:=s
  obtain⟨ak,anow,acost⟩:=x
  obtain⟨⟨rat,rlv,rhd,rL⟩,rok⟩:=R
  unfold Ac.v St.v Pol.v at *
  unfold fv
  unfold Enters at eg
  dsimp only at *
  have HC:=Go.Lib.hid hc
  have HL:=Go.Lib.hid hl
  clear hc hl
  go_enter Tryz.func208,Tryz.ntmps208
  go_wp2_with fail
  refine(HC.out _ (log_bl HL.out k5)).mono ?_
  rintro e w1 ⟨a9,n9,c9,rfl,hl9,hs9,hb⟩
  have hB:Below w.heap.size w w1:=bl_then k5 hb
  have hR:ResB w1 (w.heap.size+1+1+1+1):=res_bl (res_new _ _ _ _ _ _ (by simp)) hb
  have hne:=src_ne (b:=w.heap.size+1+1+1+1) HL.out hs9 (by omega) (by simp)
  have hso:=src_out (w:=w) hs9 (by simp;omega)
  obtain⟨f0',f1',f2',f3',u0,u1,u2,u3,i0,i1,i2,i3⟩:=res_all hR
  have HNE:=Go.Lib.hid hne
  have HSO:=Go.Lib.hid hso
  have HL9:=Go.Lib.hid hl9
  clear hb HC HL hne hso hs9 hl9
  unfold St.v
  dsimp only
  go_wp2_with fail
  (try simp only[Exit.inBlock,Exit.then])
  refine bodyPost_ret (results_state2 rfl _ _ (by rfl) (set4r hR)) rfl ⟨a9,n9,c9,rfl,log_set4 HL9.out HNE.out,HSO.out,bl4 hB (by omega)⟩

theorem made_start (g:Nat) (eg:Enters g) (f0 f2 f3 f4 f5 f6 f7:Value) (p:Pol) (now:Int) (s:St) (hc:∀ w,Calls Tryz.prog g #[p.v,.int .i64 now] w fun e w'=>e=.returned (s.v none 0 0)∧Below w.heap.size w w') (w:World) :
    Calls Tryz.prog 212 #[.agg #[f0,fv g,f2,f3,f4,f5,f6,f7],p.v,.int .i64 now] w fun e w'=>e=.returned (s.v none 0 0)∧Below w.heap.size w w':=by
  obtain⟨k,l,d,b,cc,o⟩:=p
  obtain⟨at_,level,held,L⟩:=s
  unfold St.v Pol.v at *
  unfold fv
  unfold Enters at eg
  dsimp only at *
  have HC:=Go.Lib.hid hc
  clear hc
  go_enter Tryz.func212,Tryz.ntmps212
  go_wp2_with fail
  refine(HC.out _).mono ?_
  rintro e w1 ⟨rfl,hb⟩
  have hB:Below w.heap.size w w1:=bl_then k3 hb
  have hR:ResB w1 (w.heap.size+1+1):=res_bl (res_new _ _ _ _ _ _ (by simp)) hb
  obtain⟨f0',f1',f2',f3',u0,u1,u2,u3,i0,i1,i2,i3⟩:=res_all hR
  clear hb HC
  go_wp2_with fail
  (try simp only[Exit.inBlock,Exit.then])
  refine bodyPost_ret (results_state rfl _ _ (by rfl) (set4r hR)) rfl ⟨rfl,bl4 hB (by omega)⟩

theorem made_room (g:Nat) (eg:Enters g) (f0 f1 f2 f3 f5 f6 f7:Value) (p:Pol) (s:St) (a:Option Addr) (n c:Nat) (now:Int) (R:Int) (hc:∀ w,LogAt w a n c s.log→Calls Tryz.prog g #[p.v,s.v a n c,.int .i64 now] w fun e w'=>e=.returned (.int .i64 R)∧Below w.heap.size w w') (w:World) (hl:LogAt w a n c s.log) :
    Calls Tryz.prog 211 #[.agg #[f0,f1,f2,f3,fv g,f5,f6,f7],p.v,s.v a n c,.int .i64 now] w fun e w'=>e=.returned (.int .i64 R)∧Below w.heap.size w w':=by
  obtain⟨k,l,d,b,cc,o⟩:=p
  obtain⟨at_,level,held,L⟩:=s
  unfold St.v Pol.v at *
  unfold fv
  unfold Enters at eg
  dsimp only at *
  have HC:=Go.Lib.hid hc
  have HL:=Go.Lib.hid hl
  clear hc hl
  go_enter Tryz.func211,Tryz.ntmps211
  go_wp2_with fail
  refine(HC.out _ (log_bl HL.out k3)).mono ?_
  rintro e w1 ⟨rfl,hb⟩
  go_wp2_with fail
  go_ret
  exact⟨rfl,bl_then k3 hb⟩
theorem bnew_any (p:Pol) (now:Int) (w:World):Calls Tryz.prog 120 #[p.v,.int .i64 now] w fun e w'=>e=.returned ((newB p now).v none 0 0)∧Below w.heap.size w w':=by
  obtain⟨k,l,d,b,cc,o⟩:=p
  have hck:=bcheck_any ⟨k,l,d,b,cc,o⟩
  unfold newB
  unfold Pol.v at *
  unfold St.v
  dsimp only at *
  by_cases h:okB ⟨k,l,d,b,cc,o⟩
  · rw [if_pos h]
    rw[show chkB ⟨k,l,d,b,cc,o⟩=0 from if_pos h] at hck
    have HCK:=Go.Lib.hid hck
    have hcl:=clamp_any now
    have hw2:IntKind.i64.wrap (b*d)=b*d:=by
      obtain⟨q0,q1,q2,q3,q4,q5,q6,q7⟩:=h
      dsimp only at *
      have h2:b*d≤1152921504606846976:=prod_le (by omega) (by omega) (by omega)
      have h3:0≤b*d:=Int.mul_nonneg (by omega) (by omega)
      exact IntWalk.i64_in _ (by omega)
    clear h hck
    dsimp only
    generalize clampT now=T at *
    have HCL:=Go.Lib.hid hcl
    clear hcl
    go_enter Tryz.func120,Tryz.ntmps120
    go_wp2_with fail
    refine(HCK.out _).mono ?_
    rintro e w1 ⟨rfl,hb⟩
    have hB:Below w.heap.size w w1:=bl_then k2 hb
    obtain⟨c0,c1,c2,c3,c4,c5⟩:=b6 (w.heap.size) k l d b cc o hb
    have hR:ResB w1 (w.heap.size+1):=res_bl (res_new _ _ _ _ _ _ (by simp)) hb
    clear hb HCK
    go_wp2_with fail
    refine wp_region_held_drew (S:=fun w'=>P6 w' (w.heap.size) k l d b cc o (ResB w' (w.heap.size+1)∧Below w.heap.size w w')) (by kernel_rfl) ?_ (fun hHeld=>?_)
    · exact⟨c0,c1,c2,c3,c4,c5,hR,bl_drew hB⟩
    try simp only[Act.put,List.setIfInBounds_toArray,List.set_cons_zero,List.set_cons_succ]
    all_goals refine tkx 0 ?_
    all_goals refine tkx 2 ?_
    all_goals refine tkx 3 ?_
    all_goals refine tkx 4 ?_
    all_goals refine tkx 5 ?_
    all_goals refine tkx 6 ?_
    all_goals((refine callH (i:=1) rfl hHeld (fun W hW K hK=>?_);clear hHeld;(try dsimp only at hW);go_simp;refine(HCL.out _).mono ?_;rintro e w1 ⟨rfl,rfl⟩;go_wp2_with fail;refine hK.out _ _ ?_ (fun hHeld=>?_);(focus((try dsimp only);exact hW));clear hK K;try simp only[Act.put,List.setIfInBounds_toArray,List.set_cons_zero,List.set_cons_succ]))
    all_goals refine tkx 7 ?_
    all_goals((refine callH (i:=8) rfl hHeld (fun W hW K hK=>?_);clear hHeld;(try dsimp only at hW);obtain⟨h0,h1,h2,h3,h4,h5,hr',hB'⟩:=hW;obtain⟨f0,f1,f2,f3,u0,u1,u2,u3,i0,i1,i2,i3⟩:=res_all hr';go_simp;refine hK.out _ _ ?_ (fun hHeld=>?_);(focus((try dsimp only);(have e0:w.heap.size+1≠w.heap.size:=(by omega);exact⟨far4 h0 e0,far4 h1 e0,far4 h2 e0,far4 h3 e0,far4 h4 e0,far4 h5 e0,res4 hr',bl4 hB' (by omega)⟩)));clear hK K;try simp only[Act.put,List.setIfInBounds_toArray,List.set_cons_zero,List.set_cons_succ]))
    all_goals(refine wpAnyH_done (by kernel_rfl) ?_ _)
    obtain⟨-,-,-,-,-,-,-,hE⟩:=hHeld
    go_wp2
    (try simp only[Exit.inBlock,Exit.then])
    refine bodyPost_ret (results_state rfl _ _ (by rfl) (set4 _ _ _ _ i0 i1 i2 i3)) rfl ⟨by first|rfl|simp,hE⟩
  · rw[if_neg h]
    rw[show chkB ⟨k,l,d,b,cc,o⟩=2 from if_neg h] at hck
    have HCK:=Go.Lib.hid hck
    clear hck h
    unfold St.none
    go_enter Tryz.func120,Tryz.ntmps120
    go_wp2_with fail
    refine(HCK.out _).mono ?_
    rintro e w1 ⟨rfl,hb⟩
    have hB:Below w.heap.size w w1:=bl_then k2 hb
    have hR:ResB w1 (w.heap.size+1):=res_bl (res_new _ _ _ _ _ _ (by simp)) hb
    obtain⟨f0,f1,f2,f3,u0,u1,u2,u3,i0,i1,i2,i3⟩:=res_all hR
    clear hb HCK
    go_wp2
    (try simp only[Exit.inBlock,Exit.then])
    refine bodyPost_ret (results_state rfl _ _ (by rfl) (set4 _ _ _ _ i0 i1 i2 i3)) rfl ⟨by first|rfl|simp,bl4 hB (by omega)⟩
theorem gnew_any (p:Pol) (now:Int) (w:World):Calls Tryz.prog 96 #[p.v,.int .i64 now] w fun e w'=>e=.returned ((newG p now).v none 0 0)∧Below w.heap.size w w':=by
  have hck:=gcheck_any p
  unfold newG
  by_cases h:okG p
  · rw[if_pos h]
    rw[show chkG p=0 from if_pos h] at hck
    clear h
    obtain⟨k,l,d,b,cc,o⟩:=p
    have hcl:=clamp_any now
    unfold St.v Pol.v at *
    dsimp only at *
    generalize clampT now=T at *
    have HCK:=Go.Lib.hid hck
    have HCL:=Go.Lib.hid hcl
    clear hcl hck
    go_enter Tryz.func96,Tryz.ntmps96
    go_wp2_with fail
    refine(HCK.out _).mono ?_
    rintro e w1 ⟨rfl,hb⟩
    have hB:Below w.heap.size w w1:=bl_then k2 hb
    obtain⟨c0,c1,c2,c3,c4,c5⟩:=b6 (w.heap.size) k l d b cc o hb
    have hR:ResB w1 (w.heap.size+1):=res_bl (res_new _ _ _ _ _ _ (by simp)) hb
    clear hb HCK
    go_wp2_with fail
    refine(HCL.out _).mono ?_
    rintro e w2 ⟨rfl,rfl⟩
    obtain⟨f0,f1,f2,f3,u0,u1,u2,u3,i0,i1,i2,i3⟩:=res_all hR
    go_wp2_with fail
    (try simp only[Exit.inBlock,Exit.then])
    refine bodyPost_ret (results_state rfl _ _ (by rfl) (set4 _ _ _ _ i0 i1 i2 i3)) rfl ⟨by first|rfl|simp,bl4 hB (by omega)⟩
  · rw[if_neg h]
    rw[show chkG p=2 from if_neg h] at hck
    clear h
    unfold St.v Pol.v at *
    have HCK:=Go.Lib.hid hck
    clear hck
    unfold St.none
    go_enter Tryz.func96,Tryz.ntmps96
    go_wp2_with fail
    refine(HCK.out _).mono ?_
    rintro e w1 ⟨rfl,hb⟩
    have hB:Below w.heap.size w w1:=bl_then k2 hb
    have hR:ResB w1 (w.heap.size+1):=res_bl (res_new _ _ _ _ _ _ (by simp)) hb
    obtain⟨f0,f1,f2,f3,u0,u1,u2,u3,i0,i1,i2,i3⟩:=res_all hR
    clear hb HCK
    go_wp2_with fail
    (try simp only[Exit.inBlock,Exit.then])
    refine bodyPost_ret (results_state rfl _ _ (by rfl) (set4 _ _ _ _ i0 i1 i2 i3)) rfl ⟨by first|rfl|simp,bl4 hB (by omega)⟩
theorem cnew_any (p:Pol) (now:Int) (w:World):Calls Tryz.prog 112 #[p.v,.int .i64 now] w fun e w'=>e=.returned ((newC p now).v none 0 0)∧Below w.heap.size w w':=by
  have hck:=ccheck_any p
  unfold newC
  by_cases h:okC p
  · rw[if_pos h]
    rw[show chkC p=0 from if_pos h] at hck
    clear h
    obtain⟨k,l,d,b,cc,o⟩:=p
    have hcl:=clamp_any now
    unfold St.v Pol.v at *
    dsimp only at *
    generalize clampT now=T at *
    have HCK:=Go.Lib.hid hck
    have HCL:=Go.Lib.hid hcl
    clear hcl hck
    go_enter Tryz.func112,Tryz.ntmps112
    go_wp2_with fail
    refine(HCK.out _).mono ?_
    rintro e w1 ⟨rfl,hb⟩
    have hB:Below w.heap.size w w1:=bl_then k2 hb
    obtain⟨c0,c1,c2,c3,c4,c5⟩:=b6 (w.heap.size) k l d b cc o hb
    have hR:ResB w1 (w.heap.size+1):=res_bl (res_new _ _ _ _ _ _ (by simp)) hb
    clear hb HCK
    go_wp2_with fail
    refine(HCL.out _).mono ?_
    rintro e w2 ⟨rfl,rfl⟩
    obtain⟨f0,f1,f2,f3,u0,u1,u2,u3,i0,i1,i2,i3⟩:=res_all hR
    go_wp2_with fail
    (try simp only[Exit.inBlock,Exit.then])
    refine bodyPost_ret (results_state rfl _ _ (by rfl) (set4 _ _ _ _ i0 i1 i2 i3)) rfl ⟨by first|rfl|simp,bl4 hB (by omega)⟩
  · rw[if_neg h]
    rw[show chkC p=2 from if_neg h] at hck
    clear h
    unfold St.v Pol.v at *
    have HCK:=Go.Lib.hid hck
    clear hck
    unfold St.none
    go_enter Tryz.func112,Tryz.ntmps112
    go_wp2_with fail
    refine(HCK.out _).mono ?_
    rintro e w1 ⟨rfl,hb⟩
    have hB:Below w.heap.size w w1:=bl_then k2 hb
    have hR:ResB w1 (w.heap.size+1):=res_bl (res_new _ _ _ _ _ _ (by simp)) hb
    obtain⟨f0,f1,f2,f3,u0,u1,u2,u3,i0,i1,i2,i3⟩:=res_all hR
    clear hb HCK
    go_wp2_with fail
    (try simp only[Exit.inBlock,Exit.then])
    refine bodyPost_ret (results_state rfl _ _ (by rfl) (set4 _ _ _ _ i0 i1 i2 i3)) rfl ⟨by first|rfl|simp,bl4 hB (by omega)⟩
end Go.Proofs.YtmhikkbdhboodaaGreat
