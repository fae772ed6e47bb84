/-
  What tapsterref04.Room, Until and Retry answer.
  What window.Retry answers.
  How the reference reckons logs, in plain Lean.
  What an act does, all ways at once, in plain Lean.
  What tapsterref04.Do answers.
  What tapsterref07.Right answers.
  What tapsterref07.Advance answers.
  What tapsterref07.Room, Until and Retry answer.
  No condition.
-/
import Derived.Test.YtmhikkbdhboodaaGreatZc1
import Derived.Test.YtmhikkbdhboodaaGreatZc2
import Derived.Test.YtmhikkbdhboodaaGreatZc6
import Derived.Test.YtmhikkbdhboodaaGreatZc8
set_option maxHeartbeats 8000000
set_option maxRecDepth 100000
namespace Go.Proofs.YtmhikkbdhboodaaGreat
open Go.RowKit
set_option linter.unusedVariables false
set_option linter.unusedSimpArgs false

theorem r4room_no (p:Pol) (s:St) (a:Option Addr) (n c:Nat) (now:Int) (w:World) (hl:LogAt w a n c s.log) (h:¬ rightB p s):Calls Tryz.prog 132 #[p.v,s.v a n c,.int .i64 now] w fun e w'=>e=.returned (.int .i64 (roomB p s now))∧Below w.heap.size w w':=by
 have hrt:=fun w=>r4right_any p s a n c hl.1 w
 unfold roomB
 rw[if_neg h]
 rw[decide_eq_false h] at hrt
 clear h hl
 obtain⟨k,l,d,b,cc,o⟩:=p
 obtain⟨at_,level,held,L⟩:=s
 unfold St.v Pol.v at *
 dsimp only at *
 have HRT:=Go.Lib.hid hrt
 clear hrt
 go_enter Tryz.func132,Tryz.ntmps132
 go_wp2_with fail
 refine(HRT.out _).mono ?_
 rintro e w1 ⟨rfl,hb⟩
 have hx:Below w.heap.size w w1:=bl_then k2 hb
 have hsz1:w.heap.size+2≤w1.heap.size:=szl hb
 obtain⟨p0,p1,p2,p3,p4,p5⟩:=b6 (w.heap.size) k l d b cc o hb
 obtain⟨s0,s1,s2,s3⟩:=b4 (w.heap.size+1) at_ level held a n c hb
 have sR:=res_bl (b:=w.heap.size+1) (res_new _ _ _ _ _ _ (by simp)) hb
 have hB:Below w.heap.size w w1:=hx
 have lb_p:=lbc p0
 have lb_s:=lbc s0
 clear hb hx
 go_wp2_with fail
 go_ret
 exact⟨rfl,hB⟩
theorem r4room_yes (p:Pol) (s:St) (a:Option Addr) (n c:Nat) (now:Int) (w:World) (hl:LogAt w a n c s.log) (h:rightB p s)  : Calls Tryz.prog 132 #[p.v,s.v a n c,.int .i64 now] w fun e w'=>e=.returned (.int .i64 (roomB p s now))∧Below w.heap.size w w':=by
 have hrt:=fun w=>r4right_any p s a n c hl.1 w
 rw[decide_eq_true h] at hrt
 have hav:=fun w hw=>r4adv_any p s a n c now w hw
 unfold PostS at hav
 have hlv:=advB_level p s now h
 have hd:1≤p.period:=h.1.2.2.2.1
 have hD:p.period≤1099511627776:=h.1.2.2.2.2.2.2.1
 unfold roomB
 rw[if_pos h]
 clear h
 generalize advB p s now=A at *
 obtain⟨aat,alv,ahd,alg⟩:=A
 obtain⟨k,l,d,b,cc,o⟩:=p
 obtain⟨at_,level,held,L⟩:=s
 unfold St.v Pol.v at *
 dsimp only at *
 obtain⟨g0,g1,-⟩:=hlv
 have m1:=Int.emod_nonneg alv (show d≠0 by omega)
 have m2:=Int.emod_lt_of_pos alv (show 0<d by omega)
 have m4:=Int.ediv_nonneg g0 (show 0≤d by omega)
 have m3:alv % d≤alv:=by have h1:=Int.emod_add_mul_ediv alv d;have h2:=Int.mul_nonneg (show 0≤d by omega) m4;omega
 have m5:=Int.ediv_le_self d g0
 have wa0:Int.tmod alv d=alv % d:=Int.tmod_eq_emod_of_nonneg g0
 have wa1:IntKind.i64.wrap (alv % d)=alv % d:=IntWalk.i64_in _ (by omega)
 have wa2:IntKind.i64.wrap (alv - alv % d)=alv - alv % d:=IntWalk.i64_in _ (by omega)
 have wa3:Int.tdiv (alv - alv % d) d=alv / d:=by rw[Int.tdiv_eq_ediv_of_nonneg (by omega),room_mod hd g0]
 have wa4:IntKind.i64.wrap (alv / d)=alv / d:=IntWalk.i64_in _ (by omega)
 have hq0:¬ d=0:=by omega
 clear g0 g1 m1 m2 m3 m4 m5 hd hD
 have HRT:=Go.Lib.hid hrt
 have HAV:=Go.Lib.hid hav
 have HL:=Go.Lib.hid hl
 clear hrt hav hl
 go_enter Tryz.func132,Tryz.ntmps132
 go_wp2_with fail
 refine(HRT.out _).mono ?_
 rintro e w1 ⟨rfl,hb⟩
 have hx:Below w.heap.size w w1:=bl_then k2 hb
 have hsz1:w.heap.size+2≤w1.heap.size:=szl hb
 obtain⟨p0,p1,p2,p3,p4,p5⟩:=b6 (w.heap.size) k l d b cc o hb
 obtain⟨s0,s1,s2,s3⟩:=b4 (w.heap.size+1) at_ level held a n c hb
 have sR:=res_bl (b:=w.heap.size+1) (res_new _ _ _ _ _ _ (by simp)) hb
 have hB:Below w.heap.size w w1:=hx
 have lb_p:=lbc p0
 have lb_s:=lbc s0
 clear hb hx
 go_wp2_with fail
 refine(HAV.out _ (log_bl HL.out (hB))).mono ?_
 rintro e w2 ⟨a1,n1,c1,rfl,hl1,-,hb⟩
 have hsz2:w1.heap.size+0≤w2.heap.size:=szl hb
 replace p0:=bl_cell hb p0
 replace p1:=bl_cell hb p1
 replace p2:=bl_cell hb p2
 replace p3:=bl_cell hb p3
 replace p4:=bl_cell hb p4
 replace p5:=bl_cell hb p5
 replace s0:=bl_cell hb s0
 replace s1:=bl_cell hb s1
 replace s2:=bl_cell hb s2
 replace s3:=bl_cell hb s3
 replace sR:=res_bl sR hb
 replace hB:Below w.heap.size w w2:=bl_then hB hb
 replace lb_p:=lbc p0
 replace lb_s:=lbc s0
 clear hb
 obtain⟨fr0,fr1,fr2,fr3,us0,us1,us2,us3,is0,is1,is2,is3⟩:=res_all sR
 go_wp2_with fail
 obtain⟨z0,z1,z2,z3⟩:=set4r (v0:=.int .i64 aat) (v1:=.int .i64 alv) (v2:=.int .i64 ahd) (v3:=.slice a1 n1 c1) sR
 replace p0:=far4 (b:=w.heap.size+1) (v0:=.int .i64 aat) (v1:=.int .i64 alv) (v2:=.int .i64 ahd) (v3:=.slice a1 n1 c1) p0 (by dsimp only;omega)
 replace p1:=far4 (b:=w.heap.size+1) (v0:=.int .i64 aat) (v1:=.int .i64 alv) (v2:=.int .i64 ahd) (v3:=.slice a1 n1 c1) p1 (by dsimp only;omega)
 replace p2:=far4 (b:=w.heap.size+1) (v0:=.int .i64 aat) (v1:=.int .i64 alv) (v2:=.int .i64 ahd) (v3:=.slice a1 n1 c1) p2 (by dsimp only;omega)
 replace p3:=far4 (b:=w.heap.size+1) (v0:=.int .i64 aat) (v1:=.int .i64 alv) (v2:=.int .i64 ahd) (v3:=.slice a1 n1 c1) p3 (by dsimp only;omega)
 replace p4:=far4 (b:=w.heap.size+1) (v0:=.int .i64 aat) (v1:=.int .i64 alv) (v2:=.int .i64 ahd) (v3:=.slice a1 n1 c1) p4 (by dsimp only;omega)
 replace p5:=far4 (b:=w.heap.size+1) (v0:=.int .i64 aat) (v1:=.int .i64 alv) (v2:=.int .i64 ahd) (v3:=.slice a1 n1 c1) p5 (by dsimp only;omega)
 replace s0:=z0
 replace s1:=z1
 replace s2:=z2
 replace s3:=z3
 replace sR:=res4 (b:=w.heap.size+1) (v0:=.int .i64 aat) (v1:=.int .i64 alv) (v2:=.int .i64 ahd) (v3:=.slice a1 n1 c1) sR
 replace hB:=bl4 (b:=w.heap.size+1) (v0:=.int .i64 aat) (v1:=.int .i64 alv) (v2:=.int .i64 ahd) (v3:=.slice a1 n1 c1) hB (by omega)
 clear z0 z1 z2 z3 fr0 fr1 fr2 fr3
 refine wp_region_held_drew (S:=fun w'=>P6 w' (w.heap.size) k l d b cc o (S4 w' (w.heap.size+1) aat alv ahd a1 n1 c1 (ResB w' (w.heap.size+1)∧Below w.heap.size w w'))) (by kernel_rfl) ?_ (fun hHeld=>?_)
 ·exact⟨p0,p1,p2,p3,p4,p5,s0,s1,s2,s3,sR,bl_drew hB⟩
 try simp only[Act.put,List.setIfInBounds_toArray,List.set_cons_zero,List.set_cons_succ]
 refine tkx 0 ?_
 refine tkx 1 ?_
 refine tkx 2 ?_
 refine tkx 3 ?_
 refine tkx 4 ?_
 refine tkx 5 ?_
 refine tkx 6 ?_
 refine tkx 7 ?_
 refine tkx 8 ?_
 refine tkx 9 ?_
 refine tkx 10 ?_
 refine tkx 11 ?_
 refine wpAnyH_done (by kernel_rfl) ?_ _
 refine then_abs (F:=fun w'=>P6 w' (w.heap.size) k l d b cc o (S4 w' (w.heap.size+1) aat alv ahd a1 n1 c1 (ResB w' (w.heap.size+1)∧Below w.heap.size w w'))) hHeld ?_
 clear hHeld hB p0 p1 p2 p3 p4 p5 s0 s1 s2 s3 sR
 rintro w3 ⟨p0,p1,p2,p3,p4,p5,s0,s1,s2,s3,sR,hB⟩
 replace lb_p:=lbc p0
 replace lb_s:=lbc s0
 go_wp2_with fail
 go_ret
 exact⟨rfl,hB⟩
theorem r4room_any (p:Pol) (s:St) (a:Option Addr) (n c:Nat) (now:Int) (w:World) (hl:LogAt w a n c s.log):Calls Tryz.prog 132 #[p.v,s.v a n c,.int .i64 now] w fun e w'=>e=.returned (.int .i64 (roomB p s now))∧Below w.heap.size w w':=by
 by_cases h:rightB p s
 ·exact r4room_yes p s a n c now w hl h
 ·exact r4room_no p s a n c now w hl h
theorem r4until_no (p:Pol) (s:St) (a:Option Addr) (n c:Nat) (now:Int) (w:World) (hl:LogAt w a n c s.log) (h:¬ rightB p s):Calls Tryz.prog 48 #[p.v,s.v a n c,.int .i64 now] w fun e w'=>e=.returned (.int .i64 (untilB p s now))∧Below w.heap.size w w':=by
 have hrt:=fun w=>r4right_any p s a n c hl.1 w
 unfold untilB
 rw[if_neg (fun z=>h z.1)]
 rw[decide_eq_false h] at hrt
 clear h hl
 obtain⟨k,l,d,b,cc,o⟩:=p
 obtain⟨at_,level,held,L⟩:=s
 unfold St.v Pol.v at *
 dsimp only at *
 have HRT:=Go.Lib.hid hrt
 clear hrt
 go_enter Tryz.func48,Tryz.ntmps48
 go_wp2_with fail
 refine(HRT.out _).mono ?_
 rintro e w1 ⟨rfl,hb⟩
 have hx:Below w.heap.size w w1:=bl_then k2 hb
 have hsz1:w.heap.size+2≤w1.heap.size:=szl hb
 obtain⟨p0,p1,p2,p3,p4,p5⟩:=b6 (w.heap.size) k l d b cc o hb
 obtain⟨s0,s1,s2,s3⟩:=b4 (w.heap.size+1) at_ level held a n c hb
 have sR:=res_bl (b:=w.heap.size+1) (res_new _ _ _ _ _ _ (by simp)) hb
 have hB:Below w.heap.size w w1:=hx
 have lb_p:=lbc p0
 have lb_s:=lbc s0
 clear hb hx
 go_wp2_with fail
 go_ret
 exact⟨rfl,hB⟩
theorem r4until_held (p:Pol) (s:St) (a:Option Addr) (n c:Nat) (now:Int) (w:World) (hl:LogAt w a n c s.log) (h:rightB p s) (hh:0<s.held):Calls Tryz.prog 48 #[p.v,s.v a n c,.int .i64 now] w fun e w'=>e=.returned (.int .i64 (untilB p s now))∧Below w.heap.size w w':=by
 have hrt:=fun w=>r4right_any p s a n c hl.1 w
 unfold untilB
 rw[if_neg (fun z=>by have:=z.2;omega)]
 rw[decide_eq_true h] at hrt
 clear h hl
 obtain⟨k,l,d,b,cc,o⟩:=p
 obtain⟨at_,level,held,L⟩:=s
 unfold St.v Pol.v at *
 dsimp only at *
 have HRT:=Go.Lib.hid hrt
 clear hrt
 go_enter Tryz.func48,Tryz.ntmps48
 go_wp2_with fail
 refine(HRT.out _).mono ?_
 rintro e w1 ⟨rfl,hb⟩
 have hx:Below w.heap.size w w1:=bl_then k2 hb
 have hsz1:w.heap.size+2≤w1.heap.size:=szl hb
 obtain⟨p0,p1,p2,p3,p4,p5⟩:=b6 (w.heap.size) k l d b cc o hb
 obtain⟨s0,s1,s2,s3⟩:=b4 (w.heap.size+1) at_ level held a n c hb
 have sR:=res_bl (b:=w.heap.size+1) (res_new _ _ _ _ _ _ (by simp)) hb
 have hB:Below w.heap.size w w1:=hx
 have lb_p:=lbc p0
 have lb_s:=lbc s0
 clear hb hx
 go_wp2_with fail
 go_ret
 exact⟨rfl,hB⟩
theorem r4until_yes (p:Pol) (s:St) (a:Option Addr) (n c:Nat) (now:Int) (w:World) (hl:LogAt w a n c s.log) (h:rightB p s) (hh:s.held≤0):Calls Tryz.prog 48 #[p.v,s.v a n c,.int .i64 now] w fun e w'=>e=.returned (.int .i64 (untilB p s now))∧Below w.heap.size w w':=by
 have hrt:=fun w=>r4right_any p s a n c hl.1 w
 rw[decide_eq_true h] at hrt
 have hav:=fun w hw=>r4adv_any p s a n c now w hw
 unfold PostS at hav
 have hlv:=advB_level p s now h
 unfold untilB
 rw[if_pos ⟨h,hh⟩]
 have hls:=fun w=>rlasts4_any p (p.burst*p.period - (advB p s now).level) w h.1.2.1 h.1.2.2.2.2.1 (by have hV:p.burst*p.period≤1152921504606846976:=prod_le h.1.2.2.2.2.2.1 (by have:=h.1.2.2.2.1;omega) h.1.2.2.2.2.2.2.1;omega)
 have hV:p.burst*p.period≤1152921504606846976:=prod_le h.1.2.2.2.2.2.1 (by have:=h.1.2.2.2.1;omega) h.1.2.2.2.2.2.2.1
 have hV0:0≤p.burst*p.period:=Int.mul_nonneg (by have:=h.1.2.2.1;omega) (by have:=h.1.2.2.2.1;omega)
 clear h
 generalize advB p s now=A at *
 obtain⟨aat,alv,ahd,alg⟩:=A
 obtain⟨k,l,d,b,cc,o⟩:=p
 obtain⟨at_,level,held,L⟩:=s
 unfold St.v Pol.v at *
 dsimp only at *
 obtain⟨g0,g1,-⟩:=hlv
 have wa1:IntKind.i64.wrap (b*d)=b*d:=IntWalk.i64_in _ (by omega)
 have wa2:IntKind.i64.wrap (b*d - alv)=b*d - alv:=IntWalk.i64_in _ (by omega)
 have hh':¬ 0<held:=by omega
 generalize ceilD (b*d - alv) l=RC at *
 clear g0 g1 hh hV hV0
 have HLS:=Go.Lib.hid hls
 clear hls
 have HRT:=Go.Lib.hid hrt
 have HAV:=Go.Lib.hid hav
 have HL:=Go.Lib.hid hl
 clear hrt hav hl
 go_enter Tryz.func48,Tryz.ntmps48
 go_wp2_with fail
 refine(HRT.out _).mono ?_
 rintro e w1 ⟨rfl,hb⟩
 have hx:Below w.heap.size w w1:=bl_then k2 hb
 have hsz1:w.heap.size+2≤w1.heap.size:=szl hb
 obtain⟨p0,p1,p2,p3,p4,p5⟩:=b6 (w.heap.size) k l d b cc o hb
 obtain⟨s0,s1,s2,s3⟩:=b4 (w.heap.size+1) at_ level held a n c hb
 have sR:=res_bl (b:=w.heap.size+1) (res_new _ _ _ _ _ _ (by simp)) hb
 have hB:Below w.heap.size w w1:=hx
 have lb_p:=lbc p0
 have lb_s:=lbc s0
 clear hb hx
 go_wp2_with fail
 refine(HAV.out _ (log_bl HL.out (hB))).mono ?_
 rintro e w2 ⟨a1,n1,c1,rfl,hl1,-,hb⟩
 have hsz2:w1.heap.size+0≤w2.heap.size:=szl hb
 replace p0:=bl_cell hb p0
 replace p1:=bl_cell hb p1
 replace p2:=bl_cell hb p2
 replace p3:=bl_cell hb p3
 replace p4:=bl_cell hb p4
 replace p5:=bl_cell hb p5
 replace s0:=bl_cell hb s0
 replace s1:=bl_cell hb s1
 replace s2:=bl_cell hb s2
 replace s3:=bl_cell hb s3
 replace sR:=res_bl sR hb
 replace hB:Below w.heap.size w w2:=bl_then hB hb
 replace lb_p:=lbc p0
 replace lb_s:=lbc s0
 clear hb
 obtain⟨fr0,fr1,fr2,fr3,us0,us1,us2,us3,is0,is1,is2,is3⟩:=res_all sR
 go_wp2_with fail
 obtain⟨z0,z1,z2,z3⟩:=set4r (v0:=.int .i64 aat) (v1:=.int .i64 alv) (v2:=.int .i64 ahd) (v3:=.slice a1 n1 c1) sR
 replace p0:=far4 (b:=w.heap.size+1) (v0:=.int .i64 aat) (v1:=.int .i64 alv) (v2:=.int .i64 ahd) (v3:=.slice a1 n1 c1) p0 (by dsimp only;omega)
 replace p1:=far4 (b:=w.heap.size+1) (v0:=.int .i64 aat) (v1:=.int .i64 alv) (v2:=.int .i64 ahd) (v3:=.slice a1 n1 c1) p1 (by dsimp only;omega)
 replace p2:=far4 (b:=w.heap.size+1) (v0:=.int .i64 aat) (v1:=.int .i64 alv) (v2:=.int .i64 ahd) (v3:=.slice a1 n1 c1) p2 (by dsimp only;omega)
 replace p3:=far4 (b:=w.heap.size+1) (v0:=.int .i64 aat) (v1:=.int .i64 alv) (v2:=.int .i64 ahd) (v3:=.slice a1 n1 c1) p3 (by dsimp only;omega)
 replace p4:=far4 (b:=w.heap.size+1) (v0:=.int .i64 aat) (v1:=.int .i64 alv) (v2:=.int .i64 ahd) (v3:=.slice a1 n1 c1) p4 (by dsimp only;omega)
 replace p5:=far4 (b:=w.heap.size+1) (v0:=.int .i64 aat) (v1:=.int .i64 alv) (v2:=.int .i64 ahd) (v3:=.slice a1 n1 c1) p5 (by dsimp only;omega)
 replace s0:=z0
 replace s1:=z1
 replace s2:=z2
 replace s3:=z3
 replace sR:=res4 (b:=w.heap.size+1) (v0:=.int .i64 aat) (v1:=.int .i64 alv) (v2:=.int .i64 ahd) (v3:=.slice a1 n1 c1) sR
 replace hB:=bl4 (b:=w.heap.size+1) (v0:=.int .i64 aat) (v1:=.int .i64 alv) (v2:=.int .i64 ahd) (v3:=.slice a1 n1 c1) hB (by omega)
 clear z0 z1 z2 z3 fr0 fr1 fr2 fr3
 go_wp2_with fail
 refine(HLS.out _).mono ?_
 rintro e w3 ⟨rfl,hb⟩
 have hsz3:w2.heap.size+0≤w3.heap.size:=szl hb
 replace p0:=bl_cell hb p0
 replace p1:=bl_cell hb p1
 replace p2:=bl_cell hb p2
 replace p3:=bl_cell hb p3
 replace p4:=bl_cell hb p4
 replace p5:=bl_cell hb p5
 replace s0:=bl_cell hb s0
 replace s1:=bl_cell hb s1
 replace s2:=bl_cell hb s2
 replace s3:=bl_cell hb s3
 replace sR:=res_bl sR hb
 replace hB:Below w.heap.size w w3:=bl_then hB hb
 replace lb_p:=lbc p0
 replace lb_s:=lbc s0
 clear hb
 go_wp2_with fail
 go_ret
 exact⟨rfl,hB⟩
theorem r4until_any (p:Pol) (s:St) (a:Option Addr) (n c:Nat) (now:Int) (w:World) (hl:LogAt w a n c s.log):Calls Tryz.prog 48 #[p.v,s.v a n c,.int .i64 now] w fun e w'=>e=.returned (.int .i64 (untilB p s now))∧Below w.heap.size w w':=by
 by_cases h:rightB p s
 ·by_cases hh:s.held≤0
  ·exact r4until_yes p s a n c now w hl h hh
  ·exact r4until_held p s a n c now w hl h (by omega)
 ·exact r4until_no p s a n c now w hl h

end Go.Proofs.YtmhikkbdhboodaaGreat

namespace Go.Proofs.YtmhikkbdhboodaaGreat
set_option linter.unusedVariables false
set_option linter.unusedSimpArgs false

/-- What is younger than some time, together. -/
def usedL (m:Int):List (Int × Int)→Int
 | []=>0
 | e :: l=>(if m<e.1 then e.2 else 0)+usedL m l
/-- Those that are younger. -/
def youngL (m:Int):List (Int × Int)→List (Int × Int)
 | []=>[]
 | e :: l=>if m<e.1 then e :: youngL m l else youngL m l
theorem usedL_young (m:Int) (L:List (Int × Int)):usedL m L=sumL (youngL m L):=by
 induction L with
 | nil=>rfl
 | cons e l ih =>
  unfold usedL youngL
  split
  ·simp only[sumL];omega
  ·omega
theorem usedL_take (m:Int) (L:List (Int × Int)) (j:Nat) (h:j<L.length):usedL m (L.take (j+1))=usedL m (L.take j)+if m<(L.getD j (0,0)).1 then(L.getD j (0,0)).2 else 0:=by
 induction L generalizing j with
 | nil=>simp at h
 | cons e l ih =>
  cases j with
  | zero=>simp[usedL]
  | succ j =>
   simp only[List.take_succ_cons,usedL,List.getD_cons_succ]
   rw[ih j (by simpa using h)]
   omega
theorem youngL_take (m:Int) (L:List (Int × Int)) (j:Nat) (h:j<L.length):youngL m (L.take (j+1))=youngL m (L.take j) ++ if m<(L.getD j (0,0)).1 then[L.getD j (0,0)] else[]:=by
 induction L generalizing j with
 | nil=>simp at h
 | cons e l ih =>
  cases j with
  | zero=>simp only[List.take_succ_cons,List.take_zero,youngL,List.getD_cons_zero,List.nil_append]
  | succ j =>
   simp only[List.take_succ_cons,youngL,List.getD_cons_succ]
   rw[ih j (by simpa using h)]
   split <;> simp
theorem usedL_bound (m:Int) (L:List (Int × Int)) (h:∀ e ∈ L,0≤e.2∧e.2≤1048576):0≤usedL m L∧usedL m L≤L.length*1048576:=by
 induction L with
 | nil=>simp[usedL]
 | cons e l ih =>
  have h1:=ih (fun x hx=>h x (List.mem_cons_of_mem _ hx))
  have h2:=h e List.mem_cons_self
  simp only[usedL,List.length_cons]
  split <;> omega
theorem youngL_len (m:Int) (L:List (Int × Int)):(youngL m L).length≤L.length:=by
 induction L with
 | nil=>exact Nat.le_refl _
 | cons e l ih=>unfold youngL;split <;> simp <;> omega
theorem young_all {m:Int} {L:List (Int × Int)} (h:∀ e ∈ L,m<e.1):youngL m L=L:=by
 induction L with
 | nil=>rfl
 | cons e l ih =>
  unfold youngL
  rw[if_pos (h e List.mem_cons_self),ih (fun x hx=>h x (List.mem_cons_of_mem _ hx))]
/-- In a row that rises those that are younger are the last ones. -/
theorem young_live {limit at_ period t:Int}:∀ {was:Int} {L:List (Int × Int)},risen limit at_ was L→youngL (t - period) L=live period t L
 | _,[],_=>rfl
 | was,e :: l,h=>by
  unfold youngL live
  by_cases hm:t - period<e.1
  ·rw[if_pos hm,if_pos (by omega),young_all]
   intro x hx
   have:=risen_all h.2.2.2.2 x hx
   omega
  ·rw[if_neg hm,if_neg (by omega)]
   exact young_live h.2.2.2.2
theorem used_live {limit at_ period t was:Int} {L:List (Int × Int)} (h:risen limit at_ was L):usedL (t - period) L=sumL (live period t L):=by rw[usedL_young,young_live h]
theorem rightL_bound {p:Pol} {s:St} (h:rightL p s):∀ e ∈ s.log,0≤e.2∧e.2≤1048576:=fun e he=>by
 have:=risen_all h.2.2.2.2.2.2.1 e he
 have:=h.1.2.2.2.2.1
 omega
theorem live_risen {limit at_ period t:Int}:∀ {was:Int} {L:List (Int × Int)},risen limit at_ was L→∃ x,was≤x∧risen limit at_ x (live period t L)
 | was,[],_=>⟨was,Int.le_refl _,trivial⟩
 | was,e :: l,h=>by
  unfold live
  split
  ·exact⟨was,Int.le_refl _,h⟩
  ·obtain⟨x,h1,h2⟩:=live_risen (period:=period) (t:=t) h.2.2.2.2
   exact⟨x,Int.le_trans h.1 h1,h2⟩
theorem live_young {period t:Int} {L:List (Int × Int)} {limit at_ was:Int} (h:risen limit at_ was L):∀ e ∈ live period t L,t - e.1<period:=by
 induction L generalizing was with
 | nil=>intro e he;cases he
 | cons x l ih =>
  unfold live
  split
  ·rename_i hx
   intro e he
   rcases List.mem_cons.1 he with rfl|he
   ·exact hx
   ·have:=risen_all h.2.2.2.2 e he;omega
  ·exact ih h.2.2.2.2
/-- What the window's Advance leaves. -/
theorem advL_all {p:Pol} {s:St} {now:Int} (h:rightL p s):advL p s now=⟨up s.at_ (clampT now),0,s.held,live p.period (up s.at_ (clampT now)) s.log⟩:=if_pos h

/-! ### Until: the last one's end -/
/-- The greatest of 0 and what is left of each. -/
def maxL (d a:Int) (m:Int):List (Int × Int)→Int
 | []=>m
 | e :: l=>maxL d a (up m (e.1+d - a)) l
theorem maxL_take (d a m:Int) (L:List (Int × Int)) (j:Nat) (h:j<L.length):maxL d a m (L.take (j+1))=up (maxL d a m (L.take j)) ((L.getD j (0,0)).1+d - a):=by
 induction L generalizing j m with
 | nil=>simp at h
 | cons e l ih =>
  cases j with
  | zero=>simp[maxL]
  | succ j =>
   simp only[List.take_succ_cons,maxL,List.getD_cons_succ]
   exact ih _ j (by simpa using h)
theorem maxL_last {limit at_ d a:Int}:∀ {was m:Int} {L:List (Int × Int)},risen limit at_ was L→m≤was+d - a→L≠[]→maxL d a m L=lastT L+d - a
 | _,_,[],_,_,h=>absurd rfl h
 | was,m,[e],h,hm,_=>by
  show maxL d a (up m (e.1+d - a)) []=_
  have:=h.1
  unfold maxL lastT up
  split <;> omega
 | was,m,e :: f :: l,h,hm,_=>by
  show maxL d a (up m (e.1+d - a)) (f :: l)=lastT (f :: l)+d - a
  refine maxL_last h.2.2.2.2 ?_ (by simp)
  have:=h.1
  unfold up
  split <;> omega
theorem until_ref {p:Pol} {s:St} {now:Int} (h:rightL p s) (hh:s.held≤0):untilL p s now=maxL p.period (advL p s now).at_ 0 (advL p s now).log:=by
 unfold untilL
 rw[if_pos ⟨h,hh⟩,advL_all h]
 dsimp only
 have hr:=h.2.2.2.2.2.2.1
 generalize up s.at_ (clampT now)=t at *
 split
 ·rename_i e;rw[e];rfl
 ·rename_i e
  obtain⟨x,-,hx⟩:=live_risen (period:=p.period) (t:=t) hr
  have hy:=live_young (period:=p.period) (t:=t) hr
  generalize live p.period t s.log=M at *
  match M,e,hx,hy with
  | [],e,_,_=>exact absurd rfl e
  | [e],_,hx,hy =>
   have:=hy e List.mem_cons_self
   show _=maxL p.period t (up 0 (e.1+p.period - t)) []
   unfold lastT maxL up
   split <;> omega
  | e :: f :: l,_,hx,hy =>
   have h1:=hy e List.mem_cons_self
   show lastT (f :: l)+p.period - t=maxL p.period t (up 0 (e.1+p.period - t)) (f :: l)
   rw[maxL_last hx.2.2.2.2 (by unfold up;split <;> omega) (by simp)]

/-! ### Retry: the first one whose end makes room -/
/-- What is done, way by way. -/
theorem doL_ref {p:Pol} {s:St} {k now c:Int} (h:rightL p s) :
  (c<1∨k<1∨4<k→doL p s ⟨k,now,c⟩=(s,false)) ∧
  (1≤k→k≤2→roomL p s now<c→doL p s ⟨k,now,c⟩=(s,false)) ∧
  (3≤k→k≤4→s.held<c→doL p s ⟨k,now,c⟩=(s,false)) ∧
  (1≤c→c≤roomL p s now→doL p s ⟨1,now,c⟩=(noted p (advL p s now) c,true)) ∧
  (1≤c→c≤roomL p s now→doL p s ⟨2,now,c⟩=({ advL p s now with held:=(advL p s now).held+c },true)) ∧
  (1≤c→c≤s.held→doL p s ⟨3,now,c⟩=({ advL p s now with held:=(advL p s now).held - c },true)) ∧
  (1≤c→c≤s.held→doL p s ⟨4,now,c⟩=(noted p { advL p s now with held:=(advL p s now).held - c } c,true)):=by
 have hr:roomL p s now=p.limit - s.held - sumL (advL p s now).log:=by unfold roomL;rw[if_pos h]
 have hh:(advL p s now).held=s.held:=by rw[advL_all h]
 rw[hr,hh]
 clear hr
 unfold doL
 simp only[if_pos h]
 refine⟨?_,?_,?_,?_,?_,?_,?_⟩
 all_goals
  intros
  (repeat' split) <;> first|rfl|(exfalso;omega)|(simp only[true_and] at *;exfalso;omega)|(simp only[hh])
/-- Nothing is done, or which kind is. -/
def DoAll (DR:St × Bool) (s A1 A2 A3 A4:St) (RO k c:Int):Prop :=
 (c<1∨k<1∨4<k∨(k≤2∧RO<c)∨(3≤k∧s.held<c)→DR=(s,false)) ∧
 (k=1→1≤c→c≤RO→DR=(A1,true))∧(k=2→1≤c→c≤RO→DR=(A2,true))∧(k=3→1≤c→c≤s.held→DR=(A3,true))∧(k=4→1≤c→c≤s.held→DR=(A4,true))
theorem doall_of {D:Int→St × Bool} {s A1 A2 A3 A4:St} {RO k c:Int}
  (h:∀ k,(c<1∨k<1∨4<k→D k=(s,false))∧(1≤k→k≤2→RO<c→D k=(s,false))∧(3≤k→k≤4→s.held<c→D k=(s,false)) ∧
   (1≤c→c≤RO→D 1=(A1,true))∧(1≤c→c≤RO→D 2=(A2,true))∧(1≤c→c≤s.held→D 3=(A3,true))∧(1≤c→c≤s.held→D 4=(A4,true))):DoAll (D k) s A1 A2 A3 A4 RO k c:=by
 obtain⟨h1,h2,h3,h4,h5,h6,h7⟩:=h k
 refine⟨fun z=>?_,?_,?_,?_,?_⟩
 ·by_cases z1:c<1∨k<1∨4<k
  ·exact h1 z1
  ·rcases z with z|z|z|z|z
   ·exact h1 (.inl z)
   ·exact h1 (.inr (.inl z))
   ·exact h1 (.inr (.inr z))
   ·exact h2 (by omega) z.1 z.2
   ·exact h3 z.1 (by omega) z.2
 ·rintro rfl;exact h4
 ·rintro rfl;exact h5
 ·rintro rfl;exact h6
 ·rintro rfl;exact h7
theorem doC_all {p:Pol} {s:St} {k now c:Int} (h:rightC p s):DoAll (doC p s ⟨k,now,c⟩) s { advC p s now with level:=(advC p s now).level+c } { advC p s now with held:=(advC p s now).held+c } { advC p s now with held:=(advC p s now).held - c } { advC p s now with held:=(advC p s now).held - c,level:=(advC p s now).level+c } (roomC p s now) k c :=
 doall_of (D:=fun k=>doC p s ⟨k,now,c⟩) fun k=>doC_ref (k:=k) h
theorem doL_all {p:Pol} {s:St} {k now c:Int} (h:rightL p s):DoAll (doL p s ⟨k,now,c⟩) s (noted p (advL p s now) c) { advL p s now with held:=(advL p s now).held+c } { advL p s now with held:=(advL p s now).held - c } (noted p { advL p s now with held:=(advL p s now).held - c } c) (roomL p s now) k c :=
 doall_of (D:=fun k=>doL p s ⟨k,now,c⟩) fun k=>doL_ref (k:=k) h
theorem doB_all {p:Pol} {s:St} {k now c:Int} (h:rightB p s):DoAll (doB p s ⟨k,now,c⟩) s { advB p s now with level:=(advB p s now).level - c*p.period } { advB p s now with level:=(advB p s now).level - c*p.period,held:=(advB p s now).held+c } { advB p s now with level:=(advB p s now).level+c*p.period,held:=(advB p s now).held - c } { advB p s now with held:=(advB p s now).held - c } (roomB p s now) k c :=
 doall_of (D:=fun k=>doB p s ⟨k,now,c⟩) fun k=>doB_ref (k:=k) h
end Go.Proofs.YtmhikkbdhboodaaGreat

namespace Go.Proofs.YtmhikkbdhboodaaGreat
open Go.RowKit
set_option linter.unusedVariables false
set_option linter.unusedSimpArgs false

theorem advB_lg {p:Pol} {s:St} {now:Int} (h:rightB p s):(advB p s now).log=[]:=by unfold advB;rw[if_pos h]
theorem r4do_no (p:Pol) (s:St) (a:Option Addr) (n c:Nat) (ak now cost:Int) (w:World) (hl:LogAt w a n c s.log) (h:¬ rightB p s):Calls Tryz.prog 67 #[p.v,s.v a n c,.agg #[.int .i64 ak,.int .i64 now,.int .i64 cost]] w (PostSB a n (doB p s ⟨ak,now,cost⟩) w):=by
 have hrt:=fun w  => r4right_any p s a n c hl.1 w
 rw[decide_eq_false h] at hrt
 rw[show doB p s ⟨ak,now,cost⟩=(St.none,false) from if_neg h]
 refine Calls.mono (R:=fun e w'=>e=.returned (.tuple #[.agg #[.int .i64 0,.int .i64 0,.int .i64 0,.slice none 0 0],.bool false])∧Below w.heap.size w w') ?_ (fun e w' hh=>sb_none hh)
 clear h
 obtain⟨k,l,d,b,cc,o⟩:=p
 obtain⟨at_,level,held,L⟩:=s
 unfold St.v Pol.v at *
 dsimp only at *
 have HRT:=Go.Lib.hid hrt
 have HL:=Go.Lib.hid hl
 clear hrt hl
 go_enter Tryz.func67,Tryz.ntmps67
 go_wp2_with go_step3
 refine(HRT.out _).mono ?_
 rintro e w1 ⟨rfl,hb⟩
 have hx:Below w.heap.size w w1:=bl_then k4 hb
 have hsz1:w.heap.size+4≤w1.heap.size:=szl hb
 obtain⟨p0,p1,p2,p3,p4,p5⟩:=b6 (w.heap.size) k l d b cc o hb
 obtain⟨s0,s1,s2,s3⟩:=b4 (w.heap.size+1) at_ level held a n c hb
 have sR:=res_bl (b:=w.heap.size+1) (res_bl (res_bl (res_new _ _ _ _ _ _ (by simp)) k1) k1) hb
 obtain⟨x0,x1,x2⟩:=b3 (w.heap.size+1+1) ak now cost hb
 have rR:=res_bl (b:=w.heap.size+1+1+1) (res_new _ _ _ _ _ _ (by simp)) hb
 have hB:Below w.heap.size w w1:=hx
 have lb_p:=lbc p0
 have lb_s:=lbc s0
 have lb_x:=lbc x0
 clear hb hx
 obtain⟨f0,f1,f2,f3,u0,u1,u2,u3,i0,i1,i2,i3⟩:=res_all rR
 go_wp2_with go_step3
 (try simp only[Exit.inBlock,Exit.then,Exit.noGoto_ret])
 refine bodyPost_ret (results_state2 rfl _ _ (by rfl) (set4r (rR))) rfl ⟨rfl,bl4 (hB) (by omega)⟩
theorem r4do_yes (p:Pol) (s:St) (a:Option Addr) (n c:Nat) (ak now cost:Int) (w:World) (hl:LogAt w a n c s.log) (h:rightB p s):Calls Tryz.prog 67 #[p.v,s.v a n c,.agg #[.int .i64 ak,.int .i64 now,.int .i64 cost]] w (PostSB a n (doB p s ⟨ak,now,cost⟩) w):=by
  have hrt:=fun w=>r4right_any p s a n c hl.1 w
  rw[decide_eq_true h] at hrt
  have hav:=fun w hw=>r4adv_any p s a n c now w hw
  unfold PostS at hav
  have hro:=fun w hw=>r4room_any p s a n c now w hw
  have hd:=doB_all (now:=now) (c:=cost) (k:=ak) h
  have hlg:=advB_lg (now:=now) h
  have hhd:=advB_held p s now h
  have hd0:=h.1.2.2.2.1
  have hD:=h.1.2.2.2.2.2.2.1
  have hbm:=h.1.2.2.2.2.2.1
  have hh0:=h.2.2.2.1
  have hh1:=h.2.2.2.2.1
  have hrm:=roomB_le (now:=now) (c:=cost) h
  have hy:=roomB_top (now:=now) h
  have hlv:=advB_level p s now h
  generalize doB p s ⟨ak,now,cost⟩=DR at *
  generalize roomB p s now=RO at *
  generalize advB p s now=A at *
  clear h
  obtain⟨aat,alv,ahd,alg⟩:=A
  obtain⟨k,l,d,b,cc,o⟩:=p
  obtain⟨at_,level,held,L⟩:=s
  unfold DoAll St.v Pol.v at *
  dsimp only at *
  subst hlg
  obtain rfl:held=ahd:=hhd.symm
  have HBD:=Go.Lib.hid ((And.intro hd0 (And.intro hD (And.intro hbm (And.intro hh0 (And.intro hh1 (And.intro hrm (And.intro hy hlv))))))))
  have HRT:=Go.Lib.hid hrt
  have HAV:=Go.Lib.hid hav
  have HRO:=Go.Lib.hid hro
  have HL:=Go.Lib.hid hl
  have HD:=Go.Lib.hid hd
  clear hrt hav hro hl hd
  clear hd0 hD hbm hh0 hh1 hrm hy hlv
  go_enter Tryz.func67,Tryz.ntmps67
  go_wp2_with go_step3
  refine(HRT.out _).mono ?_
  rintro e w1 ⟨rfl,hb⟩
  have hx:Below w.heap.size w w1:=bl_then k4 hb
  have hsz1:w.heap.size+4≤w1.heap.size:=szl hb
  obtain⟨p0,p1,p2,p3,p4,p5⟩:=b6 (w.heap.size) k l d b cc o hb
  obtain⟨s0,s1,s2,s3⟩:=b4 (w.heap.size+1) at_ level held a n c hb
  have sR:=res_bl (b:=w.heap.size+1) (res_bl (res_bl (res_new _ _ _ _ _ _ (by simp)) k1) k1) hb
  obtain⟨x0,x1,x2⟩:=b3 (w.heap.size+1+1) ak now cost hb
  have rR:=res_bl (b:=w.heap.size+1+1+1) (res_new _ _ _ _ _ _ (by simp)) hb
  have hB:Below w.heap.size w w1:=hx
  have lb_p:=lbc p0
  have lb_s:=lbc s0
  have lb_x:=lbc x0
  clear hb hx
  go_wp2_with go_step3
  refine(HAV.out _ (log_bl HL.out (hB))).mono ?_
  rintro e w2 ⟨a1,n1,c1,rfl,hl1,-,hb⟩
  have hsz2:w1.heap.size+0≤w2.heap.size:=szl hb
  replace p0:=bl_cell hb p0
  replace p1:=bl_cell hb p1
  replace p2:=bl_cell hb p2
  replace p3:=bl_cell hb p3
  replace p4:=bl_cell hb p4
  replace p5:=bl_cell hb p5
  replace s0:=bl_cell hb s0
  replace s1:=bl_cell hb s1
  replace s2:=bl_cell hb s2
  replace s3:=bl_cell hb s3
  replace sR:=res_bl sR hb
  replace x0:=bl_cell hb x0
  replace x1:=bl_cell hb x1
  replace x2:=bl_cell hb x2
  replace rR:=res_bl rR hb
  replace hB:Below w.heap.size w w2:=bl_then hB hb
  replace lb_p:=lbc p0
  replace lb_s:=lbc s0
  replace lb_x:=lbc x0
  clear hb
  have hn1:n1=0:=hl1.1.symm
  subst hn1
  have hc1:=hl1.2.2.1
  clear hl1
  by_cases h1:cost<1
  · have HBB:=Go.Lib.hid (HD.out.1 (.inl h1))
    have rR2:=res_bl rR (bl_alloc (bl_refl w2) (.cells #[.int .i64 aat,.int .i64 alv,.int .i64 held,.slice a1 0 c1] 26))
    obtain⟨f0,f1,f2,f3,u0,u1,u2,u3,i0,i1,i2,i3⟩:=res_all rR2
    go_wp2_with go_step3
    (try simp only[Exit.inBlock,Exit.then,Exit.noGoto_ret])
    refine bodyPost_ret (results_state2 rfl _ _ (by rfl) (set4r rR2)) rfl ?_
    rw[HBB.out]
    exact sb_same HL.out ⟨rfl,bl4 (bl_alloc hB _) (by omega)⟩
  by_cases h2:ak<1
  · have HBB:=Go.Lib.hid (HD.out.1 (.inr (.inl h2)))
    have rR2:=res_bl rR (bl_alloc (bl_refl w2) (.cells #[.int .i64 aat,.int .i64 alv,.int .i64 held,.slice a1 0 c1] 26))
    obtain⟨f0,f1,f2,f3,u0,u1,u2,u3,i0,i1,i2,i3⟩:=res_all rR2
    go_wp2_with go_step3
    (try simp only[Exit.inBlock,Exit.then,Exit.noGoto_ret])
    refine bodyPost_ret (results_state2 rfl _ _ (by rfl) (set4r rR2)) rfl ?_
    rw[HBB.out]
    exact sb_same HL.out ⟨rfl,bl4 (bl_alloc hB _) (by omega)⟩
  by_cases h3:4<ak
  · have HBB:=Go.Lib.hid (HD.out.1 (.inr (.inr (.inl h3))))
    have rR2:=res_bl rR (bl_alloc (bl_refl w2) (.cells #[.int .i64 aat,.int .i64 alv,.int .i64 held,.slice a1 0 c1] 26))
    obtain⟨f0,f1,f2,f3,u0,u1,u2,u3,i0,i1,i2,i3⟩:=res_all rR2
    go_wp2_with go_step3
    (try simp only[Exit.inBlock,Exit.then,Exit.noGoto_ret])
    refine bodyPost_ret (results_state2 rfl _ _ (by rfl) (set4r rR2)) rfl ?_
    rw[HBB.out]
    exact sb_same HL.out ⟨rfl,bl4 (bl_alloc hB _) (by omega)⟩
  go_wp2_with go_step3
  skip
  refine wp_abs (S0:=fun X=>(fun w'=>P6 w' (w.heap.size) k l d b cc o (S4 w' (w.heap.size+1) at_ level held a n c (ResB w' (w.heap.size+1)∧X3 w' (w.heap.size+1+1) ak now cost (ResB w' (w.heap.size+1+1+1)∧S4 w' (w2.heap.size) aat alv held a1 0 c1 (ResB w' (w2.heap.size)∧Below w.heap.size w w'))))) X∧w2.heap.size+1≤X.heap.size) ⟨⟨bl_cell k1 p0,bl_cell k1 p1,bl_cell k1 p2,bl_cell k1 p3,bl_cell k1 p4,bl_cell k1 p5,bl_cell k1 s0,bl_cell k1 s1,bl_cell k1 s2,bl_cell k1 s3,res_bl sR k1,bl_cell k1 x0,bl_cell k1 x1,bl_cell k1 x2,res_bl rR k1,by go_simp,by go_simp,by go_simp,by go_simp,res_new _ _ _ _ _ _ (by simp),bl_alloc (hB) _⟩,by simp⟩ ?_
  clear p0 p1 p2 p3 p4 p5 s0 s1 s2 s3 sR x0 x1 x2 rR hB
  rintro w3 ⟨⟨p0,p1,p2,p3,p4,p5,s0,s1,s2,s3,sR,x0,x1,x2,rR,t0,t1,t2,t3,tR,hB⟩,hsz3⟩
  replace lb_p:=lbc p0
  replace lb_s:=lbc s0
  replace lb_x:=lbc x0
  have lb_t:=lbc t0
  obtain⟨g4,hg4⟩:∃ g,decide (ak≤2)=g:=⟨_,rfl⟩
  obtain⟨g5,hg5⟩:∃ g,decide (RO<cost)=g:=⟨_,rfl⟩
  refine wp_region_held_drew (S:=fun w'=>P6 w' (w.heap.size) k l d b cc o (S4 w' (w.heap.size+1) at_ level held a n c (ResB w' (w.heap.size+1)∧X3 w' (w.heap.size+1+1) ak now cost (ResB w' (w.heap.size+1+1+1)∧S4 w' (w2.heap.size) aat alv held a1 0 c1 (ResB w' (w2.heap.size)∧Below w.heap.size w w'))))) (by kernel_rfl) ?_ (fun hHeld=>?_)
  · exact⟨p0,p1,p2,p3,p4,p5,s0,s1,s2,s3,sR,x0,x1,x2,rR,t0,t1,t2,t3,tR,bl_drew hB⟩
  try simp only[Act.put,List.setIfInBounds_toArray,List.set_cons_zero,List.set_cons_succ]
  clear hB p0 p1 p2 p3 p4 p5 s0 s1 s2 s3 sR x0 x1 x2 rR t0 t1 t2 t3 tR
  all_goals refine tkx 0 ?_
  all_goals refine tkx 1 ?_
  all_goals refine tkx 2 ?_
  all_goals(first|((fail_if_success (clear hg4 g4));cases g4)|skip)
  all_goals refine tkx 3 ?_
  all_goals(first|refine tqx 4 ?_|refine tkx 4 ?_)
  all_goals(first|refine tqx 5 ?_|refine tkx 5 ?_)
  all_goals(first|refine tqx 6 ?_|refine tkx 6 ?_)
  all_goals(first|refine tqx 7 ?_|refine tkx 7 ?_)
  all_goals(first|refine tqx 8 ?_|refine tkx 8 ?_)
  all_goals(first|refine tqx 9 ?_|refine tkx 9 ?_)
  all_goals(first|refine tqx 10 ?_|(refine callH (i:=10) rfl hHeld (fun W hW K hK=>?_);clear hHeld;(try dsimp only at hW);obtain⟨h_p0,h_p1,h_p2,h_p3,h_p4,h_p5,h_s0,h_s1,h_s2,h_s3,h_sR,h_x0,h_x1,h_x2,h_rR,h_t0,h_t1,h_t2,h_t3,h_tR,h_B⟩:=hW;go_simp;refine(HRO.out W (log_bl HL.out h_B)).mono ?_;rintro e w9 ⟨rfl,hb⟩;go_wp2_with fail;refine hK.out _ _ ?_ (fun hHeld=>?_);(focus((try dsimp only);exact⟨bl_cell hb h_p0,bl_cell hb h_p1,bl_cell hb h_p2,bl_cell hb h_p3,bl_cell hb h_p4,bl_cell hb h_p5,bl_cell hb h_s0,bl_cell hb h_s1,bl_cell hb h_s2,bl_cell hb h_s3,res_bl h_sR hb,bl_cell hb h_x0,bl_cell hb h_x1,bl_cell hb h_x2,res_bl h_rR hb,bl_cell hb h_t0,bl_cell hb h_t1,bl_cell hb h_t2,bl_cell hb h_t3,res_bl h_tR hb,bl_then h_B hb⟩));clear hK K;clear h_p0 h_p1 h_p2 h_p3 h_p4 h_p5 h_s0 h_s1 h_s2 h_s3 h_sR h_x0 h_x1 h_x2 h_rR h_t0 h_t1 h_t2 h_t3 h_tR h_B;try simp only[Act.put,List.setIfInBounds_toArray,List.set_cons_zero,List.set_cons_succ]))
  all_goals(first|refine tqx 11 ?_|refine tkx 11 ?_)
  all_goals(first|((fail_if_success (clear hg5 g5));cases g5)|skip)
  all_goals refine tkx 12 ?_
  all_goals refine tkx 13 ?_
  all_goals(refine wpAnyH_done (by kernel_rfl) ?_ _)
  all_goals(refine then_abs (F:=fun w'=>P6 w' (w.heap.size) k l d b cc o (S4 w' (w.heap.size+1) at_ level held a n c (ResB w' (w.heap.size+1)∧X3 w' (w.heap.size+1+1) ak now cost (ResB w' (w.heap.size+1+1+1)∧S4 w' (w2.heap.size) aat alv held a1 0 c1 (ResB w' (w2.heap.size)∧Below w.heap.size w w'))))) hHeld ?_;clear hHeld;rintro wL ⟨p0,p1,p2,p3,p4,p5,s0,s1,s2,s3,sR,x0,x1,x2,rR,t0,t1,t2,t3,tR,hB⟩)
  all_goals(obtain⟨f0,f1,f2,f3,u0,u1,u2,u3,i0,i1,i2,i3⟩:=res_all rR)
  all_goals(have hq4:=hg4;have hq5:=hg5;simp only[decide_eq_true_eq,decide_eq_false_iff_not] at hq4 hq5)
  all_goals first
    | (have hx:ak≤2∧RO<cost:=by omega
       have hbad:=HD.out.1 (by omega)
       have HBB:=Go.Lib.hid hbad
       clear hbad
       go_wp2_with go_step3
       (try simp only[Exit.inBlock,Exit.then,Exit.noGoto_ret])
       refine bodyPost_ret (results_state2 rfl _ _ (by rfl) (set4r rR)) rfl ?_
       rw[HBB.out]
       exact sb_same HL.out ⟨rfl,bl4 hB (by omega)⟩)
    | (have hk:ak=1∨ak=2:=by omega
       rcases hk with rfl|rfl
       ·
         have hdn:=Go.Lib.hid (HD.out.2.1 (by rfl) (by omega) (by omega))
         obtain⟨hd0,hD,hbm,hh0,hh1,hrm,hy,hlv⟩:=HBD.out
         obtain⟨z0,z1,z2⟩:=hlv
         have c0:0≤cost*d:=Int.mul_nonneg (by omega) (by omega)
         have c1:=hrm.1 (by omega)
         have wa2:IntKind.i64.wrap (alv - cost*d)=alv - cost*d:=IntWalk.i64_in _ (by omega)
         have wa3:IntKind.i64.wrap (held+cost)=held+cost:=IntWalk.i64_in _ (by omega)
         have wa1:IntKind.i64.wrap (cost*d)=cost*d:=IntWalk.i64_in _ (by omega)
         clear hd0 hD hbm hh0 hh1 hrm hy z0 z1 z2 c0 c1 hq4 hq5
         obtain⟨ft0,ft1,ft2,ft3,ut0,ut1,ut2,ut3,it0,it1,it2,it3⟩:=res_all tR
         have ltT:=res_lt tR
         go_wp2_with go_step3
         (try simp only[Exit.inBlock,Exit.then,Exit.noGoto_ret])
         refine bodyPost_ret (results_state2 rfl _ _ (by rfl) (set4r (res_set (rR) _ _))) rfl ?_
         rw[hdn.out]
         exact sb_nil hc1 (bl4 (bl_set (hB) (by dsimp only;omega) _) (by omega))
       ·
         have hdn:=Go.Lib.hid (HD.out.2.2.1 (by rfl) (by omega) (by omega))
         obtain⟨hd0,hD,hbm,hh0,hh1,hrm,hy,hlv⟩:=HBD.out
         obtain⟨z0,z1,z2⟩:=hlv
         have c0:0≤cost*d:=Int.mul_nonneg (by omega) (by omega)
         have c1:=hrm.1 (by omega)
         have wa2:IntKind.i64.wrap (alv - cost*d)=alv - cost*d:=IntWalk.i64_in _ (by omega)
         have wa3:IntKind.i64.wrap (held+cost)=held+cost:=IntWalk.i64_in _ (by omega)
         have wa1:IntKind.i64.wrap (cost*d)=cost*d:=IntWalk.i64_in _ (by omega)
         clear hd0 hD hbm hh0 hh1 hrm hy z0 z1 z2 c0 c1 hq4 hq5
         obtain⟨ft0,ft1,ft2,ft3,ut0,ut1,ut2,ut3,it0,it1,it2,it3⟩:=res_all tR
         have ltT:=res_lt tR
         go_wp2_with go_step3
         (try simp only[Exit.inBlock,Exit.then,Exit.noGoto_ret])
         refine bodyPost_ret (results_state2 rfl _ _ (by rfl) (set4r (res_set (res_set (rR) _ _) _ _))) rfl ?_
         rw[hdn.out]
         exact sb_nil hc1 (bl4 (bl_set (bl_set (hB) (by dsimp only;omega) _) (by dsimp only;omega) _) (by omega)))
    | (have h6:3≤ak:=by omega
       by_cases h7:held<cost
       ·
         have hbad:=HD.out.1 (by omega)
         have HBB:=Go.Lib.hid hbad
         clear hbad
         go_wp2_with go_step3
         (try simp only[Exit.inBlock,Exit.then,Exit.noGoto_ret])
         refine bodyPost_ret (results_state2 rfl _ _ (by rfl) (set4r rR)) rfl ?_
         rw[HBB.out]
         exact sb_same HL.out ⟨rfl,bl4 hB (by omega)⟩
       · have hk:ak=3∨ak=4:=by omega
         rcases hk with rfl|rfl
         ·
           have hdn:=Go.Lib.hid (HD.out.2.2.2.1 (by rfl) (by omega) (by omega))
           obtain⟨hd0,hD,hbm,hh0,hh1,hrm,hy,hlv⟩:=HBD.out
           obtain⟨z0,z1,z2⟩:=hlv
           have c0:0≤cost*d:=Int.mul_nonneg (by omega) (by omega)
           have c1:cost*d≤1152921504606846976:=prod_le (by omega) (by omega) (by omega)
           have wa2:IntKind.i64.wrap (alv+cost*d)=alv+cost*d:=IntWalk.i64_in _ (by omega)
           have wa3:IntKind.i64.wrap (held - cost)=held - cost:=IntWalk.i64_in _ (by omega)
           have wa1:IntKind.i64.wrap (cost*d)=cost*d:=IntWalk.i64_in _ (by omega)
           clear hd0 hD hbm hh0 hh1 hrm hy z0 z1 z2 c0 c1 hq4 hq5
           obtain⟨ft0,ft1,ft2,ft3,ut0,ut1,ut2,ut3,it0,it1,it2,it3⟩:=res_all tR
           have ltT:=res_lt tR
           go_wp2_with go_step3
           (try simp only[Exit.inBlock,Exit.then,Exit.noGoto_ret])
           refine bodyPost_ret (results_state2 rfl _ _ (by rfl) (set4r (res_set (res_set (rR) _ _) _ _))) rfl ?_
           rw[hdn.out]
           exact sb_nil hc1 (bl4 (bl_set (bl_set (hB) (by dsimp only;omega) _) (by dsimp only;omega) _) (by omega))
         ·
           have hdn:=Go.Lib.hid (HD.out.2.2.2.2 (by rfl) (by omega) (by omega))
           obtain⟨hd0,hD,hbm,hh0,hh1,hrm,hy,hlv⟩:=HBD.out
           obtain⟨z0,z1,z2⟩:=hlv
           have c0:0≤cost*d:=Int.mul_nonneg (by omega) (by omega)
           have c1:cost*d≤1152921504606846976:=prod_le (by omega) (by omega) (by omega)
           have wa2:IntKind.i64.wrap (alv+cost*d)=alv+cost*d:=IntWalk.i64_in _ (by omega)
           have wa3:IntKind.i64.wrap (held - cost)=held - cost:=IntWalk.i64_in _ (by omega)
           have wa1:IntKind.i64.wrap (cost*d)=cost*d:=IntWalk.i64_in _ (by omega)
           clear hd0 hD hbm hh0 hh1 hrm hy z0 z1 z2 c0 c1 hq4 hq5
           obtain⟨ft0,ft1,ft2,ft3,ut0,ut1,ut2,ut3,it0,it1,it2,it3⟩:=res_all tR
           have ltT:=res_lt tR
           go_wp2_with go_step3
           (try simp only[Exit.inBlock,Exit.then,Exit.noGoto_ret])
           refine bodyPost_ret (results_state2 rfl _ _ (by rfl) (set4r (res_set (rR) _ _))) rfl ?_
           rw[hdn.out]
           exact sb_nil hc1 (bl4 (bl_set (hB) (by dsimp only;omega) _) (by omega)))
theorem r4do_any (p:Pol) (s:St) (a:Option Addr) (n c:Nat) (x:Ac) (w:World) (hl:LogAt w a n c s.log):Calls Tryz.prog 67 #[p.v,s.v a n c,x.v] w (PostSB a n (doB p s x) w):=by
 obtain⟨ak,now,cost⟩:=x
 by_cases h:rightB p s
 ·exact r4do_yes p s a n c ak now cost w hl h
 ·exact r4do_no p s a n c ak now cost w hl h
theorem r7right_neg (k l d b cc at_ level held:Int) (o:Bool) (L:List (Int × Int)) (a:Option Addr) (n c:Nat) (w:World) (R:Bool) (hok:okC ⟨k,l,d,b,cc,o⟩) (hr:R=true↔0≤at_∧at_≤9007199254740992∧0≤held∧0≤level∧held≤l∧level≤l∧held+level≤l∧n=0) (h0:held<0):Calls Tryz.prog 86 #[Pol.v ⟨k,l,d,b,cc,o⟩,St.v ⟨at_,level,held,L⟩ a n c] w fun e w'=>e=.returned (.bool R)∧Below w.heap.size w w':=by
 have hck:=r7chk ⟨k,l,d,b,cc,o⟩
 rw[show chkC ⟨k,l,d,b,cc,o⟩=0 from if_pos hok] at hck
 unfold St.v Pol.v at *
 dsimp only at *
 obtain⟨q0,q1,q2,q3,q4,q5,q6⟩:=hok
 dsimp only at q0 q1 q2 q3 q4 q5 q6
 clear q0 q5 q6
 have hf:R=false:=by rw[Bool.eq_false_iff];intro h;have:=hr.1 h;omega
 clear hr
 subst hf
 have HCK:=Go.Lib.hid hck
 clear hck
 go_enter Tryz.func86,Tryz.ntmps86
 go_wp2_with fail
 refine(HCK.out _).mono ?_
 rintro e w1 ⟨rfl,hb⟩
 have hx:Below w.heap.size w w1:=bl_then k2 hb
 have hsz1:w.heap.size+2≤w1.heap.size:=szl hb
 obtain⟨p0,p1,p2,p3,p4,p5⟩:=b6 (w.heap.size) k l d b cc o hb
 obtain⟨s0,s1,s2,s3⟩:=b4 (w.heap.size+1) at_ level held a n c hb
 have hB:Below w.heap.size w w1:=hx
 have lb_p:=lbc p0
 have lb_s:=lbc s0
 clear hb hx
 go_wp2_with fail
 all_goals
  go_ret
  exact⟨rfl,hB⟩
theorem r7right_much (k l d b cc at_ level held:Int) (o:Bool) (L:List (Int × Int)) (a:Option Addr) (n c:Nat) (w:World) (R:Bool) (hok:okC ⟨k,l,d,b,cc,o⟩) (hr:R=true↔0≤at_∧at_≤9007199254740992∧0≤held∧0≤level∧held≤l∧level≤l∧held+level≤l∧n=0) (h0:¬ held<0) (h1:l<held):Calls Tryz.prog 86 #[Pol.v ⟨k,l,d,b,cc,o⟩,St.v ⟨at_,level,held,L⟩ a n c] w fun e w'=>e=.returned (.bool R)∧Below w.heap.size w w':=by
 have hck:=r7chk ⟨k,l,d,b,cc,o⟩
 rw[show chkC ⟨k,l,d,b,cc,o⟩=0 from if_pos hok] at hck
 unfold St.v Pol.v at *
 dsimp only at *
 obtain⟨q0,q1,q2,q3,q4,q5,q6⟩:=hok
 dsimp only at q0 q1 q2 q3 q4 q5 q6
 clear q0 q5 q6
 have hf:R=false:=by rw[Bool.eq_false_iff];intro h;have:=hr.1 h;omega
 clear hr
 subst hf
 have HCK:=Go.Lib.hid hck
 clear hck
 go_enter Tryz.func86,Tryz.ntmps86
 go_wp2_with fail
 refine(HCK.out _).mono ?_
 rintro e w1 ⟨rfl,hb⟩
 have hx:Below w.heap.size w w1:=bl_then k2 hb
 have hsz1:w.heap.size+2≤w1.heap.size:=szl hb
 obtain⟨p0,p1,p2,p3,p4,p5⟩:=b6 (w.heap.size) k l d b cc o hb
 obtain⟨s0,s1,s2,s3⟩:=b4 (w.heap.size+1) at_ level held a n c hb
 have hB:Below w.heap.size w w1:=hx
 have lb_p:=lbc p0
 have lb_s:=lbc s0
 clear hb hx
 go_wp2_with fail
 all_goals
  go_ret
  exact⟨rfl,hB⟩
theorem r7right_main (k l d b cc at_ level held:Int) (o:Bool) (L:List (Int × Int)) (a:Option Addr) (n c:Nat) (w:World) (R:Bool) (hok:okC ⟨k,l,d,b,cc,o⟩) (hr:R=true↔0≤at_∧at_≤9007199254740992∧0≤held∧0≤level∧held≤l∧level≤l∧held+level≤l∧n=0) (h0:¬ held<0) (h1:¬ l<held):Calls Tryz.prog 86 #[Pol.v ⟨k,l,d,b,cc,o⟩,St.v ⟨at_,level,held,L⟩ a n c] w fun e w'=>e=.returned (.bool R)∧Below w.heap.size w w':=by
 have hck:=r7chk ⟨k,l,d,b,cc,o⟩
 rw[show chkC ⟨k,l,d,b,cc,o⟩=0 from if_pos hok] at hck
 unfold St.v Pol.v at *
 dsimp only at *
 obtain⟨q0,q1,q2,q3,q4,q5,q6⟩:=hok
 dsimp only at q0 q1 q2 q3 q4 q5 q6
 clear q0 q5 q6
 have hw1:IntKind.i64.wrap (l - held)=l - held:=IntWalk.i64_in _ (by omega)
 have HR:=Go.Lib.hid hr
 clear hr
 have HCK:=Go.Lib.hid hck
 clear hck
 go_enter Tryz.func86,Tryz.ntmps86
 go_wp2_with fail
 refine(HCK.out _).mono ?_
 rintro e w1 ⟨rfl,hb⟩
 have hx:Below w.heap.size w w1:=bl_then k2 hb
 have hsz1:w.heap.size+2≤w1.heap.size:=szl hb
 obtain⟨p0,p1,p2,p3,p4,p5⟩:=b6 (w.heap.size) k l d b cc o hb
 obtain⟨s0,s1,s2,s3⟩:=b4 (w.heap.size+1) at_ level held a n c hb
 have hB:Below w.heap.size w w1:=hx
 have lb_p:=lbc p0
 have lb_s:=lbc s0
 clear hb hx
 go_wp2_with fail
 all_goals
  go_ret
  refine⟨congrArg (fun x=>Ending.returned (.bool x)) ?_,hB⟩
  rw[Bool.eq_iff_iff,HR.out]
  try simp only[decide_eq_true_eq,Bool.false_eq_true,true_iff,false_iff,iff_true,iff_false]
  omega
theorem r7right_any (p:Pol) (s:St) (a:Option Addr) (n c:Nat) (hn:s.log.length=n) (w:World):Calls Tryz.prog 86 #[p.v,s.v a n c] w fun e w'=>e=.returned (.bool (decide (rightC p s)))∧Below w.heap.size w w':=by
 obtain⟨k,l,d,b,cc,o⟩:=p
 obtain⟨at_,level,held,L⟩:=s
 dsimp only at hn
 by_cases hok:okC ⟨k,l,d,b,cc,o⟩
 ·have hr:decide (rightC ⟨k,l,d,b,cc,o⟩ ⟨at_,level,held,L⟩)=true↔0≤at_∧at_≤9007199254740992∧0≤held∧0≤level∧held≤l∧level≤l∧held+level≤l∧n=0:=by
   rw[decide_eq_true_eq]
   unfold rightC
   simp only[eq_true hok,true_and,← List.length_eq_zero_iff,hn]
   try omega
  generalize decide (rightC ⟨k,l,d,b,cc,o⟩ ⟨at_,level,held,L⟩)=R at *
  by_cases h0:held<0
  ·exact r7right_neg k l d b cc at_ level held o L a n c w R hok hr h0
  by_cases h1:l<held
  ·exact r7right_much k l d b cc at_ level held o L a n c w R hok hr h0 h1
  exact r7right_main k l d b cc at_ level held o L a n c w R hok hr h0 h1
 ·rw[decide_eq_false (fun z=>hok z.1)]
  have hck:=r7chk ⟨k,l,d,b,cc,o⟩
  rw[show chkC ⟨k,l,d,b,cc,o⟩=2 from if_neg hok] at hck
  clear hok
  unfold St.v Pol.v at *
  dsimp only at *
  have HCK:=Go.Lib.hid hck
  clear hck
  go_enter Tryz.func86,Tryz.ntmps86
  go_wp2_with fail
  refine(HCK.out _).mono ?_
  rintro e w1 ⟨rfl,hb⟩
  have hx:Below w.heap.size w w1:=bl_then k2 hb
  have hsz1:w.heap.size+2≤w1.heap.size:=szl hb
  obtain⟨p0,p1,p2,p3,p4,p5⟩:=b6 (w.heap.size) k l d b cc o hb
  obtain⟨s0,s1,s2,s3⟩:=b4 (w.heap.size+1) at_ level held a n c hb
  have hB:Below w.heap.size w w1:=hx
  have lb_p:=lbc p0
  have lb_s:=lbc s0
  clear hb hx
  go_wp2_with fail
  go_ret
  exact⟨rfl,hB⟩
theorem r7adv_no (p:Pol) (s:St) (a:Option Addr) (n c:Nat) (now:Int) (w:World) (hl:LogAt w a n c s.log) (h:¬ rightC p s):Calls Tryz.prog 92 #[p.v,s.v a n c,.int .i64 now] w (PostS a n (advC p s now) w):=by
 have hrt:=fun w=>r7right_any p s a n c hl.1 w
 rw[decide_eq_false h] at hrt
 unfold advC
 rw[if_neg h]
 clear h
 refine Calls.mono (R:=fun e w'=>e=.returned (St.none.v none 0 0)∧Below w.heap.size w w') ?_ (fun e w' hh=>⟨none,0,0,hh.1,log_nil _ _ _ (by omega),.inl rfl,hh.2⟩)
 obtain⟨k,l,d,b,cc,o⟩:=p
 obtain⟨at_,level,held,L⟩:=s
 unfold St.none St.v Pol.v at *
 dsimp only at *
 have HRT:=Go.Lib.hid hrt
 clear hrt
 clear hl
 go_enter Tryz.func92,Tryz.ntmps92
 go_wp2_with fail
 refine(HRT.out _).mono ?_
 rintro e w1 ⟨rfl,hb⟩
 have hx:Below w.heap.size w w1:=bl_then k3 hb
 have hsz1:w.heap.size+3≤w1.heap.size:=szl hb
 obtain⟨p0,p1,p2,p3,p4,p5⟩:=b6 (w.heap.size) k l d b cc o hb
 obtain⟨s0,s1,s2,s3⟩:=b4 (w.heap.size+1) at_ level held a n c hb
 have sR:=res_bl (b:=w.heap.size+1) (res_bl (res_new _ _ _ _ _ _ (by simp)) k1) hb
 have rR:=res_bl (b:=w.heap.size+1+1) (res_new _ _ _ _ _ _ (by simp)) hb
 have hB:Below w.heap.size w w1:=hx
 have lb_p:=lbc p0
 have lb_s:=lbc s0
 clear hb hx
 obtain⟨f0,f1,f2,f3,u0,u1,u2,u3,i0,i1,i2,i3⟩:=res_all rR
 go_wp2_with fail
 (try simp only[Exit.inBlock,Exit.then,Exit.noGoto_ret])
 refine bodyPost_ret (results_state rfl _ _ (by rfl) (set4r (rR))) rfl ⟨rfl,bl4 (hB) (by omega)⟩
theorem r7adv_old (p:Pol) (s:St) (a:Option Addr) (n c:Nat) (now:Int) (w:World) (hl:LogAt w a n c s.log) (h:rightC p s) (hb:up s.at_ (clampT now) - up s.at_ (clampT now) % p.period≤s.at_):Calls Tryz.prog 92 #[p.v,s.v a n c,.int .i64 now] w (PostS a n (advC p s now) w):=by
 have hrt:=fun w=>r7right_any p s a n c hl.1 w
 rw[decide_eq_true h] at hrt
 rw[advC_old h hb]
 have hL:=h.2.2.2.2.2.2.2.2
 have hn0:n=0:=by rw[← hl.1,hL];rfl
 have hc:=hl.2.2.1
 have hcl:=rclamp_bl now
 have hcr:=clampT_range now
 have hT:0≤up s.at_ (clampT now)∧up s.at_ (clampT now)≤9007199254740992:=by have:=h.2.1;have:=h.2.2.1;unfold up;split <;> omega
 have hbg:=fun w=>rbegin_any p (up s.at_ (clampT now)) w h.1.2.2.1 h.1.2.2.2.2.1 hT.1 hT.2
 have hmx:(if s.at_<clampT now then clampT now else s.at_)=up s.at_ (clampT now):=rfl
 clear h
 obtain⟨k,l,d,b,cc,o⟩:=p
 obtain⟨at_,level,held,L⟩:=s
 unfold St.v Pol.v at *
 dsimp only at *
 subst hn0 hL
 generalize up at_ (clampT now)=T at *
 generalize clampT now=C at *
 generalize T - T % d=G at *
 have hdb:decide (at_<G)=false:=decide_eq_false (by omega)
 have hdc:=(show ¬ (at_<G) by omega)
 refine Calls.mono (R:=fun e w'=>e=.returned (.agg #[.int .i64 T,.int .i64 level,.int .i64 held,.slice a 0 c])∧Below w.heap.size w w') ?_ (fun e w' hh=>⟨a,0,c,hh.1,log_nil _ _ _ hc,.inl rfl,hh.2⟩)
 clear hb hT hcr hl
 have HRT:=Go.Lib.hid hrt
 have HCL:=Go.Lib.hid hcl
 have HBG:=Go.Lib.hid hbg
 clear hrt hcl hbg
 go_enter Tryz.func92,Tryz.ntmps92
 go_wp2_with fail
 refine(HRT.out _).mono ?_
 rintro e w1 ⟨rfl,hb⟩
 have hx:Below w.heap.size w w1:=bl_then k3 hb
 have hsz1:w.heap.size+3≤w1.heap.size:=szl hb
 obtain⟨p0,p1,p2,p3,p4,p5⟩:=b6 (w.heap.size) k l d b cc o hb
 obtain⟨s0,s1,s2,s3⟩:=b4 (w.heap.size+1) at_ level held a 0 c hb
 have sR:=res_bl (b:=w.heap.size+1) (res_bl (res_new _ _ _ _ _ _ (by simp)) k1) hb
 have rR:=res_bl (b:=w.heap.size+1+1) (res_new _ _ _ _ _ _ (by simp)) hb
 have hB:Below w.heap.size w w1:=hx
 have lb_p:=lbc p0
 have lb_s:=lbc s0
 clear hb hx
 go_wp2_with fail
 refine wp_region_held_drew (S:=fun w'=>P6 w' (w.heap.size) k l d b cc o (S4 w' (w.heap.size+1) at_ level held a 0 c (ResB w' (w.heap.size+1)∧ResB w' (w.heap.size+1+1)∧Below w.heap.size w w'))) (by kernel_rfl) ?_ (fun hHeld=>?_)
 ·exact⟨p0,p1,p2,p3,p4,p5,s0,s1,s2,s3,sR,rR,bl_drew hB⟩
 try simp only[Act.put,List.setIfInBounds_toArray,List.set_cons_zero,List.set_cons_succ]
 refine tkx 0 ?_
 refine tkx 1 ?_
 refine tkx 2 ?_
 (refine callH (i:=3) rfl hHeld (fun W hW K hK=>?_);clear hHeld;(try dsimp only at hW);obtain⟨h_p0,h_p1,h_p2,h_p3,h_p4,h_p5,h_s0,h_s1,h_s2,h_s3,h_sR,h_rR,h_B⟩:=hW;go_simp;refine(HCL.out W).mono ?_;rintro e w9 ⟨rfl,hb⟩;go_wp2_with fail;refine hK.out _ _ ?_ (fun hHeld=>?_);(focus((try dsimp only);exact⟨bl_cell hb h_p0,bl_cell hb h_p1,bl_cell hb h_p2,bl_cell hb h_p3,bl_cell hb h_p4,bl_cell hb h_p5,bl_cell hb h_s0,bl_cell hb h_s1,bl_cell hb h_s2,bl_cell hb h_s3,res_bl h_sR hb,res_bl h_rR hb,bl_then h_B hb⟩));clear hK K;clear h_p0 h_p1 h_p2 h_p3 h_p4 h_p5 h_s0 h_s1 h_s2 h_s3 h_sR h_rR h_B;try simp only[Act.put,List.setIfInBounds_toArray,List.set_cons_zero,List.set_cons_succ])
 refine tkx 4 ?_
 refine tkx 5 ?_
 refine wpAnyH_done (by kernel_rfl) ?_ _
 refine then_abs (F:=fun w'=>P6 w' (w.heap.size) k l d b cc o (S4 w' (w.heap.size+1) at_ level held a 0 c (ResB w' (w.heap.size+1)∧ResB w' (w.heap.size+1+1)∧Below w.heap.size w w'))) hHeld ?_
 clear hHeld hB p0 p1 p2 p3 p4 p5 s0 s1 s2 s3 sR rR
 rintro w2 ⟨p0,p1,p2,p3,p4,p5,s0,s1,s2,s3,sR,rR,hB⟩
 replace lb_p:=lbc p0
 replace lb_s:=lbc s0
 go_wp2_with fail
 refine wp_region_held_drew (S:=fun w'=>P6 w' (w.heap.size) k l d b cc o (S4 w' (w.heap.size+1) at_ level held a 0 c (ResB w' (w.heap.size+1)∧ResB w' (w.heap.size+1+1)∧Below w.heap.size w w'))) (by kernel_rfl) ?_ (fun hHeld=>?_)
 ·exact⟨p0,p1,p2,p3,p4,p5,s0,s1,s2,s3,sR,rR,bl_drew hB⟩
 try simp only[Act.put,List.setIfInBounds_toArray,List.set_cons_zero,List.set_cons_succ]
 refine tkx 0 ?_
 refine tkx 1 ?_
 refine tkx 3 ?_
 refine tkx 4 ?_
 (refine callH (i:=2) rfl hHeld (fun W hW K hK=>?_);clear hHeld;(try dsimp only at hW);obtain⟨h_p0,h_p1,h_p2,h_p3,h_p4,h_p5,h_s0,h_s1,h_s2,h_s3,h_sR,h_rR,h_B⟩:=hW;go_simp;refine(HBG.out W).mono ?_;rintro e w9 ⟨rfl,hb⟩;go_wp2_with fail;refine hK.out _ _ ?_ (fun hHeld=>?_);(focus((try dsimp only);exact⟨bl_cell hb h_p0,bl_cell hb h_p1,bl_cell hb h_p2,bl_cell hb h_p3,bl_cell hb h_p4,bl_cell hb h_p5,bl_cell hb h_s0,bl_cell hb h_s1,bl_cell hb h_s2,bl_cell hb h_s3,res_bl h_sR hb,res_bl h_rR hb,bl_then h_B hb⟩));clear hK K;clear h_p0 h_p1 h_p2 h_p3 h_p4 h_p5 h_s0 h_s1 h_s2 h_s3 h_sR h_rR h_B;try simp only[Act.put,List.setIfInBounds_toArray,List.set_cons_zero,List.set_cons_succ])
 refine tkx 5 ?_
 refine wpAnyH_done (by kernel_rfl) ?_ _
 refine then_abs (F:=fun w'=>P6 w' (w.heap.size) k l d b cc o (S4 w' (w.heap.size+1) at_ level held a 0 c (ResB w' (w.heap.size+1)∧ResB w' (w.heap.size+1+1)∧Below w.heap.size w w'))) hHeld ?_
 clear hHeld hB p0 p1 p2 p3 p4 p5 s0 s1 s2 s3 sR rR
 rintro w3 ⟨p0,p1,p2,p3,p4,p5,s0,s1,s2,s3,sR,rR,hB⟩
 replace lb_p:=lbc p0
 replace lb_s:=lbc s0
 obtain⟨f0,f1,f2,f3,u0,u1,u2,u3,i0,i1,i2,i3⟩:=res_all rR
 obtain⟨fs0,fs1,fs2,fs3,us0,us1,us2,us3,is0,is1,is2,is3⟩:=res_all sR
 have ne:=(show w.heap.size+1≠w.heap.size+1+1 by omega)
 go_wp2_with fail
 (try simp only[Exit.inBlock,Exit.then,Exit.noGoto_ret])
 refine bodyPost_ret (results_state rfl _ _ (by rfl) (set4r (res_set (rR) _ _))) rfl ⟨rfl,bl4 (bl_set (hB) (by dsimp only;omega) _) (by omega)⟩
theorem r7adv_new (p:Pol) (s:St) (a:Option Addr) (n c:Nat) (now:Int) (w:World) (hl:LogAt w a n c s.log) (h:rightC p s) (hb:¬ up s.at_ (clampT now) - up s.at_ (clampT now) % p.period≤s.at_):Calls Tryz.prog 92 #[p.v,s.v a n c,.int .i64 now] w (PostS a n (advC p s now) w):=by
 have hrt:=fun w=>r7right_any p s a n c hl.1 w
 rw[decide_eq_true h] at hrt
 rw[advC_new h hb]
 have hL:=h.2.2.2.2.2.2.2.2
 have hn0:n=0:=by rw[← hl.1,hL];rfl
 have hc:=hl.2.2.1
 have hcl:=rclamp_bl now
 have hcr:=clampT_range now
 have hT:0≤up s.at_ (clampT now)∧up s.at_ (clampT now)≤9007199254740992:=by have:=h.2.1;have:=h.2.2.1;unfold up;split <;> omega
 have hbg:=fun w=>rbegin_any p (up s.at_ (clampT now)) w h.1.2.2.1 h.1.2.2.2.2.1 hT.1 hT.2
 have hmx:(if s.at_<clampT now then clampT now else s.at_)=up s.at_ (clampT now):=rfl
 clear h
 obtain⟨k,l,d,b,cc,o⟩:=p
 obtain⟨at_,level,held,L⟩:=s
 unfold St.v Pol.v at *
 dsimp only at *
 subst hn0 hL
 generalize up at_ (clampT now)=T at *
 generalize clampT now=C at *
 generalize T - T % d=G at *
 have hdb:decide (at_<G)=true:=decide_eq_true (by omega)
 have hdc:=(show(at_<G) by omega)
 refine Calls.mono (R:=fun e w'=>e=.returned (.agg #[.int .i64 T,.int .i64 0,.int .i64 held,.slice a 0 c])∧Below w.heap.size w w') ?_ (fun e w' hh=>⟨a,0,c,hh.1,log_nil _ _ _ hc,.inl rfl,hh.2⟩)
 clear hb hT hcr hl
 have HRT:=Go.Lib.hid hrt
 have HCL:=Go.Lib.hid hcl
 have HBG:=Go.Lib.hid hbg
 clear hrt hcl hbg
 go_enter Tryz.func92,Tryz.ntmps92
 go_wp2_with fail
 refine(HRT.out _).mono ?_
 rintro e w1 ⟨rfl,hb⟩
 have hx:Below w.heap.size w w1:=bl_then k3 hb
 have hsz1:w.heap.size+3≤w1.heap.size:=szl hb
 obtain⟨p0,p1,p2,p3,p4,p5⟩:=b6 (w.heap.size) k l d b cc o hb
 obtain⟨s0,s1,s2,s3⟩:=b4 (w.heap.size+1) at_ level held a 0 c hb
 have sR:=res_bl (b:=w.heap.size+1) (res_bl (res_new _ _ _ _ _ _ (by simp)) k1) hb
 have rR:=res_bl (b:=w.heap.size+1+1) (res_new _ _ _ _ _ _ (by simp)) hb
 have hB:Below w.heap.size w w1:=hx
 have lb_p:=lbc p0
 have lb_s:=lbc s0
 clear hb hx
 go_wp2_with fail
 refine wp_region_held_drew (S:=fun w'=>P6 w' (w.heap.size) k l d b cc o (S4 w' (w.heap.size+1) at_ level held a 0 c (ResB w' (w.heap.size+1)∧ResB w' (w.heap.size+1+1)∧Below w.heap.size w w'))) (by kernel_rfl) ?_ (fun hHeld=>?_)
 ·exact⟨p0,p1,p2,p3,p4,p5,s0,s1,s2,s3,sR,rR,bl_drew hB⟩
 try simp only[Act.put,List.setIfInBounds_toArray,List.set_cons_zero,List.set_cons_succ]
 refine tkx 0 ?_
 refine tkx 1 ?_
 refine tkx 2 ?_
 (refine callH (i:=3) rfl hHeld (fun W hW K hK=>?_);clear hHeld;(try dsimp only at hW);obtain⟨h_p0,h_p1,h_p2,h_p3,h_p4,h_p5,h_s0,h_s1,h_s2,h_s3,h_sR,h_rR,h_B⟩:=hW;go_simp;refine(HCL.out W).mono ?_;rintro e w9 ⟨rfl,hb⟩;go_wp2_with fail;refine hK.out _ _ ?_ (fun hHeld=>?_);(focus((try dsimp only);exact⟨bl_cell hb h_p0,bl_cell hb h_p1,bl_cell hb h_p2,bl_cell hb h_p3,bl_cell hb h_p4,bl_cell hb h_p5,bl_cell hb h_s0,bl_cell hb h_s1,bl_cell hb h_s2,bl_cell hb h_s3,res_bl h_sR hb,res_bl h_rR hb,bl_then h_B hb⟩));clear hK K;clear h_p0 h_p1 h_p2 h_p3 h_p4 h_p5 h_s0 h_s1 h_s2 h_s3 h_sR h_rR h_B;try simp only[Act.put,List.setIfInBounds_toArray,List.set_cons_zero,List.set_cons_succ])
 refine tkx 4 ?_
 refine tkx 5 ?_
 refine wpAnyH_done (by kernel_rfl) ?_ _
 refine then_abs (F:=fun w'=>P6 w' (w.heap.size) k l d b cc o (S4 w' (w.heap.size+1) at_ level held a 0 c (ResB w' (w.heap.size+1)∧ResB w' (w.heap.size+1+1)∧Below w.heap.size w w'))) hHeld ?_
 clear hHeld hB p0 p1 p2 p3 p4 p5 s0 s1 s2 s3 sR rR
 rintro w2 ⟨p0,p1,p2,p3,p4,p5,s0,s1,s2,s3,sR,rR,hB⟩
 replace lb_p:=lbc p0
 replace lb_s:=lbc s0
 go_wp2_with fail
 refine wp_region_held_drew (S:=fun w'=>P6 w' (w.heap.size) k l d b cc o (S4 w' (w.heap.size+1) at_ level held a 0 c (ResB w' (w.heap.size+1)∧ResB w' (w.heap.size+1+1)∧Below w.heap.size w w'))) (by kernel_rfl) ?_ (fun hHeld=>?_)
 ·exact⟨p0,p1,p2,p3,p4,p5,s0,s1,s2,s3,sR,rR,bl_drew hB⟩
 try simp only[Act.put,List.setIfInBounds_toArray,List.set_cons_zero,List.set_cons_succ]
 refine tkx 0 ?_
 refine tkx 1 ?_
 refine tkx 3 ?_
 refine tkx 4 ?_
 (refine callH (i:=2) rfl hHeld (fun W hW K hK=>?_);clear hHeld;(try dsimp only at hW);obtain⟨h_p0,h_p1,h_p2,h_p3,h_p4,h_p5,h_s0,h_s1,h_s2,h_s3,h_sR,h_rR,h_B⟩:=hW;go_simp;refine(HBG.out W).mono ?_;rintro e w9 ⟨rfl,hb⟩;go_wp2_with fail;refine hK.out _ _ ?_ (fun hHeld=>?_);(focus((try dsimp only);exact⟨bl_cell hb h_p0,bl_cell hb h_p1,bl_cell hb h_p2,bl_cell hb h_p3,bl_cell hb h_p4,bl_cell hb h_p5,bl_cell hb h_s0,bl_cell hb h_s1,bl_cell hb h_s2,bl_cell hb h_s3,res_bl h_sR hb,res_bl h_rR hb,bl_then h_B hb⟩));clear hK K;clear h_p0 h_p1 h_p2 h_p3 h_p4 h_p5 h_s0 h_s1 h_s2 h_s3 h_sR h_rR h_B;try simp only[Act.put,List.setIfInBounds_toArray,List.set_cons_zero,List.set_cons_succ])
 refine tkx 5 ?_
 refine wpAnyH_done (by kernel_rfl) ?_ _
 refine then_abs (F:=fun w'=>P6 w' (w.heap.size) k l d b cc o (S4 w' (w.heap.size+1) at_ level held a 0 c (ResB w' (w.heap.size+1)∧ResB w' (w.heap.size+1+1)∧Below w.heap.size w w'))) hHeld ?_
 clear hHeld hB p0 p1 p2 p3 p4 p5 s0 s1 s2 s3 sR rR
 rintro w3 ⟨p0,p1,p2,p3,p4,p5,s0,s1,s2,s3,sR,rR,hB⟩
 replace lb_p:=lbc p0
 replace lb_s:=lbc s0
 obtain⟨f0,f1,f2,f3,u0,u1,u2,u3,i0,i1,i2,i3⟩:=res_all rR
 obtain⟨fs0,fs1,fs2,fs3,us0,us1,us2,us3,is0,is1,is2,is3⟩:=res_all sR
 have ne:=(show w.heap.size+1≠w.heap.size+1+1 by omega)
 go_wp2_with fail
 (try simp only[Exit.inBlock,Exit.then,Exit.noGoto_ret])
 refine bodyPost_ret (results_state rfl _ _ (by rfl) (set4r (res_set (res_set (rR) _ _) _ _))) rfl ⟨rfl,bl4 (bl_set (bl_set (hB) (by dsimp only;omega) _) (by dsimp only;omega) _) (by omega)⟩
theorem r7adv_any (p:Pol) (s:St) (a:Option Addr) (n c:Nat) (now:Int) (w:World) (hl:LogAt w a n c s.log):Calls Tryz.prog 92 #[p.v,s.v a n c,.int .i64 now] w (PostS a n (advC p s now) w):=by
 by_cases h:rightC p s
 ·by_cases hb:up s.at_ (clampT now) - up s.at_ (clampT now) % p.period≤s.at_
  ·exact r7adv_old p s a n c now w hl h hb
  ·exact r7adv_new p s a n c now w hl h hb
 ·exact r7adv_no p s a n c now w hl h
theorem r7room_no (p:Pol) (s:St) (a:Option Addr) (n c:Nat) (now:Int) (w:World) (hl:LogAt w a n c s.log) (h:¬ rightC p s):Calls Tryz.prog 135 #[p.v,s.v a n c,.int .i64 now] w fun e w'=>e=.returned (.int .i64 (roomC p s now))∧Below w.heap.size w w':=by
 have hrt:=fun w=>r7right_any p s a n c hl.1 w
 unfold roomC
 rw[if_neg h]
 rw[decide_eq_false h] at hrt
 clear h hl
 obtain⟨k,l,d,b,cc,o⟩:=p
 obtain⟨at_,level,held,L⟩:=s
 unfold St.v Pol.v at *
 dsimp only at *
 have HRT:=Go.Lib.hid hrt
 clear hrt
 go_enter Tryz.func135,Tryz.ntmps135
 go_wp2_with fail
 refine(HRT.out _).mono ?_
 rintro e w1 ⟨rfl,hb⟩
 have hx:Below w.heap.size w w1:=bl_then k2 hb
 have hsz1:w.heap.size+2≤w1.heap.size:=szl hb
 obtain⟨p0,p1,p2,p3,p4,p5⟩:=b6 (w.heap.size) k l d b cc o hb
 obtain⟨s0,s1,s2,s3⟩:=b4 (w.heap.size+1) at_ level held a n c hb
 have sR:=res_bl (b:=w.heap.size+1) (res_new _ _ _ _ _ _ (by simp)) hb
 have hB:Below w.heap.size w w1:=hx
 have lb_p:=lbc p0
 have lb_s:=lbc s0
 clear hb hx
 go_wp2_with fail
 go_ret
 exact⟨rfl,hB⟩
theorem r7room_yes (p:Pol) (s:St) (a:Option Addr) (n c:Nat) (now:Int) (w:World) (hl:LogAt w a n c s.log) (h:rightC p s)  : Calls Tryz.prog 135 #[p.v,s.v a n c,.int .i64 now] w fun e w'=>e=.returned (.int .i64 (roomC p s now))∧Below w.heap.size w w':=by
 have hrt:=fun w=>r7right_any p s a n c hl.1 w
 rw[decide_eq_true h] at hrt
 have hav:=fun w hw=>r7adv_any p s a n c now w hw
 unfold PostS at hav
 have hlv:=advC_level' (now:=now) h
 have hat:=advC_at (now:=now) h
 have hhx:=advC_held (now:=now) h
 have hd:=h.1.2.2.1
 have hD:=h.1.2.2.2.2.1
 have hlm:=h.1.2.2.2.1
 have hh0:=h.2.2.2.1
 unfold roomC
 rw[if_pos h]
 clear h
 generalize advC p s now=A at *
 obtain⟨aat,alv,ahd,alg⟩:=A
 obtain⟨k,l,d,b,cc,o⟩:=p
 obtain⟨at_,level,held,L⟩:=s
 unfold St.v Pol.v at *
 dsimp only at *
 obtain rfl:held=ahd:=hhx.symm
 obtain⟨g0,g1⟩:=hlv
 have wa1:IntKind.i64.wrap (l - held)=l - held:=IntWalk.i64_in _ (by omega)
 have wa2:IntKind.i64.wrap (l - held - alv)=l - held - alv:=IntWalk.i64_in _ (by omega)
 clear g0 g1 hat hd hD hlm hh0
 have HRT:=Go.Lib.hid hrt
 have HAV:=Go.Lib.hid hav
 have HL:=Go.Lib.hid hl
 clear hrt hav hl
 go_enter Tryz.func135,Tryz.ntmps135
 go_wp2_with fail
 refine(HRT.out _).mono ?_
 rintro e w1 ⟨rfl,hb⟩
 have hx:Below w.heap.size w w1:=bl_then k2 hb
 have hsz1:w.heap.size+2≤w1.heap.size:=szl hb
 obtain⟨p0,p1,p2,p3,p4,p5⟩:=b6 (w.heap.size) k l d b cc o hb
 obtain⟨s0,s1,s2,s3⟩:=b4 (w.heap.size+1) at_ level held a n c hb
 have sR:=res_bl (b:=w.heap.size+1) (res_new _ _ _ _ _ _ (by simp)) hb
 have hB:Below w.heap.size w w1:=hx
 have lb_p:=lbc p0
 have lb_s:=lbc s0
 clear hb hx
 go_wp2_with fail
 refine(HAV.out _ (log_bl HL.out (hB))).mono ?_
 rintro e w2 ⟨a1,n1,c1,rfl,-,-,hb⟩
 have hsz2:w1.heap.size+0≤w2.heap.size:=szl hb
 replace p0:=bl_cell hb p0
 replace p1:=bl_cell hb p1
 replace p2:=bl_cell hb p2
 replace p3:=bl_cell hb p3
 replace p4:=bl_cell hb p4
 replace p5:=bl_cell hb p5
 replace s0:=bl_cell hb s0
 replace s1:=bl_cell hb s1
 replace s2:=bl_cell hb s2
 replace s3:=bl_cell hb s3
 replace sR:=res_bl sR hb
 replace hB:Below w.heap.size w w2:=bl_then hB hb
 replace lb_p:=lbc p0
 replace lb_s:=lbc s0
 clear hb
 go_wp2_with fail
 go_ret
 exact⟨rfl,bl_alloc (hB) _⟩
theorem r7room_any (p:Pol) (s:St) (a:Option Addr) (n c:Nat) (now:Int) (w:World) (hl:LogAt w a n c s.log):Calls Tryz.prog 135 #[p.v,s.v a n c,.int .i64 now] w fun e w'=>e=.returned (.int .i64 (roomC p s now))∧Below w.heap.size w w':=by
 by_cases h:rightC p s
 ·exact r7room_yes p s a n c now w hl h
 ·exact r7room_no p s a n c now w hl h
theorem r7until_no (p:Pol) (s:St) (a:Option Addr) (n c:Nat) (now:Int) (w:World) (hl:LogAt w a n c s.log) (h:¬ rightC p s):Calls Tryz.prog 51 #[p.v,s.v a n c,.int .i64 now] w fun e w'=>e=.returned (.int .i64 (untilC p s now))∧Below w.heap.size w w':=by
 have hrt:=fun w=>r7right_any p s a n c hl.1 w
 unfold untilC
 rw[if_neg (fun z=>h z.1)]
 rw[decide_eq_false h] at hrt
 clear h hl
 obtain⟨k,l,d,b,cc,o⟩:=p
 obtain⟨at_,level,held,L⟩:=s
 unfold St.v Pol.v at *
 dsimp only at *
 have HRT:=Go.Lib.hid hrt
 clear hrt
 go_enter Tryz.func51,Tryz.ntmps51
 go_wp2_with fail
 refine(HRT.out _).mono ?_
 rintro e w1 ⟨rfl,hb⟩
 have hx:Below w.heap.size w w1:=bl_then k2 hb
 have hsz1:w.heap.size+2≤w1.heap.size:=szl hb
 obtain⟨p0,p1,p2,p3,p4,p5⟩:=b6 (w.heap.size) k l d b cc o hb
 obtain⟨s0,s1,s2,s3⟩:=b4 (w.heap.size+1) at_ level held a n c hb
 have sR:=res_bl (b:=w.heap.size+1) (res_new _ _ _ _ _ _ (by simp)) hb
 have hB:Below w.heap.size w w1:=hx
 have lb_p:=lbc p0
 have lb_s:=lbc s0
 clear hb hx
 go_wp2_with fail
 go_ret
 exact⟨rfl,hB⟩
theorem r7until_held (p:Pol) (s:St) (a:Option Addr) (n c:Nat) (now:Int) (w:World) (hl:LogAt w a n c s.log) (h:rightC p s) (hh:0<s.held):Calls Tryz.prog 51 #[p.v,s.v a n c,.int .i64 now] w fun e w'=>e=.returned (.int .i64 (untilC p s now))∧Below w.heap.size w w':=by
 have hrt:=fun w=>r7right_any p s a n c hl.1 w
 unfold untilC
 rw[if_neg (fun z=>by have:=z.2;omega)]
 rw[decide_eq_true h] at hrt
 clear h hl
 obtain⟨k,l,d,b,cc,o⟩:=p
 obtain⟨at_,level,held,L⟩:=s
 unfold St.v Pol.v at *
 dsimp only at *
 have HRT:=Go.Lib.hid hrt
 clear hrt
 go_enter Tryz.func51,Tryz.ntmps51
 go_wp2_with fail
 refine(HRT.out _).mono ?_
 rintro e w1 ⟨rfl,hb⟩
 have hx:Below w.heap.size w w1:=bl_then k2 hb
 have hsz1:w.heap.size+2≤w1.heap.size:=szl hb
 obtain⟨p0,p1,p2,p3,p4,p5⟩:=b6 (w.heap.size) k l d b cc o hb
 obtain⟨s0,s1,s2,s3⟩:=b4 (w.heap.size+1) at_ level held a n c hb
 have sR:=res_bl (b:=w.heap.size+1) (res_new _ _ _ _ _ _ (by simp)) hb
 have hB:Below w.heap.size w w1:=hx
 have lb_p:=lbc p0
 have lb_s:=lbc s0
 clear hb hx
 go_wp2_with fail
 go_ret
 exact⟨rfl,hB⟩
theorem r7until_yes (p:Pol) (s:St) (a:Option Addr) (n c:Nat) (now:Int) (w:World) (hl:LogAt w a n c s.log) (h:rightC p s) (hh:s.held≤0) (hz:(advC p s now).level=0):Calls Tryz.prog 51 #[p.v,s.v a n c,.int .i64 now] w fun e w'=>e=.returned (.int .i64 (untilC p s now))∧Below w.heap.size w w':=by
 have hrt:=fun w=>r7right_any p s a n c hl.1 w
 rw[decide_eq_true h] at hrt
 have hav:=fun w hw=>r7adv_any p s a n c now w hw
 unfold PostS at hav
 have hlv:=advC_level' (now:=now) h
 have hat:=advC_at (now:=now) h
 have hhx:=advC_held (now:=now) h
 have hd:=h.1.2.2.1
 have hD:=h.1.2.2.2.2.1
 have hlm:=h.1.2.2.2.1
 have hh0:=h.2.2.2.1
 unfold untilC
 rw[if_pos ⟨h,hh⟩,if_neg (by omega)]
 clear h
 generalize advC p s now=A at *
 obtain⟨aat,alv,ahd,alg⟩:=A
 obtain⟨k,l,d,b,cc,o⟩:=p
 obtain⟨at_,level,held,L⟩:=s
 unfold St.v Pol.v at *
 dsimp only at *
 obtain rfl:held=ahd:=hhx.symm
 subst hz
 have hh':¬ 0<held:=by omega
 clear hlv hat hd hD hlm hh0 hh
 have HRT:=Go.Lib.hid hrt
 have HAV:=Go.Lib.hid hav
 have HL:=Go.Lib.hid hl
 clear hrt hav hl
 go_enter Tryz.func51,Tryz.ntmps51
 go_wp2_with fail
 refine(HRT.out _).mono ?_
 rintro e w1 ⟨rfl,hb⟩
 have hx:Below w.heap.size w w1:=bl_then k2 hb
 have hsz1:w.heap.size+2≤w1.heap.size:=szl hb
 obtain⟨p0,p1,p2,p3,p4,p5⟩:=b6 (w.heap.size) k l d b cc o hb
 obtain⟨s0,s1,s2,s3⟩:=b4 (w.heap.size+1) at_ level held a n c hb
 have sR:=res_bl (b:=w.heap.size+1) (res_new _ _ _ _ _ _ (by simp)) hb
 have hB:Below w.heap.size w w1:=hx
 have lb_p:=lbc p0
 have lb_s:=lbc s0
 clear hb hx
 go_wp2_with fail
 refine(HAV.out _ (log_bl HL.out (hB))).mono ?_
 rintro e w2 ⟨a1,n1,c1,rfl,-,-,hb⟩
 have hsz2:w1.heap.size+0≤w2.heap.size:=szl hb
 replace p0:=bl_cell hb p0
 replace p1:=bl_cell hb p1
 replace p2:=bl_cell hb p2
 replace p3:=bl_cell hb p3
 replace p4:=bl_cell hb p4
 replace p5:=bl_cell hb p5
 replace s0:=bl_cell hb s0
 replace s1:=bl_cell hb s1
 replace s2:=bl_cell hb s2
 replace s3:=bl_cell hb s3
 replace sR:=res_bl sR hb
 replace hB:Below w.heap.size w w2:=bl_then hB hb
 replace lb_p:=lbc p0
 replace lb_s:=lbc s0
 clear hb
 go_wp2_with fail
 go_ret
 exact⟨rfl,bl_alloc (hB) _⟩
theorem r7until_more (p:Pol) (s:St) (a:Option Addr) (n c:Nat) (now:Int) (w:World) (hl:LogAt w a n c s.log) (h:rightC p s) (hh:s.held≤0) (hz:¬ (advC p s now).level=0):Calls Tryz.prog 51 #[p.v,s.v a n c,.int .i64 now] w fun e w'=>e=.returned (.int .i64 (untilC p s now))∧Below w.heap.size w w':=by
 have hrt:=fun w=>r7right_any p s a n c hl.1 w
 rw[decide_eq_true h] at hrt
 have hav:=fun w hw=>r7adv_any p s a n c now w hw
 unfold PostS at hav
 have hlv:=advC_level' (now:=now) h
 have hat:=advC_at (now:=now) h
 have hhx:=advC_held (now:=now) h
 have hd:=h.1.2.2.1
 have hD:=h.1.2.2.2.2.1
 have hlm:=h.1.2.2.2.1
 have hh0:=h.2.2.2.1
 unfold untilC
 rw[if_pos ⟨h,hh⟩,if_pos (by omega)]
 have hbg:=fun w=>rbegin_any p (advC p s now).at_ w hd hD hat.1 hat.2
 clear h
 generalize advC p s now=A at *
 obtain⟨aat,alv,ahd,alg⟩:=A
 obtain⟨k,l,d,b,cc,o⟩:=p
 obtain⟨at_,level,held,L⟩:=s
 unfold St.v Pol.v at *
 dsimp only at *
 obtain rfl:held=ahd:=hhx.symm
 have hh':¬ 0<held:=by omega
 have m1:=Int.emod_nonneg aat (show d≠0 by omega)
 have m2:=Int.emod_lt_of_pos aat (show 0<d by omega)
 generalize aat % d=M at *
 have wb1:IntKind.i64.wrap (aat - M+d)=aat - M+d:=IntWalk.i64_in _ (by omega)
 have wb2:IntKind.i64.wrap (aat - M+d - aat)=aat - M+d - aat:=IntWalk.i64_in _ (by omega)
 clear hlv hlm hh0 hh
 have HBG:=Go.Lib.hid hbg
 clear hbg
 have HRT:=Go.Lib.hid hrt
 have HAV:=Go.Lib.hid hav
 have HL:=Go.Lib.hid hl
 clear hrt hav hl
 go_enter Tryz.func51,Tryz.ntmps51
 go_wp2_with fail
 refine(HRT.out _).mono ?_
 rintro e w1 ⟨rfl,hb⟩
 have hx:Below w.heap.size w w1:=bl_then k2 hb
 have hsz1:w.heap.size+2≤w1.heap.size:=szl hb
 obtain⟨p0,p1,p2,p3,p4,p5⟩:=b6 (w.heap.size) k l d b cc o hb
 obtain⟨s0,s1,s2,s3⟩:=b4 (w.heap.size+1) at_ level held a n c hb
 have sR:=res_bl (b:=w.heap.size+1) (res_new _ _ _ _ _ _ (by simp)) hb
 have hB:Below w.heap.size w w1:=hx
 have lb_p:=lbc p0
 have lb_s:=lbc s0
 clear hb hx
 go_wp2_with fail
 refine(HAV.out _ (log_bl HL.out (hB))).mono ?_
 rintro e w2 ⟨a1,n1,c1,rfl,-,-,hb⟩
 have hsz2:w1.heap.size+0≤w2.heap.size:=szl hb
 replace p0:=bl_cell hb p0
 replace p1:=bl_cell hb p1
 replace p2:=bl_cell hb p2
 replace p3:=bl_cell hb p3
 replace p4:=bl_cell hb p4
 replace p5:=bl_cell hb p5
 replace s0:=bl_cell hb s0
 replace s1:=bl_cell hb s1
 replace s2:=bl_cell hb s2
 replace s3:=bl_cell hb s3
 replace sR:=res_bl sR hb
 replace hB:Below w.heap.size w w2:=bl_then hB hb
 replace lb_p:=lbc p0
 replace lb_s:=lbc s0
 clear hb
 go_wp2_with fail
 skip
 refine wp_abs (S0:=fun X=>(fun w'=>P6 w' (w.heap.size) k l d b cc o (S4 w' (w.heap.size+1) at_ level held a n c (ResB w' (w.heap.size+1)∧S4 w' (w2.heap.size) aat alv held a1 n1 c1 (Below w.heap.size w w')))) X∧w2.heap.size+1≤X.heap.size) ⟨⟨bl_cell k1 p0,bl_cell k1 p1,bl_cell k1 p2,bl_cell k1 p3,bl_cell k1 p4,bl_cell k1 p5,bl_cell k1 s0,bl_cell k1 s1,bl_cell k1 s2,bl_cell k1 s3,res_bl sR k1,by go_simp,by go_simp,by go_simp,by go_simp,bl_alloc (hB) _⟩,by simp⟩ ?_
 clear p0 p1 p2 p3 p4 p5 s0 s1 s2 s3 sR hB
 rintro w3 ⟨⟨p0,p1,p2,p3,p4,p5,s0,s1,s2,s3,sR,t0,t1,t2,t3,hB⟩,hsz3⟩
 replace lb_p:=lbc p0
 replace lb_s:=lbc s0
 have lb_t:=lbc t0
 refine wp_region_held_drew (S:=fun w'=>P6 w' (w.heap.size) k l d b cc o (S4 w' (w.heap.size+1) at_ level held a n c (ResB w' (w.heap.size+1)∧S4 w' (w2.heap.size) aat alv held a1 n1 c1 (Below w.heap.size w w')))) (by kernel_rfl) ?_ (fun hHeld=>?_)
 ·exact⟨p0,p1,p2,p3,p4,p5,s0,s1,s2,s3,sR,t0,t1,t2,t3,bl_drew hB⟩
 try simp only[Act.put,List.setIfInBounds_toArray,List.set_cons_zero,List.set_cons_succ]
 refine tkx 0 ?_
 refine tkx 1 ?_
 refine tkx 2 ?_
 refine tkx 4 ?_
 refine tkx 5 ?_
 refine tkx 7 ?_
 refine tkx 8 ?_
 (refine callH (i:=3) rfl hHeld (fun W hW K hK=>?_);clear hHeld;(try dsimp only at hW);obtain⟨h_p0,h_p1,h_p2,h_p3,h_p4,h_p5,h_s0,h_s1,h_s2,h_s3,h_sR,h_t0,h_t1,h_t2,h_t3,h_B⟩:=hW;go_simp;refine(HBG.out W).mono ?_;rintro e w9 ⟨rfl,hb⟩;go_wp2_with fail;refine hK.out _ _ ?_ (fun hHeld=>?_);(focus((try dsimp only);exact⟨bl_cell hb h_p0,bl_cell hb h_p1,bl_cell hb h_p2,bl_cell hb h_p3,bl_cell hb h_p4,bl_cell hb h_p5,bl_cell hb h_s0,bl_cell hb h_s1,bl_cell hb h_s2,bl_cell hb h_s3,res_bl h_sR hb,bl_cell hb h_t0,bl_cell hb h_t1,bl_cell hb h_t2,bl_cell hb h_t3,bl_then h_B hb⟩));clear hK K;clear h_p0 h_p1 h_p2 h_p3 h_p4 h_p5 h_s0 h_s1 h_s2 h_s3 h_sR h_t0 h_t1 h_t2 h_t3 h_B;try simp only[Act.put,List.setIfInBounds_toArray,List.set_cons_zero,List.set_cons_succ])
 refine tkx 6 ?_
 refine tkx 9 ?_
 refine tkx 10 ?_
 refine wpAnyH_done (by kernel_rfl) ?_ _
 refine then_abs (F:=fun w'=>P6 w' (w.heap.size) k l d b cc o (S4 w' (w.heap.size+1) at_ level held a n c (ResB w' (w.heap.size+1)∧S4 w' (w2.heap.size) aat alv held a1 n1 c1 (Below w.heap.size w w')))) hHeld ?_
 clear hHeld hB p0 p1 p2 p3 p4 p5 s0 s1 s2 s3 sR t0 t1 t2 t3
 rintro w4 ⟨p0,p1,p2,p3,p4,p5,s0,s1,s2,s3,sR,t0,t1,t2,t3,hB⟩
 replace lb_p:=lbc p0
 replace lb_s:=lbc s0
 replace lb_t:=lbc t0
 go_wp2_with fail
 go_ret
 exact⟨congrArg (fun x=>Ending.returned (.int .i64 x)) (by omega),hB⟩
theorem r7until_any (p:Pol) (s:St) (a:Option Addr) (n c:Nat) (now:Int) (w:World) (hl:LogAt w a n c s.log):Calls Tryz.prog 51 #[p.v,s.v a n c,.int .i64 now] w fun e w'=>e=.returned (.int .i64 (untilC p s now))∧Below w.heap.size w w':=by
 by_cases h:rightC p s
 ·by_cases hh:s.held≤0
  ·by_cases hz:(advC p s now).level=0
   ·exact r7until_yes p s a n c now w hl h hh hz
   ·exact r7until_more p s a n c now w hl h hh hz
  ·exact r7until_held p s a n c now w hl h (by omega)
 ·exact r7until_no p s a n c now w hl h
end Go.Proofs.YtmhikkbdhboodaaGreat
