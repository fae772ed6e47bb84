/-
  What tapsterref05.Do answers.
  What tapsterref04.Right answers.
  What tapsterref04.Advance answers.
  No condition.
-/
import Derived.Test.YtmhikkbdhboodaaGreatZc1
import Derived.Test.YtmhikkbdhboodaaGreatZc2
import Derived.Test.YtmhikkbdhboodaaGreatZc6
import Derived.Test.YtmhikkbdhboodaaGreatZc7
set_option maxHeartbeats 8000000
set_option maxRecDepth 100000
namespace Go.Proofs.YtmhikkbdhboodaaGreat
open Go.RowKit
set_option linter.unusedVariables false
set_option linter.unusedSimpArgs false

theorem sb_nil {w w':World} {a0:Option Addr} {n0:Nat} {t l h:Int} {ok:Bool} {a1:Option Addr} {c1:Nat} (hc:c1≤9223372036854775807) (hb:Below w.heap.size w w') :
  PostSB a0 n0 (⟨t,l,h,[]⟩,ok) w (.returned (.tuple #[.agg #[.int .i64 t,.int .i64 l,.int .i64 h,.slice a1 0 c1],.bool ok])) w':=⟨a1,0,c1,rfl,log_nil _ _ _ hc,.inl rfl,hb⟩
theorem advG_lg {p:Pol} {s:St} {now:Int} (h:rightG p s):(advG p s now).log=[]:=by unfold advG;rw[if_pos h]
theorem r5do_no (p:Pol) (s:St) (a:Option Addr) (n c:Nat) (ak now cost:Int) (w:World) (hl:LogAt w a n c s.log) (h:¬ rightG p s):Calls Tryz.prog 68 #[p.v,s.v a n c,.agg #[.int .i64 ak,.int .i64 now,.int .i64 cost]] w (PostSB a n (doG p s ⟨ak,now,cost⟩) w):=by
 have hrt:=fun w  => r5right_any p s a n c hl.1 w
 rw[decide_eq_false h] at hrt
 rw[show doG p s ⟨ak,now,cost⟩=(St.none,false) from if_neg h]
 refine Calls.mono (R:=fun e w'=>e=.returned (.tuple #[.agg #[.int .i64 0,.int .i64 0,.int .i64 0,.slice none 0 0],.bool false])∧Below w.heap.size w w') ?_ (fun e w' hh=>sb_none hh)
 clear h
 obtain⟨k,l,d,b,cc,o⟩:=p
 obtain⟨at_,level,held,L⟩:=s
 unfold St.v Pol.v at *
 dsimp only at *
 have HRT:=Go.Lib.hid hrt
 have HL:=Go.Lib.hid hl
 clear hrt hl
 go_enter Tryz.func68,Tryz.ntmps68
 go_wp2_with go_step3
 refine(HRT.out _).mono ?_
 rintro e w1 ⟨rfl,hb⟩
 have hx:Below w.heap.size w w1:=bl_then (bl_alloc (bl_alloc (bl_alloc (bl_alloc (bl_refl _) _) _) _) _) hb
 have hsz1:w.heap.size+4≤w1.heap.size:=szl hb
 obtain⟨p0,p1,p2,p3,p4,p5⟩:=b6 (w.heap.size) k l d b cc o hb
 obtain⟨s0,s1,s2,s3⟩:=b4 (w.heap.size+1) at_ level held a n c hb
 have sR:=res_bl (b:=w.heap.size+1) (res_bl (res_bl (res_new _ _ _ _ _ _ (by simp)) (bl_alloc (bl_refl _) _)) (bl_alloc (bl_refl _) _)) hb
 obtain⟨x0,x1,x2⟩:=b3 (w.heap.size+1+1) ak now cost hb
 have rR:=res_bl (b:=w.heap.size+1+1+1) (res_new _ _ _ _ _ _ (by simp)) hb
 have hB:Below w.heap.size w w1:=hx
 have lb_p:=lbc p0
 have lb_s:=lbc s0
 have lb_x:=lbc x0
 clear hb hx
 obtain⟨f0,f1,f2,f3,u0,u1,u2,u3,i0,i1,i2,i3⟩:=res_all rR
 go_wp2_with go_step3
 (try simp only[Exit.inBlock,Exit.then,Exit.noGoto_ret])
 refine bodyPost_ret (results_state2 rfl _ _ (by rfl) (set4r (rR))) rfl ⟨rfl,bl4 (hB) (by omega)⟩
theorem r5do_less (p:Pol) (s:St) (a:Option Addr) (n c:Nat) (ak now cost:Int) (w:World) (hl:LogAt w a n c s.log) (h:rightG p s) (h1:cost<1):Calls Tryz.prog 68 #[p.v,s.v a n c,.agg #[.int .i64 ak,.int .i64 now,.int .i64 cost]] w (PostSB a n (doG p s ⟨ak,now,cost⟩) w):=by
 have hrt:=fun w=>r5right_any p s a n c hl.1 w
 rw[decide_eq_true h] at hrt
 have hav:=fun w hw=>r5adv_any p s a n c now w hw
 unfold PostS at hav
 have hro:=fun w hw=>r5room_any p s a n c now w hw
 rw[(doG_ref (k:=ak) h (advG_held p s now h) ⟨by have hz:=advG_level p s now h;omega,(advG_level p s now h).2.2.2⟩).1 (.inl h1)]
 have hlv:=advG_level p s now h
 have hhd:=advG_held p s now h
 have hlg:=advG_lg (now:=now) h
 have hd:=h.1.2.2.2.2.2.2.1
 have hD:=h.1.2.2.2.2.2.2.2
 have hbm:=h.1.2.2.2.2.2.1
 have hh0:=h.2.2.2.1
 have hh1:=h.2.2.2.2.1
 have hro1:roomG p s now≤p.burst:=by have hz:=(roomG_le (now:=now) (c:=roomG p s now) h).1 (Int.le_refl _);have hy:roomG p s now*p.period≤p.burst*p.period:=(by omega);exact Int.le_of_mul_le_mul_right hy (by omega)
 generalize roomG p s now=RO at *
 generalize advG p s now=A at *
 clear h
 obtain⟨aat,alv,ahd,alg⟩:=A
 obtain⟨k,l,d,b,cc,o⟩:=p
 obtain⟨at_,level,held,L⟩:=s
 unfold St.v Pol.v at *
 dsimp only at *
 subst hlg
 obtain rfl:held=ahd:=hhd.symm
 have hd1:decide (cost<1)=true:=decide_eq_true (h1)
 have HRT:=Go.Lib.hid hrt
 have HAV:=Go.Lib.hid hav
 have HRO:=Go.Lib.hid hro
 have HL:=Go.Lib.hid hl
 clear hrt hav hro hl
 clear hlv hd hD hbm hh0 hh1 hro1
 go_enter Tryz.func68,Tryz.ntmps68
 go_wp2_with go_step3
 refine(HRT.out _).mono ?_
 rintro e w1 ⟨rfl,hb⟩
 have hx:Below w.heap.size w w1:=bl_then (bl_alloc (bl_alloc (bl_alloc (bl_alloc (bl_refl _) _) _) _) _) hb
 have hsz1:w.heap.size+4≤w1.heap.size:=szl hb
 obtain⟨p0,p1,p2,p3,p4,p5⟩:=b6 (w.heap.size) k l d b cc o hb
 obtain⟨s0,s1,s2,s3⟩:=b4 (w.heap.size+1) at_ level held a n c hb
 have sR:=res_bl (b:=w.heap.size+1) (res_bl (res_bl (res_new _ _ _ _ _ _ (by simp)) (bl_alloc (bl_refl _) _)) (bl_alloc (bl_refl _) _)) hb
 obtain⟨x0,x1,x2⟩:=b3 (w.heap.size+1+1) ak now cost hb
 have rR:=res_bl (b:=w.heap.size+1+1+1) (res_new _ _ _ _ _ _ (by simp)) hb
 have hB:Below w.heap.size w w1:=hx
 have lb_p:=lbc p0
 have lb_s:=lbc s0
 have lb_x:=lbc x0
 clear hb hx
 go_wp2_with go_step3
 refine(HAV.out _ (log_bl HL.out (hB))).mono ?_
 rintro e w2 ⟨a1,n1,c1,rfl,hl1,-,hb⟩
 have hsz2:w1.heap.size+0≤w2.heap.size:=szl hb
 replace p0:=bl_cell hb p0
 replace p1:=bl_cell hb p1
 replace p2:=bl_cell hb p2
 replace p3:=bl_cell hb p3
 replace p4:=bl_cell hb p4
 replace p5:=bl_cell hb p5
 replace s0:=bl_cell hb s0
 replace s1:=bl_cell hb s1
 replace s2:=bl_cell hb s2
 replace s3:=bl_cell hb s3
 replace sR:=res_bl sR hb
 replace x0:=bl_cell hb x0
 replace x1:=bl_cell hb x1
 replace x2:=bl_cell hb x2
 replace rR:=res_bl rR hb
 replace hB:Below w.heap.size w w2:=bl_then hB hb
 replace lb_p:=lbc p0
 replace lb_s:=lbc s0
 replace lb_x:=lbc x0
 clear hb
 have hn1:n1=0:=hl1.1.symm
 subst hn1
 have hc1:=hl1.2.2.1
 clear hl1
 have rR2:=res_bl rR (bl_alloc (bl_refl w2) (.cells #[.int .i64 aat,.int .i64 alv,.int .i64 held,.slice a1 0 c1] 26))
 obtain⟨f0,f1,f2,f3,u0,u1,u2,u3,i0,i1,i2,i3⟩:=res_all rR2
 go_wp2_with go_step3
 (try simp only[Exit.inBlock,Exit.then,Exit.noGoto_ret])
 refine bodyPost_ret (results_state2 rfl _ _ (by rfl) (set4r rR2)) rfl (sb_same HL.out ⟨rfl,bl4 (bl_alloc hB _) (by omega)⟩)
theorem r5do_none (p:Pol) (s:St) (a:Option Addr) (n c:Nat) (ak now cost:Int) (w:World) (hl:LogAt w a n c s.log) (h:rightG p s) (h1:¬ cost<1) (h2:ak<1∨4<ak):Calls Tryz.prog 68 #[p.v,s.v a n c,.agg #[.int .i64 ak,.int .i64 now,.int .i64 cost]] w (PostSB a n (doG p s ⟨ak,now,cost⟩) w):=by
 have hrt:=fun w=>r5right_any p s a n c hl.1 w
 rw[decide_eq_true h] at hrt
 have hav:=fun w hw=>r5adv_any p s a n c now w hw
 unfold PostS at hav
 have hro:=fun w hw=>r5room_any p s a n c now w hw
 rw[(doG_ref (k:=ak) h (advG_held p s now h) ⟨by have hz:=advG_level p s now h;omega,(advG_level p s now h).2.2.2⟩).1 (.inr h2)]
 have hlv:=advG_level p s now h
 have hhd:=advG_held p s now h
 have hlg:=advG_lg (now:=now) h
 have hd:=h.1.2.2.2.2.2.2.1
 have hD:=h.1.2.2.2.2.2.2.2
 have hbm:=h.1.2.2.2.2.2.1
 have hh0:=h.2.2.2.1
 have hh1:=h.2.2.2.2.1
 have hro1:roomG p s now≤p.burst:=by have hz:=(roomG_le (now:=now) (c:=roomG p s now) h).1 (Int.le_refl _);have hy:roomG p s now*p.period≤p.burst*p.period:=(by omega);exact Int.le_of_mul_le_mul_right hy (by omega)
 generalize roomG p s now=RO at *
 generalize advG p s now=A at *
 clear h
 obtain⟨aat,alv,ahd,alg⟩:=A
 obtain⟨k,l,d,b,cc,o⟩:=p
 obtain⟨at_,level,held,L⟩:=s
 unfold St.v Pol.v at *
 dsimp only at *
 subst hlg
 obtain rfl:held=ahd:=hhd.symm
 have k1:¬ ak=1:=by omega
 have k2:¬ ak=2:=by omega
 have k3:¬ ak=3:=by omega
 have k4:¬ ak=4:=by omega
 have e1:(ak == 1)=false:=by simpa using k1
 have e2:(ak == 2)=false:=by simpa using k2
 have e3:(ak == 3)=false:=by simpa using k3
 have e4:(ak == 4)=false:=by simpa using k4
 clear h2
 have HRT:=Go.Lib.hid hrt
 have HAV:=Go.Lib.hid hav
 have HRO:=Go.Lib.hid hro
 have HL:=Go.Lib.hid hl
 clear hrt hav hro hl
 clear hlv hd hD hbm hh0 hh1 hro1
 go_enter Tryz.func68,Tryz.ntmps68
 go_wp2_with go_step3
 refine(HRT.out _).mono ?_
 rintro e w1 ⟨rfl,hb⟩
 have hx:Below w.heap.size w w1:=bl_then (bl_alloc (bl_alloc (bl_alloc (bl_alloc (bl_refl _) _) _) _) _) hb
 have hsz1:w.heap.size+4≤w1.heap.size:=szl hb
 obtain⟨p0,p1,p2,p3,p4,p5⟩:=b6 (w.heap.size) k l d b cc o hb
 obtain⟨s0,s1,s2,s3⟩:=b4 (w.heap.size+1) at_ level held a n c hb
 have sR:=res_bl (b:=w.heap.size+1) (res_bl (res_bl (res_new _ _ _ _ _ _ (by simp)) (bl_alloc (bl_refl _) _)) (bl_alloc (bl_refl _) _)) hb
 obtain⟨x0,x1,x2⟩:=b3 (w.heap.size+1+1) ak now cost hb
 have rR:=res_bl (b:=w.heap.size+1+1+1) (res_new _ _ _ _ _ _ (by simp)) hb
 have hB:Below w.heap.size w w1:=hx
 have lb_p:=lbc p0
 have lb_s:=lbc s0
 have lb_x:=lbc x0
 clear hb hx
 go_wp2_with go_step3
 refine(HAV.out _ (log_bl HL.out (hB))).mono ?_
 rintro e w2 ⟨a1,n1,c1,rfl,hl1,-,hb⟩
 have hsz2:w1.heap.size+0≤w2.heap.size:=szl hb
 replace p0:=bl_cell hb p0
 replace p1:=bl_cell hb p1
 replace p2:=bl_cell hb p2
 replace p3:=bl_cell hb p3
 replace p4:=bl_cell hb p4
 replace p5:=bl_cell hb p5
 replace s0:=bl_cell hb s0
 replace s1:=bl_cell hb s1
 replace s2:=bl_cell hb s2
 replace s3:=bl_cell hb s3
 replace sR:=res_bl sR hb
 replace x0:=bl_cell hb x0
 replace x1:=bl_cell hb x1
 replace x2:=bl_cell hb x2
 replace rR:=res_bl rR hb
 replace hB:Below w.heap.size w w2:=bl_then hB hb
 replace lb_p:=lbc p0
 replace lb_s:=lbc s0
 replace lb_x:=lbc x0
 clear hb
 have hn1:n1=0:=hl1.1.symm
 subst hn1
 have hc1:=hl1.2.2.1
 clear hl1
 go_wp2_with go_step3
 skip
 refine wp_abs (S0:=fun X=>(fun w'=>P6 w' (w.heap.size) k l d b cc o (S4 w' (w.heap.size+1) at_ level held a n c (ResB w' (w.heap.size+1)∧X3 w' (w.heap.size+1+1) ak now cost (ResB w' (w.heap.size+1+1+1)∧S4 w' (w2.heap.size) aat alv held a1 0 c1 (ResB w' (w2.heap.size)∧Below w.heap.size w w'))))) X∧w2.heap.size+1≤X.heap.size) ⟨⟨bl_cell (bl_alloc (bl_refl _) _) p0,bl_cell (bl_alloc (bl_refl _) _) p1,bl_cell (bl_alloc (bl_refl _) _) p2,bl_cell (bl_alloc (bl_refl _) _) p3,bl_cell (bl_alloc (bl_refl _) _) p4,bl_cell (bl_alloc (bl_refl _) _) p5,bl_cell (bl_alloc (bl_refl _) _) s0,bl_cell (bl_alloc (bl_refl _) _) s1,bl_cell (bl_alloc (bl_refl _) _) s2,bl_cell (bl_alloc (bl_refl _) _) s3,res_bl sR (bl_alloc (bl_refl _) _),bl_cell (bl_alloc (bl_refl _) _) x0,bl_cell (bl_alloc (bl_refl _) _) x1,bl_cell (bl_alloc (bl_refl _) _) x2,res_bl rR (bl_alloc (bl_refl _) _),by go_simp,by go_simp,by go_simp,by go_simp,res_new _ _ _ _ _ _ (by simp),bl_alloc (hB) _⟩,by simp⟩ ?_
 clear p0 p1 p2 p3 p4 p5 s0 s1 s2 s3 sR x0 x1 x2 rR hB
 rintro w3 ⟨⟨p0,p1,p2,p3,p4,p5,s0,s1,s2,s3,sR,x0,x1,x2,rR,t0,t1,t2,t3,tR,hB⟩,hsz3⟩
 replace lb_p:=lbc p0
 replace lb_s:=lbc s0
 replace lb_x:=lbc x0
 have lb_t:=lbc t0
 refine wp_region_held_drew (S:=fun w'=>P6 w' (w.heap.size) k l d b cc o (S4 w' (w.heap.size+1) at_ level held a n c (ResB w' (w.heap.size+1)∧X3 w' (w.heap.size+1+1) ak now cost (ResB w' (w.heap.size+1+1+1)∧S4 w' (w2.heap.size) aat alv held a1 0 c1 (ResB w' (w2.heap.size)∧Below w.heap.size w w'))))) (by kernel_rfl) ?_ (fun hHeld=>?_)
 ·exact⟨p0,p1,p2,p3,p4,p5,s0,s1,s2,s3,sR,x0,x1,x2,rR,t0,t1,t2,t3,tR,bl_drew hB⟩
 try simp only[Act.put,List.setIfInBounds_toArray,List.set_cons_zero,List.set_cons_succ]
 refine tkx 0 ?_
 refine tkx 1 ?_
 refine tkx 2 ?_
 refine tkx 3 ?_
 first|refine tqx 4 ?_|refine tkx 4 ?_
 first|refine tqx 5 ?_|refine tkx 5 ?_
 first|refine tqx 6 ?_|refine tkx 6 ?_
 first|refine tqx 7 ?_|refine tkx 7 ?_
 first|refine tqx 8 ?_|refine tkx 8 ?_
 first|refine tqx 9 ?_|refine tkx 9 ?_
 first|(refine tqx 10 ?_)|(refine callH (i:=10) rfl hHeld (fun W hW K hK=>?_);clear hHeld;(try dsimp only at hW);obtain⟨h_p0,h_p1,h_p2,h_p3,h_p4,h_p5,h_s0,h_s1,h_s2,h_s3,h_sR,h_x0,h_x1,h_x2,h_rR,h_t0,h_t1,h_t2,h_t3,h_tR,h_B⟩:=hW;go_simp;refine(HRO.out W (log_bl HL.out h_B)).mono ?_;rintro e w9 ⟨rfl,hb⟩;go_wp2_with fail;refine hK.out _ _ ?_ (fun hHeld=>?_);(focus((try dsimp only);exact⟨bl_cell hb h_p0,bl_cell hb h_p1,bl_cell hb h_p2,bl_cell hb h_p3,bl_cell hb h_p4,bl_cell hb h_p5,bl_cell hb h_s0,bl_cell hb h_s1,bl_cell hb h_s2,bl_cell hb h_s3,res_bl h_sR hb,bl_cell hb h_x0,bl_cell hb h_x1,bl_cell hb h_x2,res_bl h_rR hb,bl_cell hb h_t0,bl_cell hb h_t1,bl_cell hb h_t2,bl_cell hb h_t3,res_bl h_tR hb,bl_then h_B hb⟩));clear hK K;clear h_p0 h_p1 h_p2 h_p3 h_p4 h_p5 h_s0 h_s1 h_s2 h_s3 h_sR h_x0 h_x1 h_x2 h_rR h_t0 h_t1 h_t2 h_t3 h_tR h_B;try simp only[Act.put,List.setIfInBounds_toArray,List.set_cons_zero,List.set_cons_succ])
 first|refine tqx 11 ?_|refine tkx 11 ?_
 refine tkx 12 ?_
 refine wpAnyH_done (by kernel_rfl) ?_ _
 refine then_abs (F:=fun w'=>P6 w' (w.heap.size) k l d b cc o (S4 w' (w.heap.size+1) at_ level held a n c (ResB w' (w.heap.size+1)∧X3 w' (w.heap.size+1+1) ak now cost (ResB w' (w.heap.size+1+1+1)∧S4 w' (w2.heap.size) aat alv held a1 0 c1 (ResB w' (w2.heap.size)∧Below w.heap.size w w'))))) hHeld ?_
 clear hHeld hB p0 p1 p2 p3 p4 p5 s0 s1 s2 s3 sR x0 x1 x2 rR t0 t1 t2 t3 tR
 rintro w4 ⟨p0,p1,p2,p3,p4,p5,s0,s1,s2,s3,sR,x0,x1,x2,rR,t0,t1,t2,t3,tR,hB⟩
 replace lb_p:=lbc p0
 replace lb_s:=lbc s0
 replace lb_x:=lbc x0
 replace lb_t:=lbc t0
 go_wp2_with go_step3
 refine wp_region_held_drew (S:=fun w'=>P6 w' (w.heap.size) k l d b cc o (S4 w' (w.heap.size+1) at_ level held a n c (ResB w' (w.heap.size+1)∧X3 w' (w.heap.size+1+1) ak now cost (ResB w' (w.heap.size+1+1+1)∧S4 w' (w2.heap.size) aat alv held a1 0 c1 (ResB w' (w2.heap.size)∧Below w.heap.size w w'))))) (by kernel_rfl) ?_ (fun hHeld=>?_)
 ·exact⟨p0,p1,p2,p3,p4,p5,s0,s1,s2,s3,sR,x0,x1,x2,rR,t0,t1,t2,t3,tR,bl_drew hB⟩
 try simp only[Act.put,List.setIfInBounds_toArray,List.set_cons_zero,List.set_cons_succ]
 refine tkx 0 ?_
 refine tkx 1 ?_
 refine tkx 2 ?_
 refine tkx 3 ?_
 first|refine tqx 4 ?_|refine tkx 4 ?_
 first|refine tqx 5 ?_|refine tkx 5 ?_
 first|refine tqx 6 ?_|refine tkx 6 ?_
 first|refine tqx 7 ?_|refine tkx 7 ?_
 first|refine tqx 8 ?_|refine tkx 8 ?_
 first|refine tqx 9 ?_|refine tkx 9 ?_
 first|(refine tqx 10 ?_)|(refine callH (i:=10) rfl hHeld (fun W hW K hK=>?_);clear hHeld;(try dsimp only at hW);obtain⟨h_p0,h_p1,h_p2,h_p3,h_p4,h_p5,h_s0,h_s1,h_s2,h_s3,h_sR,h_x0,h_x1,h_x2,h_rR,h_t0,h_t1,h_t2,h_t3,h_tR,h_B⟩:=hW;go_simp;refine(HRO.out W (log_bl HL.out h_B)).mono ?_;rintro e w9 ⟨rfl,hb⟩;go_wp2_with fail;refine hK.out _ _ ?_ (fun hHeld=>?_);(focus((try dsimp only);exact⟨bl_cell hb h_p0,bl_cell hb h_p1,bl_cell hb h_p2,bl_cell hb h_p3,bl_cell hb h_p4,bl_cell hb h_p5,bl_cell hb h_s0,bl_cell hb h_s1,bl_cell hb h_s2,bl_cell hb h_s3,res_bl h_sR hb,bl_cell hb h_x0,bl_cell hb h_x1,bl_cell hb h_x2,res_bl h_rR hb,bl_cell hb h_t0,bl_cell hb h_t1,bl_cell hb h_t2,bl_cell hb h_t3,res_bl h_tR hb,bl_then h_B hb⟩));clear hK K;clear h_p0 h_p1 h_p2 h_p3 h_p4 h_p5 h_s0 h_s1 h_s2 h_s3 h_sR h_x0 h_x1 h_x2 h_rR h_t0 h_t1 h_t2 h_t3 h_tR h_B;try simp only[Act.put,List.setIfInBounds_toArray,List.set_cons_zero,List.set_cons_succ])
 first|refine tqx 11 ?_|refine tkx 11 ?_
 refine tkx 12 ?_
 refine wpAnyH_done (by kernel_rfl) ?_ _
 refine then_abs (F:=fun w'=>P6 w' (w.heap.size) k l d b cc o (S4 w' (w.heap.size+1) at_ level held a n c (ResB w' (w.heap.size+1)∧X3 w' (w.heap.size+1+1) ak now cost (ResB w' (w.heap.size+1+1+1)∧S4 w' (w2.heap.size) aat alv held a1 0 c1 (ResB w' (w2.heap.size)∧Below w.heap.size w w'))))) hHeld ?_
 clear hHeld hB p0 p1 p2 p3 p4 p5 s0 s1 s2 s3 sR x0 x1 x2 rR t0 t1 t2 t3 tR
 rintro w5 ⟨p0,p1,p2,p3,p4,p5,s0,s1,s2,s3,sR,x0,x1,x2,rR,t0,t1,t2,t3,tR,hB⟩
 replace lb_p:=lbc p0
 replace lb_s:=lbc s0
 replace lb_x:=lbc x0
 replace lb_t:=lbc t0
 obtain⟨f0,f1,f2,f3,u0,u1,u2,u3,i0,i1,i2,i3⟩:=res_all rR
 go_wp2_with go_step3
 (try simp only[Exit.inBlock,Exit.then,Exit.noGoto_ret])
 refine bodyPost_ret (results_state2 rfl _ _ (by rfl) (set4r (rR))) rfl (sb_same HL.out ⟨rfl,bl4 (hB) (by omega)⟩)
theorem r5do_full1 (p:Pol) (s:St) (a:Option Addr) (n c:Nat) (now cost:Int) (w:World) (hl:LogAt w a n c s.log) (h:rightG p s) (h1:¬ cost<1) (h4:roomG p s now<cost):Calls Tryz.prog 68 #[p.v,s.v a n c,.agg #[.int .i64 1,.int .i64 now,.int .i64 cost]] w (PostSB a n (doG p s ⟨1,now,cost⟩) w):=by
 have hrt:=fun w=>r5right_any p s a n c hl.1 w
 rw[decide_eq_true h] at hrt
 have hav:=fun w hw=>r5adv_any p s a n c now w hw
 unfold PostS at hav
 have hro:=fun w hw=>r5room_any p s a n c now w hw
 rw[(doG_ref (k:=1) h (advG_held p s now h) ⟨by have hz:=advG_level p s now h;omega,(advG_level p s now h).2.2.2⟩).2.1 (by omega) (by omega) h4]
 have hlv:=advG_level p s now h
 have hhd:=advG_held p s now h
 have hlg:=advG_lg (now:=now) h
 have hd:=h.1.2.2.2.2.2.2.1
 have hD:=h.1.2.2.2.2.2.2.2
 have hbm:=h.1.2.2.2.2.2.1
 have hh0:=h.2.2.2.1
 have hh1:=h.2.2.2.2.1
 have hro1:roomG p s now≤p.burst:=by have hz:=(roomG_le (now:=now) (c:=roomG p s now) h).1 (Int.le_refl _);have hy:roomG p s now*p.period≤p.burst*p.period:=(by omega);exact Int.le_of_mul_le_mul_right hy (by omega)
 generalize roomG p s now=RO at *
 generalize advG p s now=A at *
 clear h
 obtain⟨aat,alv,ahd,alg⟩:=A
 obtain⟨k,l,d,b,cc,o⟩:=p
 obtain⟨at_,level,held,L⟩:=s
 unfold St.v Pol.v at *
 dsimp only at *
 subst hlg
 obtain rfl:held=ahd:=hhd.symm
 have hd1:decide (cost<1)=false:=decide_eq_false (h1)
 have hdr:decide (RO<cost)=true:=decide_eq_true (h4)
 have hdq:decide (cost≤RO)=false:=decide_eq_false (by omega)
 have HRT:=Go.Lib.hid hrt
 have HAV:=Go.Lib.hid hav
 have HRO:=Go.Lib.hid hro
 have HL:=Go.Lib.hid hl
 clear hrt hav hro hl
 clear hlv hd hD hbm hh0 hh1 hro1
 go_enter Tryz.func68,Tryz.ntmps68
 go_wp2_with go_step3
 refine(HRT.out _).mono ?_
 rintro e w1 ⟨rfl,hb⟩
 have hx:Below w.heap.size w w1:=bl_then (bl_alloc (bl_alloc (bl_alloc (bl_alloc (bl_refl _) _) _) _) _) hb
 have hsz1:w.heap.size+4≤w1.heap.size:=szl hb
 obtain⟨p0,p1,p2,p3,p4,p5⟩:=b6 (w.heap.size) k l d b cc o hb
 obtain⟨s0,s1,s2,s3⟩:=b4 (w.heap.size+1) at_ level held a n c hb
 have sR:=res_bl (b:=w.heap.size+1) (res_bl (res_bl (res_new _ _ _ _ _ _ (by simp)) (bl_alloc (bl_refl _) _)) (bl_alloc (bl_refl _) _)) hb
 obtain⟨x0,x1,x2⟩:=b3 (w.heap.size+1+1) 1 now cost hb
 have rR:=res_bl (b:=w.heap.size+1+1+1) (res_new _ _ _ _ _ _ (by simp)) hb
 have hB:Below w.heap.size w w1:=hx
 have lb_p:=lbc p0
 have lb_s:=lbc s0
 have lb_x:=lbc x0
 clear hb hx
 go_wp2_with go_step3
 refine(HAV.out _ (log_bl HL.out (hB))).mono ?_
 rintro e w2 ⟨a1,n1,c1,rfl,hl1,-,hb⟩
 have hsz2:w1.heap.size+0≤w2.heap.size:=szl hb
 replace p0:=bl_cell hb p0
 replace p1:=bl_cell hb p1
 replace p2:=bl_cell hb p2
 replace p3:=bl_cell hb p3
 replace p4:=bl_cell hb p4
 replace p5:=bl_cell hb p5
 replace s0:=bl_cell hb s0
 replace s1:=bl_cell hb s1
 replace s2:=bl_cell hb s2
 replace s3:=bl_cell hb s3
 replace sR:=res_bl sR hb
 replace x0:=bl_cell hb x0
 replace x1:=bl_cell hb x1
 replace x2:=bl_cell hb x2
 replace rR:=res_bl rR hb
 replace hB:Below w.heap.size w w2:=bl_then hB hb
 replace lb_p:=lbc p0
 replace lb_s:=lbc s0
 replace lb_x:=lbc x0
 clear hb
 have hn1:n1=0:=hl1.1.symm
 subst hn1
 have hc1:=hl1.2.2.1
 clear hl1
 go_wp2_with go_step3
 skip
 refine wp_abs (S0:=fun X=>(fun w'=>P6 w' (w.heap.size) k l d b cc o (S4 w' (w.heap.size+1) at_ level held a n c (ResB w' (w.heap.size+1)∧X3 w' (w.heap.size+1+1) 1 now cost (ResB w' (w.heap.size+1+1+1)∧S4 w' (w2.heap.size) aat alv held a1 0 c1 (ResB w' (w2.heap.size)∧Below w.heap.size w w'))))) X∧w2.heap.size+1≤X.heap.size) ⟨⟨bl_cell (bl_alloc (bl_refl _) _) p0,bl_cell (bl_alloc (bl_refl _) _) p1,bl_cell (bl_alloc (bl_refl _) _) p2,bl_cell (bl_alloc (bl_refl _) _) p3,bl_cell (bl_alloc (bl_refl _) _) p4,bl_cell (bl_alloc (bl_refl _) _) p5,bl_cell (bl_alloc (bl_refl _) _) s0,bl_cell (bl_alloc (bl_refl _) _) s1,bl_cell (bl_alloc (bl_refl _) _) s2,bl_cell (bl_alloc (bl_refl _) _) s3,res_bl sR (bl_alloc (bl_refl _) _),bl_cell (bl_alloc (bl_refl _) _) x0,bl_cell (bl_alloc (bl_refl _) _) x1,bl_cell (bl_alloc (bl_refl _) _) x2,res_bl rR (bl_alloc (bl_refl _) _),by go_simp,by go_simp,by go_simp,by go_simp,res_new _ _ _ _ _ _ (by simp),bl_alloc (hB) _⟩,by simp⟩ ?_
 clear p0 p1 p2 p3 p4 p5 s0 s1 s2 s3 sR x0 x1 x2 rR hB
 rintro w3 ⟨⟨p0,p1,p2,p3,p4,p5,s0,s1,s2,s3,sR,x0,x1,x2,rR,t0,t1,t2,t3,tR,hB⟩,hsz3⟩
 replace lb_p:=lbc p0
 replace lb_s:=lbc s0
 replace lb_x:=lbc x0
 have lb_t:=lbc t0
 refine wp_region_held_drew (S:=fun w'=>P6 w' (w.heap.size) k l d b cc o (S4 w' (w.heap.size+1) at_ level held a n c (ResB w' (w.heap.size+1)∧X3 w' (w.heap.size+1+1) 1 now cost (ResB w' (w.heap.size+1+1+1)∧S4 w' (w2.heap.size) aat alv held a1 0 c1 (ResB w' (w2.heap.size)∧Below w.heap.size w w'))))) (by kernel_rfl) ?_ (fun hHeld=>?_)
 ·exact⟨p0,p1,p2,p3,p4,p5,s0,s1,s2,s3,sR,x0,x1,x2,rR,t0,t1,t2,t3,tR,bl_drew hB⟩
 try simp only[Act.put,List.setIfInBounds_toArray,List.set_cons_zero,List.set_cons_succ]
 refine tkx 0 ?_
 refine tkx 1 ?_
 refine tkx 2 ?_
 refine tkx 3 ?_
 first|refine tqx 4 ?_|refine tkx 4 ?_
 first|refine tqx 5 ?_|refine tkx 5 ?_
 first|refine tqx 6 ?_|refine tkx 6 ?_
 first|refine tqx 7 ?_|refine tkx 7 ?_
 first|refine tqx 8 ?_|refine tkx 8 ?_
 first|refine tqx 9 ?_|refine tkx 9 ?_
 first|(refine tqx 10 ?_)|(refine callH (i:=10) rfl hHeld (fun W hW K hK=>?_);clear hHeld;(try dsimp only at hW);obtain⟨h_p0,h_p1,h_p2,h_p3,h_p4,h_p5,h_s0,h_s1,h_s2,h_s3,h_sR,h_x0,h_x1,h_x2,h_rR,h_t0,h_t1,h_t2,h_t3,h_tR,h_B⟩:=hW;go_simp;refine(HRO.out W (log_bl HL.out h_B)).mono ?_;rintro e w9 ⟨rfl,hb⟩;go_wp2_with fail;refine hK.out _ _ ?_ (fun hHeld=>?_);(focus((try dsimp only);exact⟨bl_cell hb h_p0,bl_cell hb h_p1,bl_cell hb h_p2,bl_cell hb h_p3,bl_cell hb h_p4,bl_cell hb h_p5,bl_cell hb h_s0,bl_cell hb h_s1,bl_cell hb h_s2,bl_cell hb h_s3,res_bl h_sR hb,bl_cell hb h_x0,bl_cell hb h_x1,bl_cell hb h_x2,res_bl h_rR hb,bl_cell hb h_t0,bl_cell hb h_t1,bl_cell hb h_t2,bl_cell hb h_t3,res_bl h_tR hb,bl_then h_B hb⟩));clear hK K;clear h_p0 h_p1 h_p2 h_p3 h_p4 h_p5 h_s0 h_s1 h_s2 h_s3 h_sR h_x0 h_x1 h_x2 h_rR h_t0 h_t1 h_t2 h_t3 h_tR h_B;try simp only[Act.put,List.setIfInBounds_toArray,List.set_cons_zero,List.set_cons_succ])
 first|refine tqx 11 ?_|refine tkx 11 ?_
 refine tkx 12 ?_
 refine wpAnyH_done (by kernel_rfl) ?_ _
 refine then_abs (F:=fun w'=>P6 w' (w.heap.size) k l d b cc o (S4 w' (w.heap.size+1) at_ level held a n c (ResB w' (w.heap.size+1)∧X3 w' (w.heap.size+1+1) 1 now cost (ResB w' (w.heap.size+1+1+1)∧S4 w' (w2.heap.size) aat alv held a1 0 c1 (ResB w' (w2.heap.size)∧Below w.heap.size w w'))))) hHeld ?_
 clear hHeld hB p0 p1 p2 p3 p4 p5 s0 s1 s2 s3 sR x0 x1 x2 rR t0 t1 t2 t3 tR
 rintro w4 ⟨p0,p1,p2,p3,p4,p5,s0,s1,s2,s3,sR,x0,x1,x2,rR,t0,t1,t2,t3,tR,hB⟩
 replace lb_p:=lbc p0
 replace lb_s:=lbc s0
 replace lb_x:=lbc x0
 replace lb_t:=lbc t0
 go_wp2_with go_step3
 refine wp_region_held_drew (S:=fun w'=>P6 w' (w.heap.size) k l d b cc o (S4 w' (w.heap.size+1) at_ level held a n c (ResB w' (w.heap.size+1)∧X3 w' (w.heap.size+1+1) 1 now cost (ResB w' (w.heap.size+1+1+1)∧S4 w' (w2.heap.size) aat alv held a1 0 c1 (ResB w' (w2.heap.size)∧Below w.heap.size w w'))))) (by kernel_rfl) ?_ (fun hHeld=>?_)
 ·exact⟨p0,p1,p2,p3,p4,p5,s0,s1,s2,s3,sR,x0,x1,x2,rR,t0,t1,t2,t3,tR,bl_drew hB⟩
 try simp only[Act.put,List.setIfInBounds_toArray,List.set_cons_zero,List.set_cons_succ]
 refine tkx 0 ?_
 refine tkx 1 ?_
 refine tkx 2 ?_
 refine tkx 3 ?_
 first|refine tqx 4 ?_|refine tkx 4 ?_
 first|refine tqx 5 ?_|refine tkx 5 ?_
 first|refine tqx 6 ?_|refine tkx 6 ?_
 first|refine tqx 7 ?_|refine tkx 7 ?_
 first|refine tqx 8 ?_|refine tkx 8 ?_
 first|refine tqx 9 ?_|refine tkx 9 ?_
 first|(refine tqx 10 ?_)|(refine callH (i:=10) rfl hHeld (fun W hW K hK=>?_);clear hHeld;(try dsimp only at hW);obtain⟨h_p0,h_p1,h_p2,h_p3,h_p4,h_p5,h_s0,h_s1,h_s2,h_s3,h_sR,h_x0,h_x1,h_x2,h_rR,h_t0,h_t1,h_t2,h_t3,h_tR,h_B⟩:=hW;go_simp;refine(HRO.out W (log_bl HL.out h_B)).mono ?_;rintro e w9 ⟨rfl,hb⟩;go_wp2_with fail;refine hK.out _ _ ?_ (fun hHeld=>?_);(focus((try dsimp only);exact⟨bl_cell hb h_p0,bl_cell hb h_p1,bl_cell hb h_p2,bl_cell hb h_p3,bl_cell hb h_p4,bl_cell hb h_p5,bl_cell hb h_s0,bl_cell hb h_s1,bl_cell hb h_s2,bl_cell hb h_s3,res_bl h_sR hb,bl_cell hb h_x0,bl_cell hb h_x1,bl_cell hb h_x2,res_bl h_rR hb,bl_cell hb h_t0,bl_cell hb h_t1,bl_cell hb h_t2,bl_cell hb h_t3,res_bl h_tR hb,bl_then h_B hb⟩));clear hK K;clear h_p0 h_p1 h_p2 h_p3 h_p4 h_p5 h_s0 h_s1 h_s2 h_s3 h_sR h_x0 h_x1 h_x2 h_rR h_t0 h_t1 h_t2 h_t3 h_tR h_B;try simp only[Act.put,List.setIfInBounds_toArray,List.set_cons_zero,List.set_cons_succ])
 first|refine tqx 11 ?_|refine tkx 11 ?_
 refine tkx 12 ?_
 refine wpAnyH_done (by kernel_rfl) ?_ _
 refine then_abs (F:=fun w'=>P6 w' (w.heap.size) k l d b cc o (S4 w' (w.heap.size+1) at_ level held a n c (ResB w' (w.heap.size+1)∧X3 w' (w.heap.size+1+1) 1 now cost (ResB w' (w.heap.size+1+1+1)∧S4 w' (w2.heap.size) aat alv held a1 0 c1 (ResB w' (w2.heap.size)∧Below w.heap.size w w'))))) hHeld ?_
 clear hHeld hB p0 p1 p2 p3 p4 p5 s0 s1 s2 s3 sR x0 x1 x2 rR t0 t1 t2 t3 tR
 rintro w5 ⟨p0,p1,p2,p3,p4,p5,s0,s1,s2,s3,sR,x0,x1,x2,rR,t0,t1,t2,t3,tR,hB⟩
 replace lb_p:=lbc p0
 replace lb_s:=lbc s0
 replace lb_x:=lbc x0
 replace lb_t:=lbc t0
 obtain⟨f0,f1,f2,f3,u0,u1,u2,u3,i0,i1,i2,i3⟩:=res_all rR
 go_wp2_with go_step3
 (try simp only[Exit.inBlock,Exit.then,Exit.noGoto_ret])
 refine bodyPost_ret (results_state2 rfl _ _ (by rfl) (set4r (rR))) rfl (sb_same HL.out ⟨rfl,bl4 (hB) (by omega)⟩)
theorem r5do_full2 (p:Pol) (s:St) (a:Option Addr) (n c:Nat) (now cost:Int) (w:World) (hl:LogAt w a n c s.log) (h:rightG p s) (h1:¬ cost<1) (h4:roomG p s now<cost):Calls Tryz.prog 68 #[p.v,s.v a n c,.agg #[.int .i64 2,.int .i64 now,.int .i64 cost]] w (PostSB a n (doG p s ⟨2,now,cost⟩) w):=by
 have hrt:=fun w=>r5right_any p s a n c hl.1 w
 rw[decide_eq_true h] at hrt
 have hav:=fun w hw=>r5adv_any p s a n c now w hw
 unfold PostS at hav
 have hro:=fun w hw=>r5room_any p s a n c now w hw
 rw[(doG_ref (k:=2) h (advG_held p s now h) ⟨by have hz:=advG_level p s now h;omega,(advG_level p s now h).2.2.2⟩).2.1 (by omega) (by omega) h4]
 have hlv:=advG_level p s now h
 have hhd:=advG_held p s now h
 have hlg:=advG_lg (now:=now) h
 have hd:=h.1.2.2.2.2.2.2.1
 have hD:=h.1.2.2.2.2.2.2.2
 have hbm:=h.1.2.2.2.2.2.1
 have hh0:=h.2.2.2.1
 have hh1:=h.2.2.2.2.1
 have hro1:roomG p s now≤p.burst:=by have hz:=(roomG_le (now:=now) (c:=roomG p s now) h).1 (Int.le_refl _);have hy:roomG p s now*p.period≤p.burst*p.period:=(by omega);exact Int.le_of_mul_le_mul_right hy (by omega)
 generalize roomG p s now=RO at *
 generalize advG p s now=A at *
 clear h
 obtain⟨aat,alv,ahd,alg⟩:=A
 obtain⟨k,l,d,b,cc,o⟩:=p
 obtain⟨at_,level,held,L⟩:=s
 unfold St.v Pol.v at *
 dsimp only at *
 subst hlg
 obtain rfl:held=ahd:=hhd.symm
 have hd1:decide (cost<1)=false:=decide_eq_false (h1)
 have hdr:decide (RO<cost)=true:=decide_eq_true (h4)
 have hdq:decide (cost≤RO)=false:=decide_eq_false (by omega)
 have HRT:=Go.Lib.hid hrt
 have HAV:=Go.Lib.hid hav
 have HRO:=Go.Lib.hid hro
 have HL:=Go.Lib.hid hl
 clear hrt hav hro hl
 clear hlv hd hD hbm hh0 hh1 hro1
 go_enter Tryz.func68,Tryz.ntmps68
 go_wp2_with go_step3
 refine(HRT.out _).mono ?_
 rintro e w1 ⟨rfl,hb⟩
 have hx:Below w.heap.size w w1:=bl_then (bl_alloc (bl_alloc (bl_alloc (bl_alloc (bl_refl _) _) _) _) _) hb
 have hsz1:w.heap.size+4≤w1.heap.size:=szl hb
 obtain⟨p0,p1,p2,p3,p4,p5⟩:=b6 (w.heap.size) k l d b cc o hb
 obtain⟨s0,s1,s2,s3⟩:=b4 (w.heap.size+1) at_ level held a n c hb
 have sR:=res_bl (b:=w.heap.size+1) (res_bl (res_bl (res_new _ _ _ _ _ _ (by simp)) (bl_alloc (bl_refl _) _)) (bl_alloc (bl_refl _) _)) hb
 obtain⟨x0,x1,x2⟩:=b3 (w.heap.size+1+1) 2 now cost hb
 have rR:=res_bl (b:=w.heap.size+1+1+1) (res_new _ _ _ _ _ _ (by simp)) hb
 have hB:Below w.heap.size w w1:=hx
 have lb_p:=lbc p0
 have lb_s:=lbc s0
 have lb_x:=lbc x0
 clear hb hx
 go_wp2_with go_step3
 refine(HAV.out _ (log_bl HL.out (hB))).mono ?_
 rintro e w2 ⟨a1,n1,c1,rfl,hl1,-,hb⟩
 have hsz2:w1.heap.size+0≤w2.heap.size:=szl hb
 replace p0:=bl_cell hb p0
 replace p1:=bl_cell hb p1
 replace p2:=bl_cell hb p2
 replace p3:=bl_cell hb p3
 replace p4:=bl_cell hb p4
 replace p5:=bl_cell hb p5
 replace s0:=bl_cell hb s0
 replace s1:=bl_cell hb s1
 replace s2:=bl_cell hb s2
 replace s3:=bl_cell hb s3
 replace sR:=res_bl sR hb
 replace x0:=bl_cell hb x0
 replace x1:=bl_cell hb x1
 replace x2:=bl_cell hb x2
 replace rR:=res_bl rR hb
 replace hB:Below w.heap.size w w2:=bl_then hB hb
 replace lb_p:=lbc p0
 replace lb_s:=lbc s0
 replace lb_x:=lbc x0
 clear hb
 have hn1:n1=0:=hl1.1.symm
 subst hn1
 have hc1:=hl1.2.2.1
 clear hl1
 go_wp2_with go_step3
 skip
 refine wp_abs (S0:=fun X=>(fun w'=>P6 w' (w.heap.size) k l d b cc o (S4 w' (w.heap.size+1) at_ level held a n c (ResB w' (w.heap.size+1)∧X3 w' (w.heap.size+1+1) 2 now cost (ResB w' (w.heap.size+1+1+1)∧S4 w' (w2.heap.size) aat alv held a1 0 c1 (ResB w' (w2.heap.size)∧Below w.heap.size w w'))))) X∧w2.heap.size+1≤X.heap.size) ⟨⟨bl_cell (bl_alloc (bl_refl _) _) p0,bl_cell (bl_alloc (bl_refl _) _) p1,bl_cell (bl_alloc (bl_refl _) _) p2,bl_cell (bl_alloc (bl_refl _) _) p3,bl_cell (bl_alloc (bl_refl _) _) p4,bl_cell (bl_alloc (bl_refl _) _) p5,bl_cell (bl_alloc (bl_refl _) _) s0,bl_cell (bl_alloc (bl_refl _) _) s1,bl_cell (bl_alloc (bl_refl _) _) s2,bl_cell (bl_alloc (bl_refl _) _) s3,res_bl sR (bl_alloc (bl_refl _) _),bl_cell (bl_alloc (bl_refl _) _) x0,bl_cell (bl_alloc (bl_refl _) _) x1,bl_cell (bl_alloc (bl_refl _) _) x2,res_bl rR (bl_alloc (bl_refl _) _),by go_simp,by go_simp,by go_simp,by go_simp,res_new _ _ _ _ _ _ (by simp),bl_alloc (hB) _⟩,by simp⟩ ?_
 clear p0 p1 p2 p3 p4 p5 s0 s1 s2 s3 sR x0 x1 x2 rR hB
 rintro w3 ⟨⟨p0,p1,p2,p3,p4,p5,s0,s1,s2,s3,sR,x0,x1,x2,rR,t0,t1,t2,t3,tR,hB⟩,hsz3⟩
 replace lb_p:=lbc p0
 replace lb_s:=lbc s0
 replace lb_x:=lbc x0
 have lb_t:=lbc t0
 refine wp_region_held_drew (S:=fun w'=>P6 w' (w.heap.size) k l d b cc o (S4 w' (w.heap.size+1) at_ level held a n c (ResB w' (w.heap.size+1)∧X3 w' (w.heap.size+1+1) 2 now cost (ResB w' (w.heap.size+1+1+1)∧S4 w' (w2.heap.size) aat alv held a1 0 c1 (ResB w' (w2.heap.size)∧Below w.heap.size w w'))))) (by kernel_rfl) ?_ (fun hHeld=>?_)
 ·exact⟨p0,p1,p2,p3,p4,p5,s0,s1,s2,s3,sR,x0,x1,x2,rR,t0,t1,t2,t3,tR,bl_drew hB⟩
 try simp only[Act.put,List.setIfInBounds_toArray,List.set_cons_zero,List.set_cons_succ]
 refine tkx 0 ?_
 refine tkx 1 ?_
 refine tkx 2 ?_
 refine tkx 3 ?_
 first|refine tqx 4 ?_|refine tkx 4 ?_
 first|refine tqx 5 ?_|refine tkx 5 ?_
 first|refine tqx 6 ?_|refine tkx 6 ?_
 first|refine tqx 7 ?_|refine tkx 7 ?_
 first|refine tqx 8 ?_|refine tkx 8 ?_
 first|refine tqx 9 ?_|refine tkx 9 ?_
 first|(refine tqx 10 ?_)|(refine callH (i:=10) rfl hHeld (fun W hW K hK=>?_);clear hHeld;(try dsimp only at hW);obtain⟨h_p0,h_p1,h_p2,h_p3,h_p4,h_p5,h_s0,h_s1,h_s2,h_s3,h_sR,h_x0,h_x1,h_x2,h_rR,h_t0,h_t1,h_t2,h_t3,h_tR,h_B⟩:=hW;go_simp;refine(HRO.out W (log_bl HL.out h_B)).mono ?_;rintro e w9 ⟨rfl,hb⟩;go_wp2_with fail;refine hK.out _ _ ?_ (fun hHeld=>?_);(focus((try dsimp only);exact⟨bl_cell hb h_p0,bl_cell hb h_p1,bl_cell hb h_p2,bl_cell hb h_p3,bl_cell hb h_p4,bl_cell hb h_p5,bl_cell hb h_s0,bl_cell hb h_s1,bl_cell hb h_s2,bl_cell hb h_s3,res_bl h_sR hb,bl_cell hb h_x0,bl_cell hb h_x1,bl_cell hb h_x2,res_bl h_rR hb,bl_cell hb h_t0,bl_cell hb h_t1,bl_cell hb h_t2,bl_cell hb h_t3,res_bl h_tR hb,bl_then h_B hb⟩));clear hK K;clear h_p0 h_p1 h_p2 h_p3 h_p4 h_p5 h_s0 h_s1 h_s2 h_s3 h_sR h_x0 h_x1 h_x2 h_rR h_t0 h_t1 h_t2 h_t3 h_tR h_B;try simp only[Act.put,List.setIfInBounds_toArray,List.set_cons_zero,List.set_cons_succ])
 first|refine tqx 11 ?_|refine tkx 11 ?_
 refine tkx 12 ?_
 refine wpAnyH_done (by kernel_rfl) ?_ _
 refine then_abs (F:=fun w'=>P6 w' (w.heap.size) k l d b cc o (S4 w' (w.heap.size+1) at_ level held a n c (ResB w' (w.heap.size+1)∧X3 w' (w.heap.size+1+1) 2 now cost (ResB w' (w.heap.size+1+1+1)∧S4 w' (w2.heap.size) aat alv held a1 0 c1 (ResB w' (w2.heap.size)∧Below w.heap.size w w'))))) hHeld ?_
 clear hHeld hB p0 p1 p2 p3 p4 p5 s0 s1 s2 s3 sR x0 x1 x2 rR t0 t1 t2 t3 tR
 rintro w4 ⟨p0,p1,p2,p3,p4,p5,s0,s1,s2,s3,sR,x0,x1,x2,rR,t0,t1,t2,t3,tR,hB⟩
 replace lb_p:=lbc p0
 replace lb_s:=lbc s0
 replace lb_x:=lbc x0
 replace lb_t:=lbc t0
 go_wp2_with go_step3
 refine wp_region_held_drew (S:=fun w'=>P6 w' (w.heap.size) k l d b cc o (S4 w' (w.heap.size+1) at_ level held a n c (ResB w' (w.heap.size+1)∧X3 w' (w.heap.size+1+1) 2 now cost (ResB w' (w.heap.size+1+1+1)∧S4 w' (w2.heap.size) aat alv held a1 0 c1 (ResB w' (w2.heap.size)∧Below w.heap.size w w'))))) (by kernel_rfl) ?_ (fun hHeld=>?_)
 ·exact⟨p0,p1,p2,p3,p4,p5,s0,s1,s2,s3,sR,x0,x1,x2,rR,t0,t1,t2,t3,tR,bl_drew hB⟩
 try simp only[Act.put,List.setIfInBounds_toArray,List.set_cons_zero,List.set_cons_succ]
 refine tkx 0 ?_
 refine tkx 1 ?_
 refine tkx 2 ?_
 refine tkx 3 ?_
 first|refine tqx 4 ?_|refine tkx 4 ?_
 first|refine tqx 5 ?_|refine tkx 5 ?_
 first|refine tqx 6 ?_|refine tkx 6 ?_
 first|refine tqx 7 ?_|refine tkx 7 ?_
 first|refine tqx 8 ?_|refine tkx 8 ?_
 first|refine tqx 9 ?_|refine tkx 9 ?_
 first|(refine tqx 10 ?_)|(refine callH (i:=10) rfl hHeld (fun W hW K hK=>?_);clear hHeld;(try dsimp only at hW);obtain⟨h_p0,h_p1,h_p2,h_p3,h_p4,h_p5,h_s0,h_s1,h_s2,h_s3,h_sR,h_x0,h_x1,h_x2,h_rR,h_t0,h_t1,h_t2,h_t3,h_tR,h_B⟩:=hW;go_simp;refine(HRO.out W (log_bl HL.out h_B)).mono ?_;rintro e w9 ⟨rfl,hb⟩;go_wp2_with fail;refine hK.out _ _ ?_ (fun hHeld=>?_);(focus((try dsimp only);exact⟨bl_cell hb h_p0,bl_cell hb h_p1,bl_cell hb h_p2,bl_cell hb h_p3,bl_cell hb h_p4,bl_cell hb h_p5,bl_cell hb h_s0,bl_cell hb h_s1,bl_cell hb h_s2,bl_cell hb h_s3,res_bl h_sR hb,bl_cell hb h_x0,bl_cell hb h_x1,bl_cell hb h_x2,res_bl h_rR hb,bl_cell hb h_t0,bl_cell hb h_t1,bl_cell hb h_t2,bl_cell hb h_t3,res_bl h_tR hb,bl_then h_B hb⟩));clear hK K;clear h_p0 h_p1 h_p2 h_p3 h_p4 h_p5 h_s0 h_s1 h_s2 h_s3 h_sR h_x0 h_x1 h_x2 h_rR h_t0 h_t1 h_t2 h_t3 h_tR h_B;try simp only[Act.put,List.setIfInBounds_toArray,List.set_cons_zero,List.set_cons_succ])
 first|refine tqx 11 ?_|refine tkx 11 ?_
 refine tkx 12 ?_
 refine wpAnyH_done (by kernel_rfl) ?_ _
 refine then_abs (F:=fun w'=>P6 w' (w.heap.size) k l d b cc o (S4 w' (w.heap.size+1) at_ level held a n c (ResB w' (w.heap.size+1)∧X3 w' (w.heap.size+1+1) 2 now cost (ResB w' (w.heap.size+1+1+1)∧S4 w' (w2.heap.size) aat alv held a1 0 c1 (ResB w' (w2.heap.size)∧Below w.heap.size w w'))))) hHeld ?_
 clear hHeld hB p0 p1 p2 p3 p4 p5 s0 s1 s2 s3 sR x0 x1 x2 rR t0 t1 t2 t3 tR
 rintro w5 ⟨p0,p1,p2,p3,p4,p5,s0,s1,s2,s3,sR,x0,x1,x2,rR,t0,t1,t2,t3,tR,hB⟩
 replace lb_p:=lbc p0
 replace lb_s:=lbc s0
 replace lb_x:=lbc x0
 replace lb_t:=lbc t0
 obtain⟨f0,f1,f2,f3,u0,u1,u2,u3,i0,i1,i2,i3⟩:=res_all rR
 go_wp2_with go_step3
 (try simp only[Exit.inBlock,Exit.then,Exit.noGoto_ret])
 refine bodyPost_ret (results_state2 rfl _ _ (by rfl) (set4r (rR))) rfl (sb_same HL.out ⟨rfl,bl4 (hB) (by omega)⟩)
theorem r5do_over3 (p:Pol) (s:St) (a:Option Addr) (n c:Nat) (now cost:Int) (w:World) (hl:LogAt w a n c s.log) (h:rightG p s) (h1:¬ cost<1) (h4:s.held<cost):Calls Tryz.prog 68 #[p.v,s.v a n c,.agg #[.int .i64 3,.int .i64 now,.int .i64 cost]] w (PostSB a n (doG p s ⟨3,now,cost⟩) w):=by
 have hrt:=fun w=>r5right_any p s a n c hl.1 w
 rw[decide_eq_true h] at hrt
 have hav:=fun w hw=>r5adv_any p s a n c now w hw
 unfold PostS at hav
 have hro:=fun w hw=>r5room_any p s a n c now w hw
 rw[(doG_ref (k:=3) h (advG_held p s now h) ⟨by have hz:=advG_level p s now h;omega,(advG_level p s now h).2.2.2⟩).2.2.1 (by omega) (by omega) h4]
 have hlv:=advG_level p s now h
 have hhd:=advG_held p s now h
 have hlg:=advG_lg (now:=now) h
 have hd:=h.1.2.2.2.2.2.2.1
 have hD:=h.1.2.2.2.2.2.2.2
 have hbm:=h.1.2.2.2.2.2.1
 have hh0:=h.2.2.2.1
 have hh1:=h.2.2.2.2.1
 have hro1:roomG p s now≤p.burst:=by have hz:=(roomG_le (now:=now) (c:=roomG p s now) h).1 (Int.le_refl _);have hy:roomG p s now*p.period≤p.burst*p.period:=(by omega);exact Int.le_of_mul_le_mul_right hy (by omega)
 generalize roomG p s now=RO at *
 generalize advG p s now=A at *
 clear h
 obtain⟨aat,alv,ahd,alg⟩:=A
 obtain⟨k,l,d,b,cc,o⟩:=p
 obtain⟨at_,level,held,L⟩:=s
 unfold St.v Pol.v at *
 dsimp only at *
 subst hlg
 obtain rfl:held=ahd:=hhd.symm
 have hd1:decide (cost<1)=false:=decide_eq_false (h1)
 have hdr:decide (held<cost)=true:=decide_eq_true (h4)
 have hdq:decide (cost≤held)=false:=decide_eq_false (by omega)
 have HRT:=Go.Lib.hid hrt
 have HAV:=Go.Lib.hid hav
 have HRO:=Go.Lib.hid hro
 have HL:=Go.Lib.hid hl
 clear hrt hav hro hl
 clear hlv hd hD hbm hh0 hh1 hro1
 go_enter Tryz.func68,Tryz.ntmps68
 go_wp2_with go_step3
 refine(HRT.out _).mono ?_
 rintro e w1 ⟨rfl,hb⟩
 have hx:Below w.heap.size w w1:=bl_then (bl_alloc (bl_alloc (bl_alloc (bl_alloc (bl_refl _) _) _) _) _) hb
 have hsz1:w.heap.size+4≤w1.heap.size:=szl hb
 obtain⟨p0,p1,p2,p3,p4,p5⟩:=b6 (w.heap.size) k l d b cc o hb
 obtain⟨s0,s1,s2,s3⟩:=b4 (w.heap.size+1) at_ level held a n c hb
 have sR:=res_bl (b:=w.heap.size+1) (res_bl (res_bl (res_new _ _ _ _ _ _ (by simp)) (bl_alloc (bl_refl _) _)) (bl_alloc (bl_refl _) _)) hb
 obtain⟨x0,x1,x2⟩:=b3 (w.heap.size+1+1) 3 now cost hb
 have rR:=res_bl (b:=w.heap.size+1+1+1) (res_new _ _ _ _ _ _ (by simp)) hb
 have hB:Below w.heap.size w w1:=hx
 have lb_p:=lbc p0
 have lb_s:=lbc s0
 have lb_x:=lbc x0
 clear hb hx
 go_wp2_with go_step3
 refine(HAV.out _ (log_bl HL.out (hB))).mono ?_
 rintro e w2 ⟨a1,n1,c1,rfl,hl1,-,hb⟩
 have hsz2:w1.heap.size+0≤w2.heap.size:=szl hb
 replace p0:=bl_cell hb p0
 replace p1:=bl_cell hb p1
 replace p2:=bl_cell hb p2
 replace p3:=bl_cell hb p3
 replace p4:=bl_cell hb p4
 replace p5:=bl_cell hb p5
 replace s0:=bl_cell hb s0
 replace s1:=bl_cell hb s1
 replace s2:=bl_cell hb s2
 replace s3:=bl_cell hb s3
 replace sR:=res_bl sR hb
 replace x0:=bl_cell hb x0
 replace x1:=bl_cell hb x1
 replace x2:=bl_cell hb x2
 replace rR:=res_bl rR hb
 replace hB:Below w.heap.size w w2:=bl_then hB hb
 replace lb_p:=lbc p0
 replace lb_s:=lbc s0
 replace lb_x:=lbc x0
 clear hb
 have hn1:n1=0:=hl1.1.symm
 subst hn1
 have hc1:=hl1.2.2.1
 clear hl1
 go_wp2_with go_step3
 skip
 refine wp_abs (S0:=fun X=>(fun w'=>P6 w' (w.heap.size) k l d b cc o (S4 w' (w.heap.size+1) at_ level held a n c (ResB w' (w.heap.size+1)∧X3 w' (w.heap.size+1+1) 3 now cost (ResB w' (w.heap.size+1+1+1)∧S4 w' (w2.heap.size) aat alv held a1 0 c1 (ResB w' (w2.heap.size)∧Below w.heap.size w w'))))) X∧w2.heap.size+1≤X.heap.size) ⟨⟨bl_cell (bl_alloc (bl_refl _) _) p0,bl_cell (bl_alloc (bl_refl _) _) p1,bl_cell (bl_alloc (bl_refl _) _) p2,bl_cell (bl_alloc (bl_refl _) _) p3,bl_cell (bl_alloc (bl_refl _) _) p4,bl_cell (bl_alloc (bl_refl _) _) p5,bl_cell (bl_alloc (bl_refl _) _) s0,bl_cell (bl_alloc (bl_refl _) _) s1,bl_cell (bl_alloc (bl_refl _) _) s2,bl_cell (bl_alloc (bl_refl _) _) s3,res_bl sR (bl_alloc (bl_refl _) _),bl_cell (bl_alloc (bl_refl _) _) x0,bl_cell (bl_alloc (bl_refl _) _) x1,bl_cell (bl_alloc (bl_refl _) _) x2,res_bl rR (bl_alloc (bl_refl _) _),by go_simp,by go_simp,by go_simp,by go_simp,res_new _ _ _ _ _ _ (by simp),bl_alloc (hB) _⟩,by simp⟩ ?_
 clear p0 p1 p2 p3 p4 p5 s0 s1 s2 s3 sR x0 x1 x2 rR hB
 rintro w3 ⟨⟨p0,p1,p2,p3,p4,p5,s0,s1,s2,s3,sR,x0,x1,x2,rR,t0,t1,t2,t3,tR,hB⟩,hsz3⟩
 replace lb_p:=lbc p0
 replace lb_s:=lbc s0
 replace lb_x:=lbc x0
 have lb_t:=lbc t0
 refine wp_region_held_drew (S:=fun w'=>P6 w' (w.heap.size) k l d b cc o (S4 w' (w.heap.size+1) at_ level held a n c (ResB w' (w.heap.size+1)∧X3 w' (w.heap.size+1+1) 3 now cost (ResB w' (w.heap.size+1+1+1)∧S4 w' (w2.heap.size) aat alv held a1 0 c1 (ResB w' (w2.heap.size)∧Below w.heap.size w w'))))) (by kernel_rfl) ?_ (fun hHeld=>?_)
 ·exact⟨p0,p1,p2,p3,p4,p5,s0,s1,s2,s3,sR,x0,x1,x2,rR,t0,t1,t2,t3,tR,bl_drew hB⟩
 try simp only[Act.put,List.setIfInBounds_toArray,List.set_cons_zero,List.set_cons_succ]
 refine tkx 0 ?_
 refine tkx 1 ?_
 refine tkx 2 ?_
 refine tkx 3 ?_
 first|refine tqx 4 ?_|refine tkx 4 ?_
 first|refine tqx 5 ?_|refine tkx 5 ?_
 first|refine tqx 6 ?_|refine tkx 6 ?_
 first|refine tqx 7 ?_|refine tkx 7 ?_
 first|refine tqx 8 ?_|refine tkx 8 ?_
 first|refine tqx 9 ?_|refine tkx 9 ?_
 first|(refine tqx 10 ?_)|(refine callH (i:=10) rfl hHeld (fun W hW K hK=>?_);clear hHeld;(try dsimp only at hW);obtain⟨h_p0,h_p1,h_p2,h_p3,h_p4,h_p5,h_s0,h_s1,h_s2,h_s3,h_sR,h_x0,h_x1,h_x2,h_rR,h_t0,h_t1,h_t2,h_t3,h_tR,h_B⟩:=hW;go_simp;refine(HRO.out W (log_bl HL.out h_B)).mono ?_;rintro e w9 ⟨rfl,hb⟩;go_wp2_with fail;refine hK.out _ _ ?_ (fun hHeld=>?_);(focus((try dsimp only);exact⟨bl_cell hb h_p0,bl_cell hb h_p1,bl_cell hb h_p2,bl_cell hb h_p3,bl_cell hb h_p4,bl_cell hb h_p5,bl_cell hb h_s0,bl_cell hb h_s1,bl_cell hb h_s2,bl_cell hb h_s3,res_bl h_sR hb,bl_cell hb h_x0,bl_cell hb h_x1,bl_cell hb h_x2,res_bl h_rR hb,bl_cell hb h_t0,bl_cell hb h_t1,bl_cell hb h_t2,bl_cell hb h_t3,res_bl h_tR hb,bl_then h_B hb⟩));clear hK K;clear h_p0 h_p1 h_p2 h_p3 h_p4 h_p5 h_s0 h_s1 h_s2 h_s3 h_sR h_x0 h_x1 h_x2 h_rR h_t0 h_t1 h_t2 h_t3 h_tR h_B;try simp only[Act.put,List.setIfInBounds_toArray,List.set_cons_zero,List.set_cons_succ])
 first|refine tqx 11 ?_|refine tkx 11 ?_
 refine tkx 12 ?_
 refine wpAnyH_done (by kernel_rfl) ?_ _
 refine then_abs (F:=fun w'=>P6 w' (w.heap.size) k l d b cc o (S4 w' (w.heap.size+1) at_ level held a n c (ResB w' (w.heap.size+1)∧X3 w' (w.heap.size+1+1) 3 now cost (ResB w' (w.heap.size+1+1+1)∧S4 w' (w2.heap.size) aat alv held a1 0 c1 (ResB w' (w2.heap.size)∧Below w.heap.size w w'))))) hHeld ?_
 clear hHeld hB p0 p1 p2 p3 p4 p5 s0 s1 s2 s3 sR x0 x1 x2 rR t0 t1 t2 t3 tR
 rintro w4 ⟨p0,p1,p2,p3,p4,p5,s0,s1,s2,s3,sR,x0,x1,x2,rR,t0,t1,t2,t3,tR,hB⟩
 replace lb_p:=lbc p0
 replace lb_s:=lbc s0
 replace lb_x:=lbc x0
 replace lb_t:=lbc t0
 go_wp2_with go_step3
 refine wp_region_held_drew (S:=fun w'=>P6 w' (w.heap.size) k l d b cc o (S4 w' (w.heap.size+1) at_ level held a n c (ResB w' (w.heap.size+1)∧X3 w' (w.heap.size+1+1) 3 now cost (ResB w' (w.heap.size+1+1+1)∧S4 w' (w2.heap.size) aat alv held a1 0 c1 (ResB w' (w2.heap.size)∧Below w.heap.size w w'))))) (by kernel_rfl) ?_ (fun hHeld=>?_)
 ·exact⟨p0,p1,p2,p3,p4,p5,s0,s1,s2,s3,sR,x0,x1,x2,rR,t0,t1,t2,t3,tR,bl_drew hB⟩
 try simp only[Act.put,List.setIfInBounds_toArray,List.set_cons_zero,List.set_cons_succ]
 refine tkx 0 ?_
 refine tkx 1 ?_
 refine tkx 2 ?_
 refine tkx 3 ?_
 first|refine tqx 4 ?_|refine tkx 4 ?_
 first|refine tqx 5 ?_|refine tkx 5 ?_
 first|refine tqx 6 ?_|refine tkx 6 ?_
 first|refine tqx 7 ?_|refine tkx 7 ?_
 first|refine tqx 8 ?_|refine tkx 8 ?_
 first|refine tqx 9 ?_|refine tkx 9 ?_
 first|(refine tqx 10 ?_)|(refine callH (i:=10) rfl hHeld (fun W hW K hK=>?_);clear hHeld;(try dsimp only at hW);obtain⟨h_p0,h_p1,h_p2,h_p3,h_p4,h_p5,h_s0,h_s1,h_s2,h_s3,h_sR,h_x0,h_x1,h_x2,h_rR,h_t0,h_t1,h_t2,h_t3,h_tR,h_B⟩:=hW;go_simp;refine(HRO.out W (log_bl HL.out h_B)).mono ?_;rintro e w9 ⟨rfl,hb⟩;go_wp2_with fail;refine hK.out _ _ ?_ (fun hHeld=>?_);(focus((try dsimp only);exact⟨bl_cell hb h_p0,bl_cell hb h_p1,bl_cell hb h_p2,bl_cell hb h_p3,bl_cell hb h_p4,bl_cell hb h_p5,bl_cell hb h_s0,bl_cell hb h_s1,bl_cell hb h_s2,bl_cell hb h_s3,res_bl h_sR hb,bl_cell hb h_x0,bl_cell hb h_x1,bl_cell hb h_x2,res_bl h_rR hb,bl_cell hb h_t0,bl_cell hb h_t1,bl_cell hb h_t2,bl_cell hb h_t3,res_bl h_tR hb,bl_then h_B hb⟩));clear hK K;clear h_p0 h_p1 h_p2 h_p3 h_p4 h_p5 h_s0 h_s1 h_s2 h_s3 h_sR h_x0 h_x1 h_x2 h_rR h_t0 h_t1 h_t2 h_t3 h_tR h_B;try simp only[Act.put,List.setIfInBounds_toArray,List.set_cons_zero,List.set_cons_succ])
 first|refine tqx 11 ?_|refine tkx 11 ?_
 refine tkx 12 ?_
 refine wpAnyH_done (by kernel_rfl) ?_ _
 refine then_abs (F:=fun w'=>P6 w' (w.heap.size) k l d b cc o (S4 w' (w.heap.size+1) at_ level held a n c (ResB w' (w.heap.size+1)∧X3 w' (w.heap.size+1+1) 3 now cost (ResB w' (w.heap.size+1+1+1)∧S4 w' (w2.heap.size) aat alv held a1 0 c1 (ResB w' (w2.heap.size)∧Below w.heap.size w w'))))) hHeld ?_
 clear hHeld hB p0 p1 p2 p3 p4 p5 s0 s1 s2 s3 sR x0 x1 x2 rR t0 t1 t2 t3 tR
 rintro w5 ⟨p0,p1,p2,p3,p4,p5,s0,s1,s2,s3,sR,x0,x1,x2,rR,t0,t1,t2,t3,tR,hB⟩
 replace lb_p:=lbc p0
 replace lb_s:=lbc s0
 replace lb_x:=lbc x0
 replace lb_t:=lbc t0
 obtain⟨f0,f1,f2,f3,u0,u1,u2,u3,i0,i1,i2,i3⟩:=res_all rR
 go_wp2_with go_step3
 (try simp only[Exit.inBlock,Exit.then,Exit.noGoto_ret])
 refine bodyPost_ret (results_state2 rfl _ _ (by rfl) (set4r (rR))) rfl (sb_same HL.out ⟨rfl,bl4 (hB) (by omega)⟩)
theorem r5do_over4 (p:Pol) (s:St) (a:Option Addr) (n c:Nat) (now cost:Int) (w:World) (hl:LogAt w a n c s.log) (h:rightG p s) (h1:¬ cost<1) (h4:s.held<cost):Calls Tryz.prog 68 #[p.v,s.v a n c,.agg #[.int .i64 4,.int .i64 now,.int .i64 cost]] w (PostSB a n (doG p s ⟨4,now,cost⟩) w):=by
 have hrt:=fun w=>r5right_any p s a n c hl.1 w
 rw[decide_eq_true h] at hrt
 have hav:=fun w hw=>r5adv_any p s a n c now w hw
 unfold PostS at hav
 have hro:=fun w hw=>r5room_any p s a n c now w hw
 rw[(doG_ref (k:=4) h (advG_held p s now h) ⟨by have hz:=advG_level p s now h;omega,(advG_level p s now h).2.2.2⟩).2.2.1 (by omega) (by omega) h4]
 have hlv:=advG_level p s now h
 have hhd:=advG_held p s now h
 have hlg:=advG_lg (now:=now) h
 have hd:=h.1.2.2.2.2.2.2.1
 have hD:=h.1.2.2.2.2.2.2.2
 have hbm:=h.1.2.2.2.2.2.1
 have hh0:=h.2.2.2.1
 have hh1:=h.2.2.2.2.1
 have hro1:roomG p s now≤p.burst:=by have hz:=(roomG_le (now:=now) (c:=roomG p s now) h).1 (Int.le_refl _);have hy:roomG p s now*p.period≤p.burst*p.period:=(by omega);exact Int.le_of_mul_le_mul_right hy (by omega)
 generalize roomG p s now=RO at *
 generalize advG p s now=A at *
 clear h
 obtain⟨aat,alv,ahd,alg⟩:=A
 obtain⟨k,l,d,b,cc,o⟩:=p
 obtain⟨at_,level,held,L⟩:=s
 unfold St.v Pol.v at *
 dsimp only at *
 subst hlg
 obtain rfl:held=ahd:=hhd.symm
 have hd1:decide (cost<1)=false:=decide_eq_false (h1)
 have hdr:decide (held<cost)=true:=decide_eq_true (h4)
 have hdq:decide (cost≤held)=false:=decide_eq_false (by omega)
 have HRT:=Go.Lib.hid hrt
 have HAV:=Go.Lib.hid hav
 have HRO:=Go.Lib.hid hro
 have HL:=Go.Lib.hid hl
 clear hrt hav hro hl
 clear hlv hd hD hbm hh0 hh1 hro1
 go_enter Tryz.func68,Tryz.ntmps68
 go_wp2_with go_step3
 refine(HRT.out _).mono ?_
 rintro e w1 ⟨rfl,hb⟩
 have hx:Below w.heap.size w w1:=bl_then (bl_alloc (bl_alloc (bl_alloc (bl_alloc (bl_refl _) _) _) _) _) hb
 have hsz1:w.heap.size+4≤w1.heap.size:=szl hb
 obtain⟨p0,p1,p2,p3,p4,p5⟩:=b6 (w.heap.size) k l d b cc o hb
 obtain⟨s0,s1,s2,s3⟩:=b4 (w.heap.size+1) at_ level held a n c hb
 have sR:=res_bl (b:=w.heap.size+1) (res_bl (res_bl (res_new _ _ _ _ _ _ (by simp)) (bl_alloc (bl_refl _) _)) (bl_alloc (bl_refl _) _)) hb
 obtain⟨x0,x1,x2⟩:=b3 (w.heap.size+1+1) 4 now cost hb
 have rR:=res_bl (b:=w.heap.size+1+1+1) (res_new _ _ _ _ _ _ (by simp)) hb
 have hB:Below w.heap.size w w1:=hx
 have lb_p:=lbc p0
 have lb_s:=lbc s0
 have lb_x:=lbc x0
 clear hb hx
 go_wp2_with go_step3
 refine(HAV.out _ (log_bl HL.out (hB))).mono ?_
 rintro e w2 ⟨a1,n1,c1,rfl,hl1,-,hb⟩
 have hsz2:w1.heap.size+0≤w2.heap.size:=szl hb
 replace p0:=bl_cell hb p0
 replace p1:=bl_cell hb p1
 replace p2:=bl_cell hb p2
 replace p3:=bl_cell hb p3
 replace p4:=bl_cell hb p4
 replace p5:=bl_cell hb p5
 replace s0:=bl_cell hb s0
 replace s1:=bl_cell hb s1
 replace s2:=bl_cell hb s2
 replace s3:=bl_cell hb s3
 replace sR:=res_bl sR hb
 replace x0:=bl_cell hb x0
 replace x1:=bl_cell hb x1
 replace x2:=bl_cell hb x2
 replace rR:=res_bl rR hb
 replace hB:Below w.heap.size w w2:=bl_then hB hb
 replace lb_p:=lbc p0
 replace lb_s:=lbc s0
 replace lb_x:=lbc x0
 clear hb
 have hn1:n1=0:=hl1.1.symm
 subst hn1
 have hc1:=hl1.2.2.1
 clear hl1
 go_wp2_with go_step3
 skip
 refine wp_abs (S0:=fun X=>(fun w'=>P6 w' (w.heap.size) k l d b cc o (S4 w' (w.heap.size+1) at_ level held a n c (ResB w' (w.heap.size+1)∧X3 w' (w.heap.size+1+1) 4 now cost (ResB w' (w.heap.size+1+1+1)∧S4 w' (w2.heap.size) aat alv held a1 0 c1 (ResB w' (w2.heap.size)∧Below w.heap.size w w'))))) X∧w2.heap.size+1≤X.heap.size) ⟨⟨bl_cell (bl_alloc (bl_refl _) _) p0,bl_cell (bl_alloc (bl_refl _) _) p1,bl_cell (bl_alloc (bl_refl _) _) p2,bl_cell (bl_alloc (bl_refl _) _) p3,bl_cell (bl_alloc (bl_refl _) _) p4,bl_cell (bl_alloc (bl_refl _) _) p5,bl_cell (bl_alloc (bl_refl _) _) s0,bl_cell (bl_alloc (bl_refl _) _) s1,bl_cell (bl_alloc (bl_refl _) _) s2,bl_cell (bl_alloc (bl_refl _) _) s3,res_bl sR (bl_alloc (bl_refl _) _),bl_cell (bl_alloc (bl_refl _) _) x0,bl_cell (bl_alloc (bl_refl _) _) x1,bl_cell (bl_alloc (bl_refl _) _) x2,res_bl rR (bl_alloc (bl_refl _) _),by go_simp,by go_simp,by go_simp,by go_simp,res_new _ _ _ _ _ _ (by simp),bl_alloc (hB) _⟩,by simp⟩ ?_
 clear p0 p1 p2 p3 p4 p5 s0 s1 s2 s3 sR x0 x1 x2 rR hB
 rintro w3 ⟨⟨p0,p1,p2,p3,p4,p5,s0,s1,s2,s3,sR,x0,x1,x2,rR,t0,t1,t2,t3,tR,hB⟩,hsz3⟩
 replace lb_p:=lbc p0
 replace lb_s:=lbc s0
 replace lb_x:=lbc x0
 have lb_t:=lbc t0
 refine wp_region_held_drew (S:=fun w'=>P6 w' (w.heap.size) k l d b cc o (S4 w' (w.heap.size+1) at_ level held a n c (ResB w' (w.heap.size+1)∧X3 w' (w.heap.size+1+1) 4 now cost (ResB w' (w.heap.size+1+1+1)∧S4 w' (w2.heap.size) aat alv held a1 0 c1 (ResB w' (w2.heap.size)∧Below w.heap.size w w'))))) (by kernel_rfl) ?_ (fun hHeld=>?_)
 ·exact⟨p0,p1,p2,p3,p4,p5,s0,s1,s2,s3,sR,x0,x1,x2,rR,t0,t1,t2,t3,tR,bl_drew hB⟩
 try simp only[Act.put,List.setIfInBounds_toArray,List.set_cons_zero,List.set_cons_succ]
 refine tkx 0 ?_
 refine tkx 1 ?_
 refine tkx 2 ?_
 refine tkx 3 ?_
 first|refine tqx 4 ?_|refine tkx 4 ?_
 first|refine tqx 5 ?_|refine tkx 5 ?_
 first|refine tqx 6 ?_|refine tkx 6 ?_
 first|refine tqx 7 ?_|refine tkx 7 ?_
 first|refine tqx 8 ?_|refine tkx 8 ?_
 first|refine tqx 9 ?_|refine tkx 9 ?_
 first|(refine tqx 10 ?_)|(refine callH (i:=10) rfl hHeld (fun W hW K hK=>?_);clear hHeld;(try dsimp only at hW);obtain⟨h_p0,h_p1,h_p2,h_p3,h_p4,h_p5,h_s0,h_s1,h_s2,h_s3,h_sR,h_x0,h_x1,h_x2,h_rR,h_t0,h_t1,h_t2,h_t3,h_tR,h_B⟩:=hW;go_simp;refine(HRO.out W (log_bl HL.out h_B)).mono ?_;rintro e w9 ⟨rfl,hb⟩;go_wp2_with fail;refine hK.out _ _ ?_ (fun hHeld=>?_);(focus((try dsimp only);exact⟨bl_cell hb h_p0,bl_cell hb h_p1,bl_cell hb h_p2,bl_cell hb h_p3,bl_cell hb h_p4,bl_cell hb h_p5,bl_cell hb h_s0,bl_cell hb h_s1,bl_cell hb h_s2,bl_cell hb h_s3,res_bl h_sR hb,bl_cell hb h_x0,bl_cell hb h_x1,bl_cell hb h_x2,res_bl h_rR hb,bl_cell hb h_t0,bl_cell hb h_t1,bl_cell hb h_t2,bl_cell hb h_t3,res_bl h_tR hb,bl_then h_B hb⟩));clear hK K;clear h_p0 h_p1 h_p2 h_p3 h_p4 h_p5 h_s0 h_s1 h_s2 h_s3 h_sR h_x0 h_x1 h_x2 h_rR h_t0 h_t1 h_t2 h_t3 h_tR h_B;try simp only[Act.put,List.setIfInBounds_toArray,List.set_cons_zero,List.set_cons_succ])
 first|refine tqx 11 ?_|refine tkx 11 ?_
 refine tkx 12 ?_
 refine wpAnyH_done (by kernel_rfl) ?_ _
 refine then_abs (F:=fun w'=>P6 w' (w.heap.size) k l d b cc o (S4 w' (w.heap.size+1) at_ level held a n c (ResB w' (w.heap.size+1)∧X3 w' (w.heap.size+1+1) 4 now cost (ResB w' (w.heap.size+1+1+1)∧S4 w' (w2.heap.size) aat alv held a1 0 c1 (ResB w' (w2.heap.size)∧Below w.heap.size w w'))))) hHeld ?_
 clear hHeld hB p0 p1 p2 p3 p4 p5 s0 s1 s2 s3 sR x0 x1 x2 rR t0 t1 t2 t3 tR
 rintro w4 ⟨p0,p1,p2,p3,p4,p5,s0,s1,s2,s3,sR,x0,x1,x2,rR,t0,t1,t2,t3,tR,hB⟩
 replace lb_p:=lbc p0
 replace lb_s:=lbc s0
 replace lb_x:=lbc x0
 replace lb_t:=lbc t0
 go_wp2_with go_step3
 refine wp_region_held_drew (S:=fun w'=>P6 w' (w.heap.size) k l d b cc o (S4 w' (w.heap.size+1) at_ level held a n c (ResB w' (w.heap.size+1)∧X3 w' (w.heap.size+1+1) 4 now cost (ResB w' (w.heap.size+1+1+1)∧S4 w' (w2.heap.size) aat alv held a1 0 c1 (ResB w' (w2.heap.size)∧Below w.heap.size w w'))))) (by kernel_rfl) ?_ (fun hHeld=>?_)
 ·exact⟨p0,p1,p2,p3,p4,p5,s0,s1,s2,s3,sR,x0,x1,x2,rR,t0,t1,t2,t3,tR,bl_drew hB⟩
 try simp only[Act.put,List.setIfInBounds_toArray,List.set_cons_zero,List.set_cons_succ]
 refine tkx 0 ?_
 refine tkx 1 ?_
 refine tkx 2 ?_
 refine tkx 3 ?_
 first|refine tqx 4 ?_|refine tkx 4 ?_
 first|refine tqx 5 ?_|refine tkx 5 ?_
 first|refine tqx 6 ?_|refine tkx 6 ?_
 first|refine tqx 7 ?_|refine tkx 7 ?_
 first|refine tqx 8 ?_|refine tkx 8 ?_
 first|refine tqx 9 ?_|refine tkx 9 ?_
 first|(refine tqx 10 ?_)|(refine callH (i:=10) rfl hHeld (fun W hW K hK=>?_);clear hHeld;(try dsimp only at hW);obtain⟨h_p0,h_p1,h_p2,h_p3,h_p4,h_p5,h_s0,h_s1,h_s2,h_s3,h_sR,h_x0,h_x1,h_x2,h_rR,h_t0,h_t1,h_t2,h_t3,h_tR,h_B⟩:=hW;go_simp;refine(HRO.out W (log_bl HL.out h_B)).mono ?_;rintro e w9 ⟨rfl,hb⟩;go_wp2_with fail;refine hK.out _ _ ?_ (fun hHeld=>?_);(focus((try dsimp only);exact⟨bl_cell hb h_p0,bl_cell hb h_p1,bl_cell hb h_p2,bl_cell hb h_p3,bl_cell hb h_p4,bl_cell hb h_p5,bl_cell hb h_s0,bl_cell hb h_s1,bl_cell hb h_s2,bl_cell hb h_s3,res_bl h_sR hb,bl_cell hb h_x0,bl_cell hb h_x1,bl_cell hb h_x2,res_bl h_rR hb,bl_cell hb h_t0,bl_cell hb h_t1,bl_cell hb h_t2,bl_cell hb h_t3,res_bl h_tR hb,bl_then h_B hb⟩));clear hK K;clear h_p0 h_p1 h_p2 h_p3 h_p4 h_p5 h_s0 h_s1 h_s2 h_s3 h_sR h_x0 h_x1 h_x2 h_rR h_t0 h_t1 h_t2 h_t3 h_tR h_B;try simp only[Act.put,List.setIfInBounds_toArray,List.set_cons_zero,List.set_cons_succ])
 first|refine tqx 11 ?_|refine tkx 11 ?_
 refine tkx 12 ?_
 refine wpAnyH_done (by kernel_rfl) ?_ _
 refine then_abs (F:=fun w'=>P6 w' (w.heap.size) k l d b cc o (S4 w' (w.heap.size+1) at_ level held a n c (ResB w' (w.heap.size+1)∧X3 w' (w.heap.size+1+1) 4 now cost (ResB w' (w.heap.size+1+1+1)∧S4 w' (w2.heap.size) aat alv held a1 0 c1 (ResB w' (w2.heap.size)∧Below w.heap.size w w'))))) hHeld ?_
 clear hHeld hB p0 p1 p2 p3 p4 p5 s0 s1 s2 s3 sR x0 x1 x2 rR t0 t1 t2 t3 tR
 rintro w5 ⟨p0,p1,p2,p3,p4,p5,s0,s1,s2,s3,sR,x0,x1,x2,rR,t0,t1,t2,t3,tR,hB⟩
 replace lb_p:=lbc p0
 replace lb_s:=lbc s0
 replace lb_x:=lbc x0
 replace lb_t:=lbc t0
 obtain⟨f0,f1,f2,f3,u0,u1,u2,u3,i0,i1,i2,i3⟩:=res_all rR
 go_wp2_with go_step3
 (try simp only[Exit.inBlock,Exit.then,Exit.noGoto_ret])
 refine bodyPost_ret (results_state2 rfl _ _ (by rfl) (set4r (rR))) rfl (sb_same HL.out ⟨rfl,bl4 (hB) (by omega)⟩)
theorem r5do_take (p:Pol) (s:St) (a:Option Addr) (n c:Nat) (now cost:Int) (w:World) (hl:LogAt w a n c s.log) (h:rightG p s) (h1:1≤cost) (h2:cost≤roomG p s now):Calls Tryz.prog 68 #[p.v,s.v a n c,.agg #[.int .i64 1,.int .i64 now,.int .i64 cost]] w (PostSB a n (doG p s ⟨1,now,cost⟩) w):=by
 have hrt:=fun w=>r5right_any p s a n c hl.1 w
 rw[decide_eq_true h] at hrt
 have hav:=fun w hw=>r5adv_any p s a n c now w hw
 unfold PostS at hav
 have hro:=fun w hw=>r5room_any p s a n c now w hw
 rw[(doG_ref (k:=1) h (advG_held p s now h) ⟨by have hz:=advG_level p s now h;omega,(advG_level p s now h).2.2.2⟩).2.2.2.1 h1 h2]
 have hlv:=advG_level p s now h
 have hhd:=advG_held p s now h
 have hlg:=advG_lg (now:=now) h
 have hd:=h.1.2.2.2.2.2.2.1
 have hD:=h.1.2.2.2.2.2.2.2
 have hbm:=h.1.2.2.2.2.2.1
 have hh0:=h.2.2.2.1
 have hh1:=h.2.2.2.2.1
 have hro1:roomG p s now≤p.burst:=by have hz:=(roomG_le (now:=now) (c:=roomG p s now) h).1 (Int.le_refl _);have hy:roomG p s now*p.period≤p.burst*p.period:=(by omega);exact Int.le_of_mul_le_mul_right hy (by omega)
 generalize roomG p s now=RO at *
 generalize advG p s now=A at *
 clear h
 obtain⟨aat,alv,ahd,alg⟩:=A
 obtain⟨k,l,d,b,cc,o⟩:=p
 obtain⟨at_,level,held,L⟩:=s
 unfold St.v Pol.v at *
 dsimp only at *
 subst hlg
 obtain rfl:held=ahd:=hhd.symm
 have h1':¬ cost<1:=by omega
 have hd1:decide (cost<1)=false:=decide_eq_false (h1')
 have hdr:decide (RO<cost)=false:=decide_eq_false (by omega)
 have hdq:decide (cost≤RO)=true:=decide_eq_true (h2)
 have c0:0≤cost*d:=Int.mul_nonneg (by omega) (by omega)
 have c1:cost*d≤1152921504606846976:=prod_le (by omega) (by omega) (by omega)
 have wa1:IntKind.i64.wrap (cost*d)=cost*d:=IntWalk.i64_in _ (by omega)
 have wa2:IntKind.i64.wrap (alv+cost*d)=alv+cost*d:=IntWalk.i64_in _ (by omega)
 have wa3:IntKind.i64.wrap (held+cost)=held+cost:=IntWalk.i64_in _ (by omega)
 clear c0 c1
 have HRT:=Go.Lib.hid hrt
 have HAV:=Go.Lib.hid hav
 have HRO:=Go.Lib.hid hro
 have HL:=Go.Lib.hid hl
 clear hrt hav hro hl
 clear hlv hd hD hbm hh0 hh1 hro1
 go_enter Tryz.func68,Tryz.ntmps68
 go_wp2_with go_step3
 refine(HRT.out _).mono ?_
 rintro e w1 ⟨rfl,hb⟩
 have hx:Below w.heap.size w w1:=bl_then (bl_alloc (bl_alloc (bl_alloc (bl_alloc (bl_refl _) _) _) _) _) hb
 have hsz1:w.heap.size+4≤w1.heap.size:=szl hb
 obtain⟨p0,p1,p2,p3,p4,p5⟩:=b6 (w.heap.size) k l d b cc o hb
 obtain⟨s0,s1,s2,s3⟩:=b4 (w.heap.size+1) at_ level held a n c hb
 have sR:=res_bl (b:=w.heap.size+1) (res_bl (res_bl (res_new _ _ _ _ _ _ (by simp)) (bl_alloc (bl_refl _) _)) (bl_alloc (bl_refl _) _)) hb
 obtain⟨x0,x1,x2⟩:=b3 (w.heap.size+1+1) 1 now cost hb
 have rR:=res_bl (b:=w.heap.size+1+1+1) (res_new _ _ _ _ _ _ (by simp)) hb
 have hB:Below w.heap.size w w1:=hx
 have lb_p:=lbc p0
 have lb_s:=lbc s0
 have lb_x:=lbc x0
 clear hb hx
 go_wp2_with go_step3
 refine(HAV.out _ (log_bl HL.out (hB))).mono ?_
 rintro e w2 ⟨a1,n1,c1,rfl,hl1,-,hb⟩
 have hsz2:w1.heap.size+0≤w2.heap.size:=szl hb
 replace p0:=bl_cell hb p0
 replace p1:=bl_cell hb p1
 replace p2:=bl_cell hb p2
 replace p3:=bl_cell hb p3
 replace p4:=bl_cell hb p4
 replace p5:=bl_cell hb p5
 replace s0:=bl_cell hb s0
 replace s1:=bl_cell hb s1
 replace s2:=bl_cell hb s2
 replace s3:=bl_cell hb s3
 replace sR:=res_bl sR hb
 replace x0:=bl_cell hb x0
 replace x1:=bl_cell hb x1
 replace x2:=bl_cell hb x2
 replace rR:=res_bl rR hb
 replace hB:Below w.heap.size w w2:=bl_then hB hb
 replace lb_p:=lbc p0
 replace lb_s:=lbc s0
 replace lb_x:=lbc x0
 clear hb
 have hn1:n1=0:=hl1.1.symm
 subst hn1
 have hc1:=hl1.2.2.1
 clear hl1
 go_wp2_with go_step3
 skip
 refine wp_abs (S0:=fun X=>(fun w'=>P6 w' (w.heap.size) k l d b cc o (S4 w' (w.heap.size+1) at_ level held a n c (ResB w' (w.heap.size+1)∧X3 w' (w.heap.size+1+1) 1 now cost (ResB w' (w.heap.size+1+1+1)∧S4 w' (w2.heap.size) aat alv held a1 0 c1 (ResB w' (w2.heap.size)∧Below w.heap.size w w'))))) X∧w2.heap.size+1≤X.heap.size) ⟨⟨bl_cell (bl_alloc (bl_refl _) _) p0,bl_cell (bl_alloc (bl_refl _) _) p1,bl_cell (bl_alloc (bl_refl _) _) p2,bl_cell (bl_alloc (bl_refl _) _) p3,bl_cell (bl_alloc (bl_refl _) _) p4,bl_cell (bl_alloc (bl_refl _) _) p5,bl_cell (bl_alloc (bl_refl _) _) s0,bl_cell (bl_alloc (bl_refl _) _) s1,bl_cell (bl_alloc (bl_refl _) _) s2,bl_cell (bl_alloc (bl_refl _) _) s3,res_bl sR (bl_alloc (bl_refl _) _),bl_cell (bl_alloc (bl_refl _) _) x0,bl_cell (bl_alloc (bl_refl _) _) x1,bl_cell (bl_alloc (bl_refl _) _) x2,res_bl rR (bl_alloc (bl_refl _) _),by go_simp,by go_simp,by go_simp,by go_simp,res_new _ _ _ _ _ _ (by simp),bl_alloc (hB) _⟩,by simp⟩ ?_
 clear p0 p1 p2 p3 p4 p5 s0 s1 s2 s3 sR x0 x1 x2 rR hB
 rintro w3 ⟨⟨p0,p1,p2,p3,p4,p5,s0,s1,s2,s3,sR,x0,x1,x2,rR,t0,t1,t2,t3,tR,hB⟩,hsz3⟩
 replace lb_p:=lbc p0
 replace lb_s:=lbc s0
 replace lb_x:=lbc x0
 have lb_t:=lbc t0
 refine wp_region_held_drew (S:=fun w'=>P6 w' (w.heap.size) k l d b cc o (S4 w' (w.heap.size+1) at_ level held a n c (ResB w' (w.heap.size+1)∧X3 w' (w.heap.size+1+1) 1 now cost (ResB w' (w.heap.size+1+1+1)∧S4 w' (w2.heap.size) aat alv held a1 0 c1 (ResB w' (w2.heap.size)∧Below w.heap.size w w'))))) (by kernel_rfl) ?_ (fun hHeld=>?_)
 ·exact⟨p0,p1,p2,p3,p4,p5,s0,s1,s2,s3,sR,x0,x1,x2,rR,t0,t1,t2,t3,tR,bl_drew hB⟩
 try simp only[Act.put,List.setIfInBounds_toArray,List.set_cons_zero,List.set_cons_succ]
 refine tkx 0 ?_
 refine tkx 1 ?_
 refine tkx 2 ?_
 refine tkx 3 ?_
 first|refine tqx 4 ?_|refine tkx 4 ?_
 first|refine tqx 5 ?_|refine tkx 5 ?_
 first|refine tqx 6 ?_|refine tkx 6 ?_
 first|refine tqx 7 ?_|refine tkx 7 ?_
 first|refine tqx 8 ?_|refine tkx 8 ?_
 first|refine tqx 9 ?_|refine tkx 9 ?_
 first|(refine tqx 10 ?_)|(refine callH (i:=10) rfl hHeld (fun W hW K hK=>?_);clear hHeld;(try dsimp only at hW);obtain⟨h_p0,h_p1,h_p2,h_p3,h_p4,h_p5,h_s0,h_s1,h_s2,h_s3,h_sR,h_x0,h_x1,h_x2,h_rR,h_t0,h_t1,h_t2,h_t3,h_tR,h_B⟩:=hW;go_simp;refine(HRO.out W (log_bl HL.out h_B)).mono ?_;rintro e w9 ⟨rfl,hb⟩;go_wp2_with fail;refine hK.out _ _ ?_ (fun hHeld=>?_);(focus((try dsimp only);exact⟨bl_cell hb h_p0,bl_cell hb h_p1,bl_cell hb h_p2,bl_cell hb h_p3,bl_cell hb h_p4,bl_cell hb h_p5,bl_cell hb h_s0,bl_cell hb h_s1,bl_cell hb h_s2,bl_cell hb h_s3,res_bl h_sR hb,bl_cell hb h_x0,bl_cell hb h_x1,bl_cell hb h_x2,res_bl h_rR hb,bl_cell hb h_t0,bl_cell hb h_t1,bl_cell hb h_t2,bl_cell hb h_t3,res_bl h_tR hb,bl_then h_B hb⟩));clear hK K;clear h_p0 h_p1 h_p2 h_p3 h_p4 h_p5 h_s0 h_s1 h_s2 h_s3 h_sR h_x0 h_x1 h_x2 h_rR h_t0 h_t1 h_t2 h_t3 h_tR h_B;try simp only[Act.put,List.setIfInBounds_toArray,List.set_cons_zero,List.set_cons_succ])
 first|refine tqx 11 ?_|refine tkx 11 ?_
 refine tkx 12 ?_
 refine wpAnyH_done (by kernel_rfl) ?_ _
 refine then_abs (F:=fun w'=>P6 w' (w.heap.size) k l d b cc o (S4 w' (w.heap.size+1) at_ level held a n c (ResB w' (w.heap.size+1)∧X3 w' (w.heap.size+1+1) 1 now cost (ResB w' (w.heap.size+1+1+1)∧S4 w' (w2.heap.size) aat alv held a1 0 c1 (ResB w' (w2.heap.size)∧Below w.heap.size w w'))))) hHeld ?_
 clear hHeld hB p0 p1 p2 p3 p4 p5 s0 s1 s2 s3 sR x0 x1 x2 rR t0 t1 t2 t3 tR
 rintro w4 ⟨p0,p1,p2,p3,p4,p5,s0,s1,s2,s3,sR,x0,x1,x2,rR,t0,t1,t2,t3,tR,hB⟩
 replace lb_p:=lbc p0
 replace lb_s:=lbc s0
 replace lb_x:=lbc x0
 replace lb_t:=lbc t0
 obtain⟨f0,f1,f2,f3,u0,u1,u2,u3,i0,i1,i2,i3⟩:=res_all rR
 obtain⟨ft0,ft1,ft2,ft3,ut0,ut1,ut2,ut3,it0,it1,it2,it3⟩:=res_all tR
 have ltT:=res_lt tR
 go_wp2_with go_step3
 (try simp only[Exit.inBlock,Exit.then,Exit.noGoto_ret])
 refine bodyPost_ret (results_state2 rfl _ _ (by rfl) (set4r (res_set (rR) _ _))) rfl (sb_nil hc1 (bl4 (bl_set (hB) (by dsimp only;omega) _) (by omega)))
theorem r5do_hold (p:Pol) (s:St) (a:Option Addr) (n c:Nat) (now cost:Int) (w:World) (hl:LogAt w a n c s.log) (h:rightG p s) (h1:1≤cost) (h2:cost≤roomG p s now):Calls Tryz.prog 68 #[p.v,s.v a n c,.agg #[.int .i64 2,.int .i64 now,.int .i64 cost]] w (PostSB a n (doG p s ⟨2,now,cost⟩) w):=by
 have hrt:=fun w=>r5right_any p s a n c hl.1 w
 rw[decide_eq_true h] at hrt
 have hav:=fun w hw=>r5adv_any p s a n c now w hw
 unfold PostS at hav
 have hro:=fun w hw=>r5room_any p s a n c now w hw
 rw[(doG_ref (k:=2) h (advG_held p s now h) ⟨by have hz:=advG_level p s now h;omega,(advG_level p s now h).2.2.2⟩).2.2.2.2.1 h1 h2]
 have hlv:=advG_level p s now h
 have hhd:=advG_held p s now h
 have hlg:=advG_lg (now:=now) h
 have hd:=h.1.2.2.2.2.2.2.1
 have hD:=h.1.2.2.2.2.2.2.2
 have hbm:=h.1.2.2.2.2.2.1
 have hh0:=h.2.2.2.1
 have hh1:=h.2.2.2.2.1
 have hro1:roomG p s now≤p.burst:=by have hz:=(roomG_le (now:=now) (c:=roomG p s now) h).1 (Int.le_refl _);have hy:roomG p s now*p.period≤p.burst*p.period:=(by omega);exact Int.le_of_mul_le_mul_right hy (by omega)
 generalize roomG p s now=RO at *
 generalize advG p s now=A at *
 clear h
 obtain⟨aat,alv,ahd,alg⟩:=A
 obtain⟨k,l,d,b,cc,o⟩:=p
 obtain⟨at_,level,held,L⟩:=s
 unfold St.v Pol.v at *
 dsimp only at *
 subst hlg
 obtain rfl:held=ahd:=hhd.symm
 have h1':¬ cost<1:=by omega
 have hd1:decide (cost<1)=false:=decide_eq_false (h1')
 have hdr:decide (RO<cost)=false:=decide_eq_false (by omega)
 have hdq:decide (cost≤RO)=true:=decide_eq_true (h2)
 have c0:0≤cost*d:=Int.mul_nonneg (by omega) (by omega)
 have c1:cost*d≤1152921504606846976:=prod_le (by omega) (by omega) (by omega)
 have wa1:IntKind.i64.wrap (cost*d)=cost*d:=IntWalk.i64_in _ (by omega)
 have wa2:IntKind.i64.wrap (alv+cost*d)=alv+cost*d:=IntWalk.i64_in _ (by omega)
 have wa3:IntKind.i64.wrap (held+cost)=held+cost:=IntWalk.i64_in _ (by omega)
 clear c0 c1
 have HRT:=Go.Lib.hid hrt
 have HAV:=Go.Lib.hid hav
 have HRO:=Go.Lib.hid hro
 have HL:=Go.Lib.hid hl
 clear hrt hav hro hl
 clear hlv hd hD hbm hh0 hh1 hro1
 go_enter Tryz.func68,Tryz.ntmps68
 go_wp2_with go_step3
 refine(HRT.out _).mono ?_
 rintro e w1 ⟨rfl,hb⟩
 have hx:Below w.heap.size w w1:=bl_then (bl_alloc (bl_alloc (bl_alloc (bl_alloc (bl_refl _) _) _) _) _) hb
 have hsz1:w.heap.size+4≤w1.heap.size:=szl hb
 obtain⟨p0,p1,p2,p3,p4,p5⟩:=b6 (w.heap.size) k l d b cc o hb
 obtain⟨s0,s1,s2,s3⟩:=b4 (w.heap.size+1) at_ level held a n c hb
 have sR:=res_bl (b:=w.heap.size+1) (res_bl (res_bl (res_new _ _ _ _ _ _ (by simp)) (bl_alloc (bl_refl _) _)) (bl_alloc (bl_refl _) _)) hb
 obtain⟨x0,x1,x2⟩:=b3 (w.heap.size+1+1) 2 now cost hb
 have rR:=res_bl (b:=w.heap.size+1+1+1) (res_new _ _ _ _ _ _ (by simp)) hb
 have hB:Below w.heap.size w w1:=hx
 have lb_p:=lbc p0
 have lb_s:=lbc s0
 have lb_x:=lbc x0
 clear hb hx
 go_wp2_with go_step3
 refine(HAV.out _ (log_bl HL.out (hB))).mono ?_
 rintro e w2 ⟨a1,n1,c1,rfl,hl1,-,hb⟩
 have hsz2:w1.heap.size+0≤w2.heap.size:=szl hb
 replace p0:=bl_cell hb p0
 replace p1:=bl_cell hb p1
 replace p2:=bl_cell hb p2
 replace p3:=bl_cell hb p3
 replace p4:=bl_cell hb p4
 replace p5:=bl_cell hb p5
 replace s0:=bl_cell hb s0
 replace s1:=bl_cell hb s1
 replace s2:=bl_cell hb s2
 replace s3:=bl_cell hb s3
 replace sR:=res_bl sR hb
 replace x0:=bl_cell hb x0
 replace x1:=bl_cell hb x1
 replace x2:=bl_cell hb x2
 replace rR:=res_bl rR hb
 replace hB:Below w.heap.size w w2:=bl_then hB hb
 replace lb_p:=lbc p0
 replace lb_s:=lbc s0
 replace lb_x:=lbc x0
 clear hb
 have hn1:n1=0:=hl1.1.symm
 subst hn1
 have hc1:=hl1.2.2.1
 clear hl1
 go_wp2_with go_step3
 skip
 refine wp_abs (S0:=fun X=>(fun w'=>P6 w' (w.heap.size) k l d b cc o (S4 w' (w.heap.size+1) at_ level held a n c (ResB w' (w.heap.size+1)∧X3 w' (w.heap.size+1+1) 2 now cost (ResB w' (w.heap.size+1+1+1)∧S4 w' (w2.heap.size) aat alv held a1 0 c1 (ResB w' (w2.heap.size)∧Below w.heap.size w w'))))) X∧w2.heap.size+1≤X.heap.size) ⟨⟨bl_cell (bl_alloc (bl_refl _) _) p0,bl_cell (bl_alloc (bl_refl _) _) p1,bl_cell (bl_alloc (bl_refl _) _) p2,bl_cell (bl_alloc (bl_refl _) _) p3,bl_cell (bl_alloc (bl_refl _) _) p4,bl_cell (bl_alloc (bl_refl _) _) p5,bl_cell (bl_alloc (bl_refl _) _) s0,bl_cell (bl_alloc (bl_refl _) _) s1,bl_cell (bl_alloc (bl_refl _) _) s2,bl_cell (bl_alloc (bl_refl _) _) s3,res_bl sR (bl_alloc (bl_refl _) _),bl_cell (bl_alloc (bl_refl _) _) x0,bl_cell (bl_alloc (bl_refl _) _) x1,bl_cell (bl_alloc (bl_refl _) _) x2,res_bl rR (bl_alloc (bl_refl _) _),by go_simp,by go_simp,by go_simp,by go_simp,res_new _ _ _ _ _ _ (by simp),bl_alloc (hB) _⟩,by simp⟩ ?_
 clear p0 p1 p2 p3 p4 p5 s0 s1 s2 s3 sR x0 x1 x2 rR hB
 rintro w3 ⟨⟨p0,p1,p2,p3,p4,p5,s0,s1,s2,s3,sR,x0,x1,x2,rR,t0,t1,t2,t3,tR,hB⟩,hsz3⟩
 replace lb_p:=lbc p0
 replace lb_s:=lbc s0
 replace lb_x:=lbc x0
 have lb_t:=lbc t0
 refine wp_region_held_drew (S:=fun w'=>P6 w' (w.heap.size) k l d b cc o (S4 w' (w.heap.size+1) at_ level held a n c (ResB w' (w.heap.size+1)∧X3 w' (w.heap.size+1+1) 2 now cost (ResB w' (w.heap.size+1+1+1)∧S4 w' (w2.heap.size) aat alv held a1 0 c1 (ResB w' (w2.heap.size)∧Below w.heap.size w w'))))) (by kernel_rfl) ?_ (fun hHeld=>?_)
 ·exact⟨p0,p1,p2,p3,p4,p5,s0,s1,s2,s3,sR,x0,x1,x2,rR,t0,t1,t2,t3,tR,bl_drew hB⟩
 try simp only[Act.put,List.setIfInBounds_toArray,List.set_cons_zero,List.set_cons_succ]
 refine tkx 0 ?_
 refine tkx 1 ?_
 refine tkx 2 ?_
 refine tkx 3 ?_
 first|refine tqx 4 ?_|refine tkx 4 ?_
 first|refine tqx 5 ?_|refine tkx 5 ?_
 first|refine tqx 6 ?_|refine tkx 6 ?_
 first|refine tqx 7 ?_|refine tkx 7 ?_
 first|refine tqx 8 ?_|refine tkx 8 ?_
 first|refine tqx 9 ?_|refine tkx 9 ?_
 first|(refine tqx 10 ?_)|(refine callH (i:=10) rfl hHeld (fun W hW K hK=>?_);clear hHeld;(try dsimp only at hW);obtain⟨h_p0,h_p1,h_p2,h_p3,h_p4,h_p5,h_s0,h_s1,h_s2,h_s3,h_sR,h_x0,h_x1,h_x2,h_rR,h_t0,h_t1,h_t2,h_t3,h_tR,h_B⟩:=hW;go_simp;refine(HRO.out W (log_bl HL.out h_B)).mono ?_;rintro e w9 ⟨rfl,hb⟩;go_wp2_with fail;refine hK.out _ _ ?_ (fun hHeld=>?_);(focus((try dsimp only);exact⟨bl_cell hb h_p0,bl_cell hb h_p1,bl_cell hb h_p2,bl_cell hb h_p3,bl_cell hb h_p4,bl_cell hb h_p5,bl_cell hb h_s0,bl_cell hb h_s1,bl_cell hb h_s2,bl_cell hb h_s3,res_bl h_sR hb,bl_cell hb h_x0,bl_cell hb h_x1,bl_cell hb h_x2,res_bl h_rR hb,bl_cell hb h_t0,bl_cell hb h_t1,bl_cell hb h_t2,bl_cell hb h_t3,res_bl h_tR hb,bl_then h_B hb⟩));clear hK K;clear h_p0 h_p1 h_p2 h_p3 h_p4 h_p5 h_s0 h_s1 h_s2 h_s3 h_sR h_x0 h_x1 h_x2 h_rR h_t0 h_t1 h_t2 h_t3 h_tR h_B;try simp only[Act.put,List.setIfInBounds_toArray,List.set_cons_zero,List.set_cons_succ])
 first|refine tqx 11 ?_|refine tkx 11 ?_
 refine tkx 12 ?_
 refine wpAnyH_done (by kernel_rfl) ?_ _
 refine then_abs (F:=fun w'=>P6 w' (w.heap.size) k l d b cc o (S4 w' (w.heap.size+1) at_ level held a n c (ResB w' (w.heap.size+1)∧X3 w' (w.heap.size+1+1) 2 now cost (ResB w' (w.heap.size+1+1+1)∧S4 w' (w2.heap.size) aat alv held a1 0 c1 (ResB w' (w2.heap.size)∧Below w.heap.size w w'))))) hHeld ?_
 clear hHeld hB p0 p1 p2 p3 p4 p5 s0 s1 s2 s3 sR x0 x1 x2 rR t0 t1 t2 t3 tR
 rintro w4 ⟨p0,p1,p2,p3,p4,p5,s0,s1,s2,s3,sR,x0,x1,x2,rR,t0,t1,t2,t3,tR,hB⟩
 replace lb_p:=lbc p0
 replace lb_s:=lbc s0
 replace lb_x:=lbc x0
 replace lb_t:=lbc t0
 go_wp2_with go_step3
 refine wp_region_held_drew (S:=fun w'=>P6 w' (w.heap.size) k l d b cc o (S4 w' (w.heap.size+1) at_ level held a n c (ResB w' (w.heap.size+1)∧X3 w' (w.heap.size+1+1) 2 now cost (ResB w' (w.heap.size+1+1+1)∧S4 w' (w2.heap.size) aat alv held a1 0 c1 (ResB w' (w2.heap.size)∧Below w.heap.size w w'))))) (by kernel_rfl) ?_ (fun hHeld=>?_)
 ·exact⟨p0,p1,p2,p3,p4,p5,s0,s1,s2,s3,sR,x0,x1,x2,rR,t0,t1,t2,t3,tR,bl_drew hB⟩
 try simp only[Act.put,List.setIfInBounds_toArray,List.set_cons_zero,List.set_cons_succ]
 refine tkx 0 ?_
 refine tkx 1 ?_
 refine tkx 2 ?_
 refine tkx 3 ?_
 first|refine tqx 4 ?_|refine tkx 4 ?_
 first|refine tqx 5 ?_|refine tkx 5 ?_
 first|refine tqx 6 ?_|refine tkx 6 ?_
 first|refine tqx 7 ?_|refine tkx 7 ?_
 first|refine tqx 8 ?_|refine tkx 8 ?_
 first|refine tqx 9 ?_|refine tkx 9 ?_
 first|(refine tqx 10 ?_)|(refine callH (i:=10) rfl hHeld (fun W hW K hK=>?_);clear hHeld;(try dsimp only at hW);obtain⟨h_p0,h_p1,h_p2,h_p3,h_p4,h_p5,h_s0,h_s1,h_s2,h_s3,h_sR,h_x0,h_x1,h_x2,h_rR,h_t0,h_t1,h_t2,h_t3,h_tR,h_B⟩:=hW;go_simp;refine(HRO.out W (log_bl HL.out h_B)).mono ?_;rintro e w9 ⟨rfl,hb⟩;go_wp2_with fail;refine hK.out _ _ ?_ (fun hHeld=>?_);(focus((try dsimp only);exact⟨bl_cell hb h_p0,bl_cell hb h_p1,bl_cell hb h_p2,bl_cell hb h_p3,bl_cell hb h_p4,bl_cell hb h_p5,bl_cell hb h_s0,bl_cell hb h_s1,bl_cell hb h_s2,bl_cell hb h_s3,res_bl h_sR hb,bl_cell hb h_x0,bl_cell hb h_x1,bl_cell hb h_x2,res_bl h_rR hb,bl_cell hb h_t0,bl_cell hb h_t1,bl_cell hb h_t2,bl_cell hb h_t3,res_bl h_tR hb,bl_then h_B hb⟩));clear hK K;clear h_p0 h_p1 h_p2 h_p3 h_p4 h_p5 h_s0 h_s1 h_s2 h_s3 h_sR h_x0 h_x1 h_x2 h_rR h_t0 h_t1 h_t2 h_t3 h_tR h_B;try simp only[Act.put,List.setIfInBounds_toArray,List.set_cons_zero,List.set_cons_succ])
 first|refine tqx 11 ?_|refine tkx 11 ?_
 refine tkx 12 ?_
 refine wpAnyH_done (by kernel_rfl) ?_ _
 refine then_abs (F:=fun w'=>P6 w' (w.heap.size) k l d b cc o (S4 w' (w.heap.size+1) at_ level held a n c (ResB w' (w.heap.size+1)∧X3 w' (w.heap.size+1+1) 2 now cost (ResB w' (w.heap.size+1+1+1)∧S4 w' (w2.heap.size) aat alv held a1 0 c1 (ResB w' (w2.heap.size)∧Below w.heap.size w w'))))) hHeld ?_
 clear hHeld hB p0 p1 p2 p3 p4 p5 s0 s1 s2 s3 sR x0 x1 x2 rR t0 t1 t2 t3 tR
 rintro w5 ⟨p0,p1,p2,p3,p4,p5,s0,s1,s2,s3,sR,x0,x1,x2,rR,t0,t1,t2,t3,tR,hB⟩
 replace lb_p:=lbc p0
 replace lb_s:=lbc s0
 replace lb_x:=lbc x0
 replace lb_t:=lbc t0
 obtain⟨f0,f1,f2,f3,u0,u1,u2,u3,i0,i1,i2,i3⟩:=res_all rR
 obtain⟨ft0,ft1,ft2,ft3,ut0,ut1,ut2,ut3,it0,it1,it2,it3⟩:=res_all tR
 have ltT:=res_lt tR
 go_wp2_with go_step3
 (try simp only[Exit.inBlock,Exit.then,Exit.noGoto_ret])
 refine bodyPost_ret (results_state2 rfl _ _ (by rfl) (set4r (res_set (res_set (rR) _ _) _ _))) rfl (sb_nil hc1 (bl4 (bl_set (bl_set (hB) (by dsimp only;omega) _) (by dsimp only;omega) _) (by omega)))
theorem r5do_release (p:Pol) (s:St) (a:Option Addr) (n c:Nat) (now cost:Int) (w:World) (hl:LogAt w a n c s.log) (h:rightG p s) (h1:1≤cost) (h2:cost≤s.held):Calls Tryz.prog 68 #[p.v,s.v a n c,.agg #[.int .i64 3,.int .i64 now,.int .i64 cost]] w (PostSB a n (doG p s ⟨3,now,cost⟩) w):=by
 have hrt:=fun w=>r5right_any p s a n c hl.1 w
 rw[decide_eq_true h] at hrt
 have hav:=fun w hw=>r5adv_any p s a n c now w hw
 unfold PostS at hav
 have hro:=fun w hw=>r5room_any p s a n c now w hw
 rw[(doG_ref (k:=3) h (advG_held p s now h) ⟨by have hz:=advG_level p s now h;omega,(advG_level p s now h).2.2.2⟩).2.2.2.2.2.1 h1 h2]
 have hlv:=advG_level p s now h
 have hhd:=advG_held p s now h
 have hlg:=advG_lg (now:=now) h
 have hd:=h.1.2.2.2.2.2.2.1
 have hD:=h.1.2.2.2.2.2.2.2
 have hbm:=h.1.2.2.2.2.2.1
 have hh0:=h.2.2.2.1
 have hh1:=h.2.2.2.2.1
 have hro1:roomG p s now≤p.burst:=by have hz:=(roomG_le (now:=now) (c:=roomG p s now) h).1 (Int.le_refl _);have hy:roomG p s now*p.period≤p.burst*p.period:=(by omega);exact Int.le_of_mul_le_mul_right hy (by omega)
 generalize roomG p s now=RO at *
 generalize advG p s now=A at *
 clear h
 obtain⟨aat,alv,ahd,alg⟩:=A
 obtain⟨k,l,d,b,cc,o⟩:=p
 obtain⟨at_,level,held,L⟩:=s
 unfold St.v Pol.v at *
 dsimp only at *
 subst hlg
 obtain rfl:held=ahd:=hhd.symm
 have h1':¬ cost<1:=by omega
 have hd1:decide (cost<1)=false:=decide_eq_false (h1')
 have hdr:decide (held<cost)=false:=decide_eq_false (by omega)
 have hdq:decide (cost≤held)=true:=decide_eq_true (h2)
 have c0:0≤cost*d:=Int.mul_nonneg (by omega) (by omega)
 have c1:cost*d≤1152921504606846976:=prod_le (by omega) (by omega) (by omega)
 have wa1:IntKind.i64.wrap (cost*d)=cost*d:=IntWalk.i64_in _ (by omega)
 have wa2:IntKind.i64.wrap (alv - cost*d)=alv - cost*d:=IntWalk.i64_in _ (by omega)
 have wa3:IntKind.i64.wrap (held - cost)=held - cost:=IntWalk.i64_in _ (by omega)
 clear c0 c1
 have HRT:=Go.Lib.hid hrt
 have HAV:=Go.Lib.hid hav
 have HRO:=Go.Lib.hid hro
 have HL:=Go.Lib.hid hl
 clear hrt hav hro hl
 clear hlv hd hD hbm hh0 hh1 hro1
 go_enter Tryz.func68,Tryz.ntmps68
 go_wp2_with go_step3
 refine(HRT.out _).mono ?_
 rintro e w1 ⟨rfl,hb⟩
 have hx:Below w.heap.size w w1:=bl_then (bl_alloc (bl_alloc (bl_alloc (bl_alloc (bl_refl _) _) _) _) _) hb
 have hsz1:w.heap.size+4≤w1.heap.size:=szl hb
 obtain⟨p0,p1,p2,p3,p4,p5⟩:=b6 (w.heap.size) k l d b cc o hb
 obtain⟨s0,s1,s2,s3⟩:=b4 (w.heap.size+1) at_ level held a n c hb
 have sR:=res_bl (b:=w.heap.size+1) (res_bl (res_bl (res_new _ _ _ _ _ _ (by simp)) (bl_alloc (bl_refl _) _)) (bl_alloc (bl_refl _) _)) hb
 obtain⟨x0,x1,x2⟩:=b3 (w.heap.size+1+1) 3 now cost hb
 have rR:=res_bl (b:=w.heap.size+1+1+1) (res_new _ _ _ _ _ _ (by simp)) hb
 have hB:Below w.heap.size w w1:=hx
 have lb_p:=lbc p0
 have lb_s:=lbc s0
 have lb_x:=lbc x0
 clear hb hx
 go_wp2_with go_step3
 refine(HAV.out _ (log_bl HL.out (hB))).mono ?_
 rintro e w2 ⟨a1,n1,c1,rfl,hl1,-,hb⟩
 have hsz2:w1.heap.size+0≤w2.heap.size:=szl hb
 replace p0:=bl_cell hb p0
 replace p1:=bl_cell hb p1
 replace p2:=bl_cell hb p2
 replace p3:=bl_cell hb p3
 replace p4:=bl_cell hb p4
 replace p5:=bl_cell hb p5
 replace s0:=bl_cell hb s0
 replace s1:=bl_cell hb s1
 replace s2:=bl_cell hb s2
 replace s3:=bl_cell hb s3
 replace sR:=res_bl sR hb
 replace x0:=bl_cell hb x0
 replace x1:=bl_cell hb x1
 replace x2:=bl_cell hb x2
 replace rR:=res_bl rR hb
 replace hB:Below w.heap.size w w2:=bl_then hB hb
 replace lb_p:=lbc p0
 replace lb_s:=lbc s0
 replace lb_x:=lbc x0
 clear hb
 have hn1:n1=0:=hl1.1.symm
 subst hn1
 have hc1:=hl1.2.2.1
 clear hl1
 go_wp2_with go_step3
 skip
 refine wp_abs (S0:=fun X=>(fun w'=>P6 w' (w.heap.size) k l d b cc o (S4 w' (w.heap.size+1) at_ level held a n c (ResB w' (w.heap.size+1)∧X3 w' (w.heap.size+1+1) 3 now cost (ResB w' (w.heap.size+1+1+1)∧S4 w' (w2.heap.size) aat alv held a1 0 c1 (ResB w' (w2.heap.size)∧Below w.heap.size w w'))))) X∧w2.heap.size+1≤X.heap.size) ⟨⟨bl_cell (bl_alloc (bl_refl _) _) p0,bl_cell (bl_alloc (bl_refl _) _) p1,bl_cell (bl_alloc (bl_refl _) _) p2,bl_cell (bl_alloc (bl_refl _) _) p3,bl_cell (bl_alloc (bl_refl _) _) p4,bl_cell (bl_alloc (bl_refl _) _) p5,bl_cell (bl_alloc (bl_refl _) _) s0,bl_cell (bl_alloc (bl_refl _) _) s1,bl_cell (bl_alloc (bl_refl _) _) s2,bl_cell (bl_alloc (bl_refl _) _) s3,res_bl sR (bl_alloc (bl_refl _) _),bl_cell (bl_alloc (bl_refl _) _) x0,bl_cell (bl_alloc (bl_refl _) _) x1,bl_cell (bl_alloc (bl_refl _) _) x2,res_bl rR (bl_alloc (bl_refl _) _),by go_simp,by go_simp,by go_simp,by go_simp,res_new _ _ _ _ _ _ (by simp),bl_alloc (hB) _⟩,by simp⟩ ?_
 clear p0 p1 p2 p3 p4 p5 s0 s1 s2 s3 sR x0 x1 x2 rR hB
 rintro w3 ⟨⟨p0,p1,p2,p3,p4,p5,s0,s1,s2,s3,sR,x0,x1,x2,rR,t0,t1,t2,t3,tR,hB⟩,hsz3⟩
 replace lb_p:=lbc p0
 replace lb_s:=lbc s0
 replace lb_x:=lbc x0
 have lb_t:=lbc t0
 refine wp_region_held_drew (S:=fun w'=>P6 w' (w.heap.size) k l d b cc o (S4 w' (w.heap.size+1) at_ level held a n c (ResB w' (w.heap.size+1)∧X3 w' (w.heap.size+1+1) 3 now cost (ResB w' (w.heap.size+1+1+1)∧S4 w' (w2.heap.size) aat alv held a1 0 c1 (ResB w' (w2.heap.size)∧Below w.heap.size w w'))))) (by kernel_rfl) ?_ (fun hHeld=>?_)
 ·exact⟨p0,p1,p2,p3,p4,p5,s0,s1,s2,s3,sR,x0,x1,x2,rR,t0,t1,t2,t3,tR,bl_drew hB⟩
 try simp only[Act.put,List.setIfInBounds_toArray,List.set_cons_zero,List.set_cons_succ]
 refine tkx 0 ?_
 refine tkx 1 ?_
 refine tkx 2 ?_
 refine tkx 3 ?_
 first|refine tqx 4 ?_|refine tkx 4 ?_
 first|refine tqx 5 ?_|refine tkx 5 ?_
 first|refine tqx 6 ?_|refine tkx 6 ?_
 first|refine tqx 7 ?_|refine tkx 7 ?_
 first|refine tqx 8 ?_|refine tkx 8 ?_
 first|refine tqx 9 ?_|refine tkx 9 ?_
 first|(refine tqx 10 ?_)|(refine callH (i:=10) rfl hHeld (fun W hW K hK=>?_);clear hHeld;(try dsimp only at hW);obtain⟨h_p0,h_p1,h_p2,h_p3,h_p4,h_p5,h_s0,h_s1,h_s2,h_s3,h_sR,h_x0,h_x1,h_x2,h_rR,h_t0,h_t1,h_t2,h_t3,h_tR,h_B⟩:=hW;go_simp;refine(HRO.out W (log_bl HL.out h_B)).mono ?_;rintro e w9 ⟨rfl,hb⟩;go_wp2_with fail;refine hK.out _ _ ?_ (fun hHeld=>?_);(focus((try dsimp only);exact⟨bl_cell hb h_p0,bl_cell hb h_p1,bl_cell hb h_p2,bl_cell hb h_p3,bl_cell hb h_p4,bl_cell hb h_p5,bl_cell hb h_s0,bl_cell hb h_s1,bl_cell hb h_s2,bl_cell hb h_s3,res_bl h_sR hb,bl_cell hb h_x0,bl_cell hb h_x1,bl_cell hb h_x2,res_bl h_rR hb,bl_cell hb h_t0,bl_cell hb h_t1,bl_cell hb h_t2,bl_cell hb h_t3,res_bl h_tR hb,bl_then h_B hb⟩));clear hK K;clear h_p0 h_p1 h_p2 h_p3 h_p4 h_p5 h_s0 h_s1 h_s2 h_s3 h_sR h_x0 h_x1 h_x2 h_rR h_t0 h_t1 h_t2 h_t3 h_tR h_B;try simp only[Act.put,List.setIfInBounds_toArray,List.set_cons_zero,List.set_cons_succ])
 first|refine tqx 11 ?_|refine tkx 11 ?_
 refine tkx 12 ?_
 refine wpAnyH_done (by kernel_rfl) ?_ _
 refine then_abs (F:=fun w'=>P6 w' (w.heap.size) k l d b cc o (S4 w' (w.heap.size+1) at_ level held a n c (ResB w' (w.heap.size+1)∧X3 w' (w.heap.size+1+1) 3 now cost (ResB w' (w.heap.size+1+1+1)∧S4 w' (w2.heap.size) aat alv held a1 0 c1 (ResB w' (w2.heap.size)∧Below w.heap.size w w'))))) hHeld ?_
 clear hHeld hB p0 p1 p2 p3 p4 p5 s0 s1 s2 s3 sR x0 x1 x2 rR t0 t1 t2 t3 tR
 rintro w4 ⟨p0,p1,p2,p3,p4,p5,s0,s1,s2,s3,sR,x0,x1,x2,rR,t0,t1,t2,t3,tR,hB⟩
 replace lb_p:=lbc p0
 replace lb_s:=lbc s0
 replace lb_x:=lbc x0
 replace lb_t:=lbc t0
 go_wp2_with go_step3
 refine wp_region_held_drew (S:=fun w'=>P6 w' (w.heap.size) k l d b cc o (S4 w' (w.heap.size+1) at_ level held a n c (ResB w' (w.heap.size+1)∧X3 w' (w.heap.size+1+1) 3 now cost (ResB w' (w.heap.size+1+1+1)∧S4 w' (w2.heap.size) aat alv held a1 0 c1 (ResB w' (w2.heap.size)∧Below w.heap.size w w'))))) (by kernel_rfl) ?_ (fun hHeld=>?_)
 ·exact⟨p0,p1,p2,p3,p4,p5,s0,s1,s2,s3,sR,x0,x1,x2,rR,t0,t1,t2,t3,tR,bl_drew hB⟩
 try simp only[Act.put,List.setIfInBounds_toArray,List.set_cons_zero,List.set_cons_succ]
 refine tkx 0 ?_
 refine tkx 1 ?_
 refine tkx 2 ?_
 refine tkx 3 ?_
 first|refine tqx 4 ?_|refine tkx 4 ?_
 first|refine tqx 5 ?_|refine tkx 5 ?_
 first|refine tqx 6 ?_|refine tkx 6 ?_
 first|refine tqx 7 ?_|refine tkx 7 ?_
 first|refine tqx 8 ?_|refine tkx 8 ?_
 first|refine tqx 9 ?_|refine tkx 9 ?_
 first|(refine tqx 10 ?_)|(refine callH (i:=10) rfl hHeld (fun W hW K hK=>?_);clear hHeld;(try dsimp only at hW);obtain⟨h_p0,h_p1,h_p2,h_p3,h_p4,h_p5,h_s0,h_s1,h_s2,h_s3,h_sR,h_x0,h_x1,h_x2,h_rR,h_t0,h_t1,h_t2,h_t3,h_tR,h_B⟩:=hW;go_simp;refine(HRO.out W (log_bl HL.out h_B)).mono ?_;rintro e w9 ⟨rfl,hb⟩;go_wp2_with fail;refine hK.out _ _ ?_ (fun hHeld=>?_);(focus((try dsimp only);exact⟨bl_cell hb h_p0,bl_cell hb h_p1,bl_cell hb h_p2,bl_cell hb h_p3,bl_cell hb h_p4,bl_cell hb h_p5,bl_cell hb h_s0,bl_cell hb h_s1,bl_cell hb h_s2,bl_cell hb h_s3,res_bl h_sR hb,bl_cell hb h_x0,bl_cell hb h_x1,bl_cell hb h_x2,res_bl h_rR hb,bl_cell hb h_t0,bl_cell hb h_t1,bl_cell hb h_t2,bl_cell hb h_t3,res_bl h_tR hb,bl_then h_B hb⟩));clear hK K;clear h_p0 h_p1 h_p2 h_p3 h_p4 h_p5 h_s0 h_s1 h_s2 h_s3 h_sR h_x0 h_x1 h_x2 h_rR h_t0 h_t1 h_t2 h_t3 h_tR h_B;try simp only[Act.put,List.setIfInBounds_toArray,List.set_cons_zero,List.set_cons_succ])
 first|refine tqx 11 ?_|refine tkx 11 ?_
 refine tkx 12 ?_
 refine wpAnyH_done (by kernel_rfl) ?_ _
 refine then_abs (F:=fun w'=>P6 w' (w.heap.size) k l d b cc o (S4 w' (w.heap.size+1) at_ level held a n c (ResB w' (w.heap.size+1)∧X3 w' (w.heap.size+1+1) 3 now cost (ResB w' (w.heap.size+1+1+1)∧S4 w' (w2.heap.size) aat alv held a1 0 c1 (ResB w' (w2.heap.size)∧Below w.heap.size w w'))))) hHeld ?_
 clear hHeld hB p0 p1 p2 p3 p4 p5 s0 s1 s2 s3 sR x0 x1 x2 rR t0 t1 t2 t3 tR
 rintro w5 ⟨p0,p1,p2,p3,p4,p5,s0,s1,s2,s3,sR,x0,x1,x2,rR,t0,t1,t2,t3,tR,hB⟩
 replace lb_p:=lbc p0
 replace lb_s:=lbc s0
 replace lb_x:=lbc x0
 replace lb_t:=lbc t0
 obtain⟨f0,f1,f2,f3,u0,u1,u2,u3,i0,i1,i2,i3⟩:=res_all rR
 obtain⟨ft0,ft1,ft2,ft3,ut0,ut1,ut2,ut3,it0,it1,it2,it3⟩:=res_all tR
 have ltT:=res_lt tR
 go_wp2_with go_step3
 (try simp only[Exit.inBlock,Exit.then,Exit.noGoto_ret])
 refine bodyPost_ret (results_state2 rfl _ _ (by rfl) (set4r (res_set (res_set (rR) _ _) _ _))) rfl (sb_nil hc1 (bl4 (bl_set (bl_set (hB) (by dsimp only;omega) _) (by dsimp only;omega) _) (by omega)))
theorem r5do_commit (p:Pol) (s:St) (a:Option Addr) (n c:Nat) (now cost:Int) (w:World) (hl:LogAt w a n c s.log) (h:rightG p s) (h1:1≤cost) (h2:cost≤s.held):Calls Tryz.prog 68 #[p.v,s.v a n c,.agg #[.int .i64 4,.int .i64 now,.int .i64 cost]] w (PostSB a n (doG p s ⟨4,now,cost⟩) w):=by
 have hrt:=fun w=>r5right_any p s a n c hl.1 w
 rw[decide_eq_true h] at hrt
 have hav:=fun w hw=>r5adv_any p s a n c now w hw
 unfold PostS at hav
 have hro:=fun w hw=>r5room_any p s a n c now w hw
 rw[(doG_ref (k:=4) h (advG_held p s now h) ⟨by have hz:=advG_level p s now h;omega,(advG_level p s now h).2.2.2⟩).2.2.2.2.2.2 h1 h2]
 have hlv:=advG_level p s now h
 have hhd:=advG_held p s now h
 have hlg:=advG_lg (now:=now) h
 have hd:=h.1.2.2.2.2.2.2.1
 have hD:=h.1.2.2.2.2.2.2.2
 have hbm:=h.1.2.2.2.2.2.1
 have hh0:=h.2.2.2.1
 have hh1:=h.2.2.2.2.1
 have hro1:roomG p s now≤p.burst:=by have hz:=(roomG_le (now:=now) (c:=roomG p s now) h).1 (Int.le_refl _);have hy:roomG p s now*p.period≤p.burst*p.period:=(by omega);exact Int.le_of_mul_le_mul_right hy (by omega)
 generalize roomG p s now=RO at *
 generalize advG p s now=A at *
 clear h
 obtain⟨aat,alv,ahd,alg⟩:=A
 obtain⟨k,l,d,b,cc,o⟩:=p
 obtain⟨at_,level,held,L⟩:=s
 unfold St.v Pol.v at *
 dsimp only at *
 subst hlg
 obtain rfl:held=ahd:=hhd.symm
 have h1':¬ cost<1:=by omega
 have hd1:decide (cost<1)=false:=decide_eq_false (h1')
 have hdr:decide (held<cost)=false:=decide_eq_false (by omega)
 have hdq:decide (cost≤held)=true:=decide_eq_true (h2)
 have c0:0≤cost*d:=Int.mul_nonneg (by omega) (by omega)
 have c1:cost*d≤1152921504606846976:=prod_le (by omega) (by omega) (by omega)
 have wa1:IntKind.i64.wrap (cost*d)=cost*d:=IntWalk.i64_in _ (by omega)
 have wa2:IntKind.i64.wrap (alv - cost*d)=alv - cost*d:=IntWalk.i64_in _ (by omega)
 have wa3:IntKind.i64.wrap (held - cost)=held - cost:=IntWalk.i64_in _ (by omega)
 clear c0 c1
 have HRT:=Go.Lib.hid hrt
 have HAV:=Go.Lib.hid hav
 have HRO:=Go.Lib.hid hro
 have HL:=Go.Lib.hid hl
 clear hrt hav hro hl
 clear hlv hd hD hbm hh0 hh1 hro1
 go_enter Tryz.func68,Tryz.ntmps68
 go_wp2_with go_step3
 refine(HRT.out _).mono ?_
 rintro e w1 ⟨rfl,hb⟩
 have hx:Below w.heap.size w w1:=bl_then (bl_alloc (bl_alloc (bl_alloc (bl_alloc (bl_refl _) _) _) _) _) hb
 have hsz1:w.heap.size+4≤w1.heap.size:=szl hb
 obtain⟨p0,p1,p2,p3,p4,p5⟩:=b6 (w.heap.size) k l d b cc o hb
 obtain⟨s0,s1,s2,s3⟩:=b4 (w.heap.size+1) at_ level held a n c hb
 have sR:=res_bl (b:=w.heap.size+1) (res_bl (res_bl (res_new _ _ _ _ _ _ (by simp)) (bl_alloc (bl_refl _) _)) (bl_alloc (bl_refl _) _)) hb
 obtain⟨x0,x1,x2⟩:=b3 (w.heap.size+1+1) 4 now cost hb
 have rR:=res_bl (b:=w.heap.size+1+1+1) (res_new _ _ _ _ _ _ (by simp)) hb
 have hB:Below w.heap.size w w1:=hx
 have lb_p:=lbc p0
 have lb_s:=lbc s0
 have lb_x:=lbc x0
 clear hb hx
 go_wp2_with go_step3
 refine(HAV.out _ (log_bl HL.out (hB))).mono ?_
 rintro e w2 ⟨a1,n1,c1,rfl,hl1,-,hb⟩
 have hsz2:w1.heap.size+0≤w2.heap.size:=szl hb
 replace p0:=bl_cell hb p0
 replace p1:=bl_cell hb p1
 replace p2:=bl_cell hb p2
 replace p3:=bl_cell hb p3
 replace p4:=bl_cell hb p4
 replace p5:=bl_cell hb p5
 replace s0:=bl_cell hb s0
 replace s1:=bl_cell hb s1
 replace s2:=bl_cell hb s2
 replace s3:=bl_cell hb s3
 replace sR:=res_bl sR hb
 replace x0:=bl_cell hb x0
 replace x1:=bl_cell hb x1
 replace x2:=bl_cell hb x2
 replace rR:=res_bl rR hb
 replace hB:Below w.heap.size w w2:=bl_then hB hb
 replace lb_p:=lbc p0
 replace lb_s:=lbc s0
 replace lb_x:=lbc x0
 clear hb
 have hn1:n1=0:=hl1.1.symm
 subst hn1
 have hc1:=hl1.2.2.1
 clear hl1
 go_wp2_with go_step3
 skip
 refine wp_abs (S0:=fun X=>(fun w'=>P6 w' (w.heap.size) k l d b cc o (S4 w' (w.heap.size+1) at_ level held a n c (ResB w' (w.heap.size+1)∧X3 w' (w.heap.size+1+1) 4 now cost (ResB w' (w.heap.size+1+1+1)∧S4 w' (w2.heap.size) aat alv held a1 0 c1 (ResB w' (w2.heap.size)∧Below w.heap.size w w'))))) X∧w2.heap.size+1≤X.heap.size) ⟨⟨bl_cell (bl_alloc (bl_refl _) _) p0,bl_cell (bl_alloc (bl_refl _) _) p1,bl_cell (bl_alloc (bl_refl _) _) p2,bl_cell (bl_alloc (bl_refl _) _) p3,bl_cell (bl_alloc (bl_refl _) _) p4,bl_cell (bl_alloc (bl_refl _) _) p5,bl_cell (bl_alloc (bl_refl _) _) s0,bl_cell (bl_alloc (bl_refl _) _) s1,bl_cell (bl_alloc (bl_refl _) _) s2,bl_cell (bl_alloc (bl_refl _) _) s3,res_bl sR (bl_alloc (bl_refl _) _),bl_cell (bl_alloc (bl_refl _) _) x0,bl_cell (bl_alloc (bl_refl _) _) x1,bl_cell (bl_alloc (bl_refl _) _) x2,res_bl rR (bl_alloc (bl_refl _) _),by go_simp,by go_simp,by go_simp,by go_simp,res_new _ _ _ _ _ _ (by simp),bl_alloc (hB) _⟩,by simp⟩ ?_
 clear p0 p1 p2 p3 p4 p5 s0 s1 s2 s3 sR x0 x1 x2 rR hB
 rintro w3 ⟨⟨p0,p1,p2,p3,p4,p5,s0,s1,s2,s3,sR,x0,x1,x2,rR,t0,t1,t2,t3,tR,hB⟩,hsz3⟩
 replace lb_p:=lbc p0
 replace lb_s:=lbc s0
 replace lb_x:=lbc x0
 have lb_t:=lbc t0
 refine wp_region_held_drew (S:=fun w'=>P6 w' (w.heap.size) k l d b cc o (S4 w' (w.heap.size+1) at_ level held a n c (ResB w' (w.heap.size+1)∧X3 w' (w.heap.size+1+1) 4 now cost (ResB w' (w.heap.size+1+1+1)∧S4 w' (w2.heap.size) aat alv held a1 0 c1 (ResB w' (w2.heap.size)∧Below w.heap.size w w'))))) (by kernel_rfl) ?_ (fun hHeld=>?_)
 ·exact⟨p0,p1,p2,p3,p4,p5,s0,s1,s2,s3,sR,x0,x1,x2,rR,t0,t1,t2,t3,tR,bl_drew hB⟩
 try simp only[Act.put,List.setIfInBounds_toArray,List.set_cons_zero,List.set_cons_succ]
 refine tkx 0 ?_
 refine tkx 1 ?_
 refine tkx 2 ?_
 refine tkx 3 ?_
 first|refine tqx 4 ?_|refine tkx 4 ?_
 first|refine tqx 5 ?_|refine tkx 5 ?_
 first|refine tqx 6 ?_|refine tkx 6 ?_
 first|refine tqx 7 ?_|refine tkx 7 ?_
 first|refine tqx 8 ?_|refine tkx 8 ?_
 first|refine tqx 9 ?_|refine tkx 9 ?_
 first|(refine tqx 10 ?_)|(refine callH (i:=10) rfl hHeld (fun W hW K hK=>?_);clear hHeld;(try dsimp only at hW);obtain⟨h_p0,h_p1,h_p2,h_p3,h_p4,h_p5,h_s0,h_s1,h_s2,h_s3,h_sR,h_x0,h_x1,h_x2,h_rR,h_t0,h_t1,h_t2,h_t3,h_tR,h_B⟩:=hW;go_simp;refine(HRO.out W (log_bl HL.out h_B)).mono ?_;rintro e w9 ⟨rfl,hb⟩;go_wp2_with fail;refine hK.out _ _ ?_ (fun hHeld=>?_);(focus((try dsimp only);exact⟨bl_cell hb h_p0,bl_cell hb h_p1,bl_cell hb h_p2,bl_cell hb h_p3,bl_cell hb h_p4,bl_cell hb h_p5,bl_cell hb h_s0,bl_cell hb h_s1,bl_cell hb h_s2,bl_cell hb h_s3,res_bl h_sR hb,bl_cell hb h_x0,bl_cell hb h_x1,bl_cell hb h_x2,res_bl h_rR hb,bl_cell hb h_t0,bl_cell hb h_t1,bl_cell hb h_t2,bl_cell hb h_t3,res_bl h_tR hb,bl_then h_B hb⟩));clear hK K;clear h_p0 h_p1 h_p2 h_p3 h_p4 h_p5 h_s0 h_s1 h_s2 h_s3 h_sR h_x0 h_x1 h_x2 h_rR h_t0 h_t1 h_t2 h_t3 h_tR h_B;try simp only[Act.put,List.setIfInBounds_toArray,List.set_cons_zero,List.set_cons_succ])
 first|refine tqx 11 ?_|refine tkx 11 ?_
 refine tkx 12 ?_
 refine wpAnyH_done (by kernel_rfl) ?_ _
 refine then_abs (F:=fun w'=>P6 w' (w.heap.size) k l d b cc o (S4 w' (w.heap.size+1) at_ level held a n c (ResB w' (w.heap.size+1)∧X3 w' (w.heap.size+1+1) 4 now cost (ResB w' (w.heap.size+1+1+1)∧S4 w' (w2.heap.size) aat alv held a1 0 c1 (ResB w' (w2.heap.size)∧Below w.heap.size w w'))))) hHeld ?_
 clear hHeld hB p0 p1 p2 p3 p4 p5 s0 s1 s2 s3 sR x0 x1 x2 rR t0 t1 t2 t3 tR
 rintro w4 ⟨p0,p1,p2,p3,p4,p5,s0,s1,s2,s3,sR,x0,x1,x2,rR,t0,t1,t2,t3,tR,hB⟩
 replace lb_p:=lbc p0
 replace lb_s:=lbc s0
 replace lb_x:=lbc x0
 replace lb_t:=lbc t0
 go_wp2_with go_step3
 refine wp_region_held_drew (S:=fun w'=>P6 w' (w.heap.size) k l d b cc o (S4 w' (w.heap.size+1) at_ level held a n c (ResB w' (w.heap.size+1)∧X3 w' (w.heap.size+1+1) 4 now cost (ResB w' (w.heap.size+1+1+1)∧S4 w' (w2.heap.size) aat alv held a1 0 c1 (ResB w' (w2.heap.size)∧Below w.heap.size w w'))))) (by kernel_rfl) ?_ (fun hHeld=>?_)
 ·exact⟨p0,p1,p2,p3,p4,p5,s0,s1,s2,s3,sR,x0,x1,x2,rR,t0,t1,t2,t3,tR,bl_drew hB⟩
 try simp only[Act.put,List.setIfInBounds_toArray,List.set_cons_zero,List.set_cons_succ]
 refine tkx 0 ?_
 refine tkx 1 ?_
 refine tkx 2 ?_
 refine tkx 3 ?_
 first|refine tqx 4 ?_|refine tkx 4 ?_
 first|refine tqx 5 ?_|refine tkx 5 ?_
 first|refine tqx 6 ?_|refine tkx 6 ?_
 first|refine tqx 7 ?_|refine tkx 7 ?_
 first|refine tqx 8 ?_|refine tkx 8 ?_
 first|refine tqx 9 ?_|refine tkx 9 ?_
 first|(refine tqx 10 ?_)|(refine callH (i:=10) rfl hHeld (fun W hW K hK=>?_);clear hHeld;(try dsimp only at hW);obtain⟨h_p0,h_p1,h_p2,h_p3,h_p4,h_p5,h_s0,h_s1,h_s2,h_s3,h_sR,h_x0,h_x1,h_x2,h_rR,h_t0,h_t1,h_t2,h_t3,h_tR,h_B⟩:=hW;go_simp;refine(HRO.out W (log_bl HL.out h_B)).mono ?_;rintro e w9 ⟨rfl,hb⟩;go_wp2_with fail;refine hK.out _ _ ?_ (fun hHeld=>?_);(focus((try dsimp only);exact⟨bl_cell hb h_p0,bl_cell hb h_p1,bl_cell hb h_p2,bl_cell hb h_p3,bl_cell hb h_p4,bl_cell hb h_p5,bl_cell hb h_s0,bl_cell hb h_s1,bl_cell hb h_s2,bl_cell hb h_s3,res_bl h_sR hb,bl_cell hb h_x0,bl_cell hb h_x1,bl_cell hb h_x2,res_bl h_rR hb,bl_cell hb h_t0,bl_cell hb h_t1,bl_cell hb h_t2,bl_cell hb h_t3,res_bl h_tR hb,bl_then h_B hb⟩));clear hK K;clear h_p0 h_p1 h_p2 h_p3 h_p4 h_p5 h_s0 h_s1 h_s2 h_s3 h_sR h_x0 h_x1 h_x2 h_rR h_t0 h_t1 h_t2 h_t3 h_tR h_B;try simp only[Act.put,List.setIfInBounds_toArray,List.set_cons_zero,List.set_cons_succ])
 first|refine tqx 11 ?_|refine tkx 11 ?_
 refine tkx 12 ?_
 refine wpAnyH_done (by kernel_rfl) ?_ _
 refine then_abs (F:=fun w'=>P6 w' (w.heap.size) k l d b cc o (S4 w' (w.heap.size+1) at_ level held a n c (ResB w' (w.heap.size+1)∧X3 w' (w.heap.size+1+1) 4 now cost (ResB w' (w.heap.size+1+1+1)∧S4 w' (w2.heap.size) aat alv held a1 0 c1 (ResB w' (w2.heap.size)∧Below w.heap.size w w'))))) hHeld ?_
 clear hHeld hB p0 p1 p2 p3 p4 p5 s0 s1 s2 s3 sR x0 x1 x2 rR t0 t1 t2 t3 tR
 rintro w5 ⟨p0,p1,p2,p3,p4,p5,s0,s1,s2,s3,sR,x0,x1,x2,rR,t0,t1,t2,t3,tR,hB⟩
 replace lb_p:=lbc p0
 replace lb_s:=lbc s0
 replace lb_x:=lbc x0
 replace lb_t:=lbc t0
 obtain⟨f0,f1,f2,f3,u0,u1,u2,u3,i0,i1,i2,i3⟩:=res_all rR
 obtain⟨ft0,ft1,ft2,ft3,ut0,ut1,ut2,ut3,it0,it1,it2,it3⟩:=res_all tR
 have ltT:=res_lt tR
 go_wp2_with go_step3
 (try simp only[Exit.inBlock,Exit.then,Exit.noGoto_ret])
 refine bodyPost_ret (results_state2 rfl _ _ (by rfl) (set4r (res_set (rR) _ _))) rfl (sb_nil hc1 (bl4 (bl_set (hB) (by dsimp only;omega) _) (by omega)))
theorem r5do_any (p:Pol) (s:St) (a:Option Addr) (n c:Nat) (x:Ac) (w:World) (hl:LogAt w a n c s.log):Calls Tryz.prog 68 #[p.v,s.v a n c,x.v] w (PostSB a n (doG p s x) w):=by
 obtain⟨ak,now,cost⟩:=x
 by_cases h:rightG p s
 ·by_cases h1:cost<1
  ·exact r5do_less p s a n c ak now cost w hl h h1
  by_cases h4:1≤ak∧ak≤4
  ·have hk:ak=1∨ak=2∨ak=3∨ak=4:=by omega
   rcases hk with rfl|rfl|rfl|rfl
   ·by_cases h5:roomG p s now<cost
    ·exact r5do_full1 p s a n c now cost w hl h h1 h5
    ·exact r5do_take p s a n c now cost w hl h (by omega) (by omega)
   ·by_cases h5:roomG p s now<cost
    ·exact r5do_full2 p s a n c now cost w hl h h1 h5
    ·exact r5do_hold p s a n c now cost w hl h (by omega) (by omega)
   ·by_cases h5:s.held<cost
    ·exact r5do_over3 p s a n c now cost w hl h h1 h5
    ·exact r5do_release p s a n c now cost w hl h (by omega) (by omega)
   ·by_cases h5:s.held<cost
    ·exact r5do_over4 p s a n c now cost w hl h h1 h5
    ·exact r5do_commit p s a n c now cost w hl h (by omega) (by omega)
  ·exact r5do_none p s a n c ak now cost w hl h h1 (by omega)
 ·exact r5do_no p s a n c ak now cost w hl h
theorem r4right_neg (k l d b cc at_ level held:Int) (o:Bool) (L:List (Int × Int)) (a:Option Addr) (n c:Nat) (w:World) (R:Bool) (hok:okB ⟨k,l,d,b,cc,o⟩) (hr:R=true↔0≤at_∧at_≤9007199254740992∧0≤held∧held≤b∧0≤level∧level≤(b - held)*d∧n=0) (h0:held<0):Calls Tryz.prog 83 #[Pol.v ⟨k,l,d,b,cc,o⟩,St.v ⟨at_,level,held,L⟩ a n c] w fun e w'=>e=.returned (.bool R)∧Below w.heap.size w w':=by
 have hck:=r4chk ⟨k,l,d,b,cc,o⟩
 rw[show chkB ⟨k,l,d,b,cc,o⟩=0 from if_pos hok] at hck
 unfold St.v Pol.v at *
 dsimp only at *
 obtain⟨q0,q1,q2,q3,q4,q5,q6,q7⟩:=hok
 dsimp only at q0 q1 q2 q3 q4 q5 q6 q7
 clear q0 q7
 have hf:R=false:=by rw[Bool.eq_false_iff];intro h;have:=hr.1 h;omega
 clear hr
 subst hf
 have HCK:=Go.Lib.hid hck
 clear hck
 go_enter Tryz.func83,Tryz.ntmps83
 go_wp2_with fail
 refine(HCK.out _).mono ?_
 rintro e w1 ⟨rfl,hb⟩
 have hx:Below w.heap.size w w1:=bl_then k2 hb
 have hsz1:w.heap.size+2≤w1.heap.size:=szl hb
 obtain⟨p0,p1,p2,p3,p4,p5⟩:=b6 (w.heap.size) k l d b cc o hb
 obtain⟨s0,s1,s2,s3⟩:=b4 (w.heap.size+1) at_ level held a n c hb
 have hB:Below w.heap.size w w1:=hx
 have lb_p:=lbc p0
 have lb_s:=lbc s0
 clear hb hx
 go_wp2_with fail
 all_goals
  go_ret
  exact⟨rfl,hB⟩
theorem r4right_much (k l d b cc at_ level held:Int) (o:Bool) (L:List (Int × Int)) (a:Option Addr) (n c:Nat) (w:World) (R:Bool) (hok:okB ⟨k,l,d,b,cc,o⟩) (hr:R=true↔0≤at_∧at_≤9007199254740992∧0≤held∧held≤b∧0≤level∧level≤(b - held)*d∧n=0) (h0:¬ held<0) (h1:b<held):Calls Tryz.prog 83 #[Pol.v ⟨k,l,d,b,cc,o⟩,St.v ⟨at_,level,held,L⟩ a n c] w fun e w'=>e=.returned (.bool R)∧Below w.heap.size w w':=by
 have hck:=r4chk ⟨k,l,d,b,cc,o⟩
 rw[show chkB ⟨k,l,d,b,cc,o⟩=0 from if_pos hok] at hck
 unfold St.v Pol.v at *
 dsimp only at *
 obtain⟨q0,q1,q2,q3,q4,q5,q6,q7⟩:=hok
 dsimp only at q0 q1 q2 q3 q4 q5 q6 q7
 clear q0 q7
 have hf:R=false:=by rw[Bool.eq_false_iff];intro h;have:=hr.1 h;omega
 clear hr
 subst hf
 have HCK:=Go.Lib.hid hck
 clear hck
 go_enter Tryz.func83,Tryz.ntmps83
 go_wp2_with fail
 refine(HCK.out _).mono ?_
 rintro e w1 ⟨rfl,hb⟩
 have hx:Below w.heap.size w w1:=bl_then k2 hb
 have hsz1:w.heap.size+2≤w1.heap.size:=szl hb
 obtain⟨p0,p1,p2,p3,p4,p5⟩:=b6 (w.heap.size) k l d b cc o hb
 obtain⟨s0,s1,s2,s3⟩:=b4 (w.heap.size+1) at_ level held a n c hb
 have hB:Below w.heap.size w w1:=hx
 have lb_p:=lbc p0
 have lb_s:=lbc s0
 clear hb hx
 go_wp2_with fail
 all_goals
  go_ret
  exact⟨rfl,hB⟩
theorem r4right_main (k l d b cc at_ level held:Int) (o:Bool) (L:List (Int × Int)) (a:Option Addr) (n c:Nat) (w:World) (R:Bool) (hok:okB ⟨k,l,d,b,cc,o⟩) (hr:R=true↔0≤at_∧at_≤9007199254740992∧0≤held∧held≤b∧0≤level∧level≤(b - held)*d∧n=0) (h0:¬ held<0) (h1:¬ b<held):Calls Tryz.prog 83 #[Pol.v ⟨k,l,d,b,cc,o⟩,St.v ⟨at_,level,held,L⟩ a n c] w fun e w'=>e=.returned (.bool R)∧Below w.heap.size w w':=by
 have hck:=r4chk ⟨k,l,d,b,cc,o⟩
 rw[show chkB ⟨k,l,d,b,cc,o⟩=0 from if_pos hok] at hck
 unfold St.v Pol.v at *
 dsimp only at *
 obtain⟨q0,q1,q2,q3,q4,q5,q6,q7⟩:=hok
 dsimp only at q0 q1 q2 q3 q4 q5 q6 q7
 clear q0 q7
 have hM:(b - held)*d≤1152921504606846976:=prod_le (by omega) (by omega) (by omega)
 have hM0:0≤(b - held)*d:=Int.mul_nonneg (by omega) (by omega)
 have hw2:IntKind.i64.wrap ((b - held)*d)=(b - held)*d:=IntWalk.i64_in _ (by omega)
 have hw1:IntKind.i64.wrap (b - held)=b - held:=IntWalk.i64_in _ (by omega)
 clear hM hM0
 have HR:=Go.Lib.hid hr
 clear hr
 have HCK:=Go.Lib.hid hck
 clear hck
 go_enter Tryz.func83,Tryz.ntmps83
 go_wp2_with fail
 refine(HCK.out _).mono ?_
 rintro e w1 ⟨rfl,hb⟩
 have hx:Below w.heap.size w w1:=bl_then k2 hb
 have hsz1:w.heap.size+2≤w1.heap.size:=szl hb
 obtain⟨p0,p1,p2,p3,p4,p5⟩:=b6 (w.heap.size) k l d b cc o hb
 obtain⟨s0,s1,s2,s3⟩:=b4 (w.heap.size+1) at_ level held a n c hb
 have hB:Below w.heap.size w w1:=hx
 have lb_p:=lbc p0
 have lb_s:=lbc s0
 clear hb hx
 go_wp2_with fail
 all_goals
  go_ret
  refine⟨congrArg (fun x=>Ending.returned (.bool x)) ?_,hB⟩
  rw[Bool.eq_iff_iff,HR.out]
  try simp only[decide_eq_true_eq,Bool.false_eq_true,true_iff,false_iff,iff_true,iff_false]
  omega
theorem r4right_any (p:Pol) (s:St) (a:Option Addr) (n c:Nat) (hn:s.log.length=n) (w:World):Calls Tryz.prog 83 #[p.v,s.v a n c] w fun e w'=>e=.returned (.bool (decide (rightB p s)))∧Below w.heap.size w w':=by
 obtain⟨k,l,d,b,cc,o⟩:=p
 obtain⟨at_,level,held,L⟩:=s
 dsimp only at hn
 by_cases hok:okB ⟨k,l,d,b,cc,o⟩
 ·have hr:decide (rightB ⟨k,l,d,b,cc,o⟩ ⟨at_,level,held,L⟩)=true↔0≤at_∧at_≤9007199254740992∧0≤held∧held≤b∧0≤level∧level≤(b - held)*d∧n=0:=by
   rw[decide_eq_true_eq]
   unfold rightB
   simp only[eq_true hok,true_and,← List.length_eq_zero_iff,hn]
   try omega
  generalize decide (rightB ⟨k,l,d,b,cc,o⟩ ⟨at_,level,held,L⟩)=R at *
  by_cases h0:held<0
  ·exact r4right_neg k l d b cc at_ level held o L a n c w R hok hr h0
  by_cases h1:b<held
  ·exact r4right_much k l d b cc at_ level held o L a n c w R hok hr h0 h1
  exact r4right_main k l d b cc at_ level held o L a n c w R hok hr h0 h1
 ·rw[decide_eq_false (fun z=>hok z.1)]
  have hck:=r4chk ⟨k,l,d,b,cc,o⟩
  rw[show chkB ⟨k,l,d,b,cc,o⟩=2 from if_neg hok] at hck
  clear hok
  unfold St.v Pol.v at *
  dsimp only at *
  have HCK:=Go.Lib.hid hck
  clear hck
  go_enter Tryz.func83,Tryz.ntmps83
  go_wp2_with fail
  refine(HCK.out _).mono ?_
  rintro e w1 ⟨rfl,hb⟩
  have hx:Below w.heap.size w w1:=bl_then k2 hb
  have hsz1:w.heap.size+2≤w1.heap.size:=szl hb
  obtain⟨p0,p1,p2,p3,p4,p5⟩:=b6 (w.heap.size) k l d b cc o hb
  obtain⟨s0,s1,s2,s3⟩:=b4 (w.heap.size+1) at_ level held a n c hb
  have hB:Below w.heap.size w w1:=hx
  have lb_p:=lbc p0
  have lb_s:=lbc s0
  clear hb hx
  go_wp2_with fail
  go_ret
  exact⟨rfl,hB⟩
theorem r4adv_no (p:Pol) (s:St) (a:Option Addr) (n c:Nat) (now:Int) (w:World) (hl:LogAt w a n c s.log) (h:¬ rightB p s):Calls Tryz.prog 87 #[p.v,s.v a n c,.int .i64 now] w (PostS a n (advB p s now) w):=by
 have hrt:=fun w=>r4right_any p s a n c hl.1 w
 rw[decide_eq_false h] at hrt
 unfold advB
 rw[if_neg h]
 clear h
 refine Calls.mono (R:=fun e w'=>e=.returned (St.none.v none 0 0)∧Below w.heap.size w w') ?_ (fun e w' hh=>⟨none,0,0,hh.1,log_nil _ _ _ (by omega),.inl rfl,hh.2⟩)
 obtain⟨k,l,d,b,cc,o⟩:=p
 obtain⟨at_,level,held,L⟩:=s
 unfold St.none St.v Pol.v at *
 dsimp only at *
 have HRT:=Go.Lib.hid hrt
 clear hrt
 clear hl
 go_enter Tryz.func87,Tryz.ntmps87
 go_wp2_with fail
 refine(HRT.out _).mono ?_
 rintro e w1 ⟨rfl,hb⟩
 have hx:Below w.heap.size w w1:=bl_then k3 hb
 have hsz1:w.heap.size+3≤w1.heap.size:=szl hb
 obtain⟨p0,p1,p2,p3,p4,p5⟩:=b6 (w.heap.size) k l d b cc o hb
 obtain⟨s0,s1,s2,s3⟩:=b4 (w.heap.size+1) at_ level held a n c hb
 have sR:=res_bl (b:=w.heap.size+1) (res_bl (res_new _ _ _ _ _ _ (by simp)) k1) hb
 have rR:=res_bl (b:=w.heap.size+1+1) (res_new _ _ _ _ _ _ (by simp)) hb
 have hB:Below w.heap.size w w1:=hx
 have lb_p:=lbc p0
 have lb_s:=lbc s0
 clear hb hx
 obtain⟨f0,f1,f2,f3,u0,u1,u2,u3,i0,i1,i2,i3⟩:=res_all rR
 go_wp2_with fail
 (try simp only[Exit.inBlock,Exit.then,Exit.noGoto_ret])
 refine bodyPost_ret (results_state rfl _ _ (by rfl) (set4r (rR))) rfl ⟨rfl,bl4 (hB) (by omega)⟩
theorem r4adv_stay (p:Pol) (s:St) (a:Option Addr) (n c:Nat) (now:Int) (w:World) (hl:LogAt w a n c s.log) (h:rightB p s) (ht:clampT now≤s.at_):Calls Tryz.prog 87 #[p.v,s.v a n c,.int .i64 now] w (PostS a n (advB p s now) w):=by
 have hrt:=fun w=>r4right_any p s a n c hl.1 w
 rw[decide_eq_true h] at hrt
 rw[advB_stay h ht]
 have hn0:n=0:=by rw[← hl.1,h.2.2.2.2.2.2.2];rfl
 have hc:=hl.2.2.1
 have hL:=h.2.2.2.2.2.2.2
 have hcl:=rclamp_any now
 have hcr:=clampT_range now
 have hA0:=h.2.1
 unfold rightB okB at h
 obtain⟨k,l,d,b,cc,o⟩:=p
 obtain⟨at_,level,held,L⟩:=s
 unfold St.v Pol.v at *
 dsimp only at *
 subst hn0 hL
 generalize clampT now=T at *
 refine Calls.mono (R:=fun e w'=>e=.returned (.agg #[.int .i64 (at_),.int .i64 (level),.int .i64 held,.slice a 0 c])∧Below w.heap.size w w') ?_ (fun e w' hh=>⟨a,0,c,hh.1,log_nil _ _ _ hc,.inl rfl,hh.2⟩)
 have hM:(b - held)*d≤1152921504606846976:=prod_le (by omega) (by omega) (by omega)
 have hM0:0≤(b - held)*d:=Int.mul_nonneg (by omega) (by omega)
 have wa2:IntKind.i64.wrap ((b - held)*d)=(b - held)*d:=IntWalk.i64_in _ (by omega)
 have wa1:IntKind.i64.wrap (b - held)=b - held:=IntWalk.i64_in _ (by omega)
 have ht':¬ at_<T:=by omega
 clear hM hM0 ht hcr
 clear h hl
 have HRT:=Go.Lib.hid hrt
 have HCL:=Go.Lib.hid hcl
 clear hrt hcl
 go_enter Tryz.func87,Tryz.ntmps87
 go_wp2_with fail
 refine(HRT.out _).mono ?_
 rintro e w1 ⟨rfl,hb⟩
 have hx:Below w.heap.size w w1:=bl_then k3 hb
 have hsz1:w.heap.size+3≤w1.heap.size:=szl hb
 obtain⟨p0,p1,p2,p3,p4,p5⟩:=b6 (w.heap.size) k l d b cc o hb
 obtain⟨s0,s1,s2,s3⟩:=b4 (w.heap.size+1) at_ level held a 0 c hb
 have sR:=res_bl (b:=w.heap.size+1) (res_bl (res_new _ _ _ _ _ _ (by simp)) k1) hb
 have rR:=res_bl (b:=w.heap.size+1+1) (res_new _ _ _ _ _ _ (by simp)) hb
 have hB:Below w.heap.size w w1:=hx
 have lb_p:=lbc p0
 have lb_s:=lbc s0
 clear hb hx
 go_wp2_with fail
 refine(HCL.out _).mono ?_
 rintro e w9 ⟨rfl,rfl⟩
 obtain⟨f0,f1,f2,f3,u0,u1,u2,u3,i0,i1,i2,i3⟩:=res_all rR
 have ne:=(show w.heap.size+1≠w.heap.size+1+1 by omega)
 go_wp2_with fail
 (try simp only[Exit.inBlock,Exit.then,Exit.noGoto_ret])
 refine bodyPost_ret (results_state rfl _ _ (by rfl) (set4r (rR))) rfl ⟨rfl,bl4 (hB) (by omega)⟩
theorem r4adv_less (p:Pol) (s:St) (a:Option Addr) (n c:Nat) (now:Int) (w:World) (hl:LogAt w a n c s.log) (h:rightB p s) (ht:s.at_<clampT now) (hm:mulOk (clampT now - s.at_) p.limit=true) (hn:mulN (clampT now - s.at_) p.limit≤(p.burst - s.held)*p.period - s.level):Calls Tryz.prog 87 #[p.v,s.v a n c,.int .i64 now] w (PostS a n (advB p s now) w):=by
 have hrt:=fun w=>r4right_any p s a n c hl.1 w
 rw[decide_eq_true h] at hrt
 rw[advB_less h ht hm hn]
 have hn0:n=0:=by rw[← hl.1,h.2.2.2.2.2.2.2];rfl
 have hc:=hl.2.2.1
 have hL:=h.2.2.2.2.2.2.2
 have hcl:=rclamp_any now
 have hcr:=clampT_range now
 have hA0:=h.2.1
 have hmu:=rmul_any (clampT now - s.at_) p.limit (by omega) (by omega) (by have:=h.1.2.1;have:=h.1;unfold okB at this;omega) (by have:=h.1;unfold okB at this;omega)
 unfold rightB okB at h
 obtain⟨k,l,d,b,cc,o⟩:=p
 obtain⟨at_,level,held,L⟩:=s
 unfold St.v Pol.v at *
 dsimp only at *
 subst hn0 hL
 generalize clampT now=T at *
 refine Calls.mono (R:=fun e w'=>e=.returned (.agg #[.int .i64 (T),.int .i64 (level+mulN (T - at_) l),.int .i64 held,.slice a 0 c])∧Below w.heap.size w w') ?_ (fun e w' hh=>⟨a,0,c,hh.1,log_nil _ _ _ hc,.inl rfl,hh.2⟩)
 have hM:(b - held)*d≤1152921504606846976:=prod_le (by omega) (by omega) (by omega)
 have hM0:0≤(b - held)*d:=Int.mul_nonneg (by omega) (by omega)
 have wa2:IntKind.i64.wrap ((b - held)*d)=(b - held)*d:=IntWalk.i64_in _ (by omega)
 have wa1:IntKind.i64.wrap (b - held)=b - held:=IntWalk.i64_in _ (by omega)
 have wa3:IntKind.i64.wrap (T - at_)=T - at_:=IntWalk.i64_in _ (by omega)
 have hN0:0≤mulN (T - at_) l:=by rw[mulN_ok hm];exact Int.mul_nonneg (by omega) (by omega)
 rw[hm] at hmu
 generalize mulN (T - at_) l=N at *
 have wa4:IntKind.i64.wrap ((b - held)*d - level)=(b - held)*d - level:=IntWalk.i64_in _ (by omega)
 have wa5:IntKind.i64.wrap (level+N)=level+N:=IntWalk.i64_in _ (by omega)
 have hn':¬ (b - held)*d - level<N:=by omega
 clear hN0 hn hm hM hM0 hcr
 clear h hl
 have HRT:=Go.Lib.hid hrt
 have HCL:=Go.Lib.hid hcl
 clear hrt hcl
 have HMU:=Go.Lib.hid hmu
 clear hmu
 go_enter Tryz.func87,Tryz.ntmps87
 go_wp2_with fail
 refine(HRT.out _).mono ?_
 rintro e w1 ⟨rfl,hb⟩
 have hx:Below w.heap.size w w1:=bl_then k3 hb
 have hsz1:w.heap.size+3≤w1.heap.size:=szl hb
 obtain⟨p0,p1,p2,p3,p4,p5⟩:=b6 (w.heap.size) k l d b cc o hb
 obtain⟨s0,s1,s2,s3⟩:=b4 (w.heap.size+1) at_ level held a 0 c hb
 have sR:=res_bl (b:=w.heap.size+1) (res_bl (res_new _ _ _ _ _ _ (by simp)) k1) hb
 have rR:=res_bl (b:=w.heap.size+1+1) (res_new _ _ _ _ _ _ (by simp)) hb
 have hB:Below w.heap.size w w1:=hx
 have lb_p:=lbc p0
 have lb_s:=lbc s0
 clear hb hx
 go_wp2_with fail
 refine(HCL.out _).mono ?_
 rintro e w9 ⟨rfl,rfl⟩
 go_wp2_with fail
 refine(HMU.out _).mono ?_
 rintro e w2 ⟨rfl,hb⟩
 have hsz2:w1.heap.size+0≤w2.heap.size:=szl hb
 replace p0:=bl_cell hb p0
 replace p1:=bl_cell hb p1
 replace p2:=bl_cell hb p2
 replace p3:=bl_cell hb p3
 replace p4:=bl_cell hb p4
 replace p5:=bl_cell hb p5
 replace s0:=bl_cell hb s0
 replace s1:=bl_cell hb s1
 replace s2:=bl_cell hb s2
 replace s3:=bl_cell hb s3
 replace sR:=res_bl sR hb
 replace rR:=res_bl rR hb
 replace hB:Below w.heap.size w w2:=bl_then hB hb
 replace lb_p:=lbc p0
 replace lb_s:=lbc s0
 clear hb
 obtain⟨f0,f1,f2,f3,u0,u1,u2,u3,i0,i1,i2,i3⟩:=res_all rR
 obtain⟨fs0,fs1,fs2,fs3,us0,us1,us2,us3,is0,is1,is2,is3⟩:=res_all sR
 have ne:=(show w.heap.size+1≠w.heap.size+1+1 by omega)
 go_wp2_with fail
 (try simp only[Exit.inBlock,Exit.then,Exit.noGoto_ret])
 refine bodyPost_ret (results_state rfl _ _ (by rfl) (set4r (res_set (res_set (rR) _ _) _ _))) rfl ⟨rfl,bl4 (bl_set (bl_set (hB) (by dsimp only;omega) _) (by dsimp only;omega) _) (by omega)⟩
theorem r4adv_most (p:Pol) (s:St) (a:Option Addr) (n c:Nat) (now:Int) (w:World) (hl:LogAt w a n c s.log) (h:rightB p s) (ht:s.at_<clampT now) (hm:mulOk (clampT now - s.at_) p.limit=true) (hn:(p.burst - s.held)*p.period - s.level<mulN (clampT now - s.at_) p.limit):Calls Tryz.prog 87 #[p.v,s.v a n c,.int .i64 now] w (PostS a n (advB p s now) w):=by
 have hrt:=fun w=>r4right_any p s a n c hl.1 w
 rw[decide_eq_true h] at hrt
 rw[advB_most h ht (.inr ⟨hm,hn⟩)]
 have hn0:n=0:=by rw[← hl.1,h.2.2.2.2.2.2.2];rfl
 have hc:=hl.2.2.1
 have hL:=h.2.2.2.2.2.2.2
 have hcl:=rclamp_any now
 have hcr:=clampT_range now
 have hA0:=h.2.1
 have hmu:=rmul_any (clampT now - s.at_) p.limit (by omega) (by omega) (by have:=h.1.2.1;have:=h.1;unfold okB at this;omega) (by have:=h.1;unfold okB at this;omega)
 unfold rightB okB at h
 obtain⟨k,l,d,b,cc,o⟩:=p
 obtain⟨at_,level,held,L⟩:=s
 unfold St.v Pol.v at *
 dsimp only at *
 subst hn0 hL
 generalize clampT now=T at *
 refine Calls.mono (R:=fun e w'=>e=.returned (.agg #[.int .i64 (T),.int .i64 ((b - held)*d),.int .i64 held,.slice a 0 c])∧Below w.heap.size w w') ?_ (fun e w' hh=>⟨a,0,c,hh.1,log_nil _ _ _ hc,.inl rfl,hh.2⟩)
 have hM:(b - held)*d≤1152921504606846976:=prod_le (by omega) (by omega) (by omega)
 have hM0:0≤(b - held)*d:=Int.mul_nonneg (by omega) (by omega)
 have wa2:IntKind.i64.wrap ((b - held)*d)=(b - held)*d:=IntWalk.i64_in _ (by omega)
 have wa1:IntKind.i64.wrap (b - held)=b - held:=IntWalk.i64_in _ (by omega)
 have wa3:IntKind.i64.wrap (T - at_)=T - at_:=IntWalk.i64_in _ (by omega)
 have hN0:0≤mulN (T - at_) l:=by rw[mulN_ok hm];exact Int.mul_nonneg (by omega) (by omega)
 rw[hm] at hmu
 generalize mulN (T - at_) l=N at *
 have wa4:IntKind.i64.wrap ((b - held)*d - level)=(b - held)*d - level:=IntWalk.i64_in _ (by omega)
 clear hN0 hm hM hM0 hcr
 clear h hl
 have HRT:=Go.Lib.hid hrt
 have HCL:=Go.Lib.hid hcl
 clear hrt hcl
 have HMU:=Go.Lib.hid hmu
 clear hmu
 go_enter Tryz.func87,Tryz.ntmps87
 go_wp2_with fail
 refine(HRT.out _).mono ?_
 rintro e w1 ⟨rfl,hb⟩
 have hx:Below w.heap.size w w1:=bl_then k3 hb
 have hsz1:w.heap.size+3≤w1.heap.size:=szl hb
 obtain⟨p0,p1,p2,p3,p4,p5⟩:=b6 (w.heap.size) k l d b cc o hb
 obtain⟨s0,s1,s2,s3⟩:=b4 (w.heap.size+1) at_ level held a 0 c hb
 have sR:=res_bl (b:=w.heap.size+1) (res_bl (res_new _ _ _ _ _ _ (by simp)) k1) hb
 have rR:=res_bl (b:=w.heap.size+1+1) (res_new _ _ _ _ _ _ (by simp)) hb
 have hB:Below w.heap.size w w1:=hx
 have lb_p:=lbc p0
 have lb_s:=lbc s0
 clear hb hx
 go_wp2_with fail
 refine(HCL.out _).mono ?_
 rintro e w9 ⟨rfl,rfl⟩
 go_wp2_with fail
 refine(HMU.out _).mono ?_
 rintro e w2 ⟨rfl,hb⟩
 have hsz2:w1.heap.size+0≤w2.heap.size:=szl hb
 replace p0:=bl_cell hb p0
 replace p1:=bl_cell hb p1
 replace p2:=bl_cell hb p2
 replace p3:=bl_cell hb p3
 replace p4:=bl_cell hb p4
 replace p5:=bl_cell hb p5
 replace s0:=bl_cell hb s0
 replace s1:=bl_cell hb s1
 replace s2:=bl_cell hb s2
 replace s3:=bl_cell hb s3
 replace sR:=res_bl sR hb
 replace rR:=res_bl rR hb
 replace hB:Below w.heap.size w w2:=bl_then hB hb
 replace lb_p:=lbc p0
 replace lb_s:=lbc s0
 clear hb
 obtain⟨f0,f1,f2,f3,u0,u1,u2,u3,i0,i1,i2,i3⟩:=res_all rR
 obtain⟨fs0,fs1,fs2,fs3,us0,us1,us2,us3,is0,is1,is2,is3⟩:=res_all sR
 have ne:=(show w.heap.size+1≠w.heap.size+1+1 by omega)
 go_wp2_with fail
 (try simp only[Exit.inBlock,Exit.then,Exit.noGoto_ret])
 refine bodyPost_ret (results_state rfl _ _ (by rfl) (set4r (res_set (res_set (rR) _ _) _ _))) rfl ⟨rfl,bl4 (bl_set (bl_set (hB) (by dsimp only;omega) _) (by dsimp only;omega) _) (by omega)⟩
theorem r4adv_over (p:Pol) (s:St) (a:Option Addr) (n c:Nat) (now:Int) (w:World) (hl:LogAt w a n c s.log) (h:rightB p s) (ht:s.at_<clampT now) (hm:mulOk (clampT now - s.at_) p.limit=false):Calls Tryz.prog 87 #[p.v,s.v a n c,.int .i64 now] w (PostS a n (advB p s now) w):=by
 have hrt:=fun w=>r4right_any p s a n c hl.1 w
 rw[decide_eq_true h] at hrt
 rw[advB_most h ht (.inl hm)]
 have hn0:n=0:=by rw[← hl.1,h.2.2.2.2.2.2.2];rfl
 have hc:=hl.2.2.1
 have hL:=h.2.2.2.2.2.2.2
 have hcl:=rclamp_any now
 have hcr:=clampT_range now
 have hA0:=h.2.1
 have hmu:=rmul_any (clampT now - s.at_) p.limit (by omega) (by omega) (by have:=h.1.2.1;have:=h.1;unfold okB at this;omega) (by have:=h.1;unfold okB at this;omega)
 unfold rightB okB at h
 obtain⟨k,l,d,b,cc,o⟩:=p
 obtain⟨at_,level,held,L⟩:=s
 unfold St.v Pol.v at *
 dsimp only at *
 subst hn0 hL
 generalize clampT now=T at *
 refine Calls.mono (R:=fun e w'=>e=.returned (.agg #[.int .i64 (T),.int .i64 ((b - held)*d),.int .i64 held,.slice a 0 c])∧Below w.heap.size w w') ?_ (fun e w' hh=>⟨a,0,c,hh.1,log_nil _ _ _ hc,.inl rfl,hh.2⟩)
 have hM:(b - held)*d≤1152921504606846976:=prod_le (by omega) (by omega) (by omega)
 have hM0:0≤(b - held)*d:=Int.mul_nonneg (by omega) (by omega)
 have wa2:IntKind.i64.wrap ((b - held)*d)=(b - held)*d:=IntWalk.i64_in _ (by omega)
 have wa1:IntKind.i64.wrap (b - held)=b - held:=IntWalk.i64_in _ (by omega)
 have wa3:IntKind.i64.wrap (T - at_)=T - at_:=IntWalk.i64_in _ (by omega)
 rw[hm] at hmu
 generalize mulN (T - at_) l=N at *
 clear hm hM hM0 hcr
 clear h hl
 have HRT:=Go.Lib.hid hrt
 have HCL:=Go.Lib.hid hcl
 clear hrt hcl
 have HMU:=Go.Lib.hid hmu
 clear hmu
 go_enter Tryz.func87,Tryz.ntmps87
 go_wp2_with fail
 refine(HRT.out _).mono ?_
 rintro e w1 ⟨rfl,hb⟩
 have hx:Below w.heap.size w w1:=bl_then k3 hb
 have hsz1:w.heap.size+3≤w1.heap.size:=szl hb
 obtain⟨p0,p1,p2,p3,p4,p5⟩:=b6 (w.heap.size) k l d b cc o hb
 obtain⟨s0,s1,s2,s3⟩:=b4 (w.heap.size+1) at_ level held a 0 c hb
 have sR:=res_bl (b:=w.heap.size+1) (res_bl (res_new _ _ _ _ _ _ (by simp)) k1) hb
 have rR:=res_bl (b:=w.heap.size+1+1) (res_new _ _ _ _ _ _ (by simp)) hb
 have hB:Below w.heap.size w w1:=hx
 have lb_p:=lbc p0
 have lb_s:=lbc s0
 clear hb hx
 go_wp2_with fail
 refine(HCL.out _).mono ?_
 rintro e w9 ⟨rfl,rfl⟩
 go_wp2_with fail
 refine(HMU.out _).mono ?_
 rintro e w2 ⟨rfl,hb⟩
 have hsz2:w1.heap.size+0≤w2.heap.size:=szl hb
 replace p0:=bl_cell hb p0
 replace p1:=bl_cell hb p1
 replace p2:=bl_cell hb p2
 replace p3:=bl_cell hb p3
 replace p4:=bl_cell hb p4
 replace p5:=bl_cell hb p5
 replace s0:=bl_cell hb s0
 replace s1:=bl_cell hb s1
 replace s2:=bl_cell hb s2
 replace s3:=bl_cell hb s3
 replace sR:=res_bl sR hb
 replace rR:=res_bl rR hb
 replace hB:Below w.heap.size w w2:=bl_then hB hb
 replace lb_p:=lbc p0
 replace lb_s:=lbc s0
 clear hb
 obtain⟨f0,f1,f2,f3,u0,u1,u2,u3,i0,i1,i2,i3⟩:=res_all rR
 obtain⟨fs0,fs1,fs2,fs3,us0,us1,us2,us3,is0,is1,is2,is3⟩:=res_all sR
 have ne:=(show w.heap.size+1≠w.heap.size+1+1 by omega)
 go_wp2_with fail
 (try simp only[Exit.inBlock,Exit.then,Exit.noGoto_ret])
 refine bodyPost_ret (results_state rfl _ _ (by rfl) (set4r (res_set (res_set (rR) _ _) _ _))) rfl ⟨rfl,bl4 (bl_set (bl_set (hB) (by dsimp only;omega) _) (by dsimp only;omega) _) (by omega)⟩
theorem r4adv_any (p:Pol) (s:St) (a:Option Addr) (n c:Nat) (now:Int) (w:World) (hl:LogAt w a n c s.log):Calls Tryz.prog 87 #[p.v,s.v a n c,.int .i64 now] w (PostS a n (advB p s now) w):=by
 by_cases h:rightB p s
 ·by_cases ht:clampT now≤s.at_
  ·exact r4adv_stay p s a n c now w hl h ht
  ·by_cases hm:mulOk (clampT now - s.at_) p.limit=true
   ·by_cases hn:mulN (clampT now - s.at_) p.limit≤(p.burst - s.held)*p.period - s.level
    ·exact r4adv_less p s a n c now w hl h (by omega) hm hn
    ·exact r4adv_most p s a n c now w hl h (by omega) hm (by omega)
   ·exact r4adv_over p s a n c now w hl h (by omega) (by simpa using hm)
 ·exact r4adv_no p s a n c now w hl h
end Go.Proofs.YtmhikkbdhboodaaGreat
