/-
  What tapsterref07.Do answers.
  No condition.
-/
import Derived.Test.YtmhikkbdhboodaaGreatZc1
import Derived.Test.YtmhikkbdhboodaaGreatZc8
import Derived.Test.YtmhikkbdhboodaaGreatZc9
set_option maxHeartbeats 8000000
set_option maxRecDepth 100000
namespace Go.Proofs.YtmhikkbdhboodaaGreat
open Go.RowKit
set_option linter.unusedVariables false
set_option linter.unusedSimpArgs false

theorem advC_lg {p:Pol} {s:St} {now:Int} (h:rightC p s):(advC p s now).log=[]:=by unfold advC;rw[if_pos h]
theorem r7do_no (p:Pol) (s:St) (a:Option Addr) (n c:Nat) (ak now cost:Int) (w:World) (hl:LogAt w a n c s.log) (h:¬ rightC p s):Calls Tryz.prog 70 #[p.v,s.v a n c,.agg #[.int .i64 ak,.int .i64 now,.int .i64 cost]] w (PostSB a n (doC p s ⟨ak,now,cost⟩) w):=by
 have hrt:=fun w  => r7right_any p s a n c hl.1 w
 rw[decide_eq_false h] at hrt
 rw[show doC p s ⟨ak,now,cost⟩=(St.none,false) from if_neg h]
 refine Calls.mono (R:=fun e w'=>e=.returned (.tuple #[.agg #[.int .i64 0,.int .i64 0,.int .i64 0,.slice none 0 0],.bool false])∧Below w.heap.size w w') ?_ (fun e w' hh=>sb_none hh)
 clear h
 obtain⟨k,l,d,b,cc,o⟩:=p
 obtain⟨at_,level,held,L⟩:=s
 unfold St.v Pol.v at *
 dsimp only at *
 have HRT:=Go.Lib.hid hrt
 have HL:=Go.Lib.hid hl
 clear hrt hl
 go_enter Tryz.func70,Tryz.ntmps70
 go_wp2_with go_step3
 refine(HRT.out _).mono ?_
 rintro e w1 ⟨rfl,hb⟩
 have hx:Below w.heap.size w w1:=bl_then k4 hb
 have hsz1:w.heap.size+4≤w1.heap.size:=szl hb
 obtain⟨p0,p1,p2,p3,p4,p5⟩:=b6 (w.heap.size) k l d b cc o hb
 obtain⟨s0,s1,s2,s3⟩:=b4 (w.heap.size+1) at_ level held a n c hb
 have sR:=res_bl (b:=w.heap.size+1) (res_bl (res_bl (res_new _ _ _ _ _ _ (by simp)) k1) k1) hb
 obtain⟨x0,x1,x2⟩:=b3 (w.heap.size+1+1) ak now cost hb
 have rR:=res_bl (b:=w.heap.size+1+1+1) (res_new _ _ _ _ _ _ (by simp)) hb
 have hB:Below w.heap.size w w1:=hx
 have lb_p:=lbc p0
 have lb_s:=lbc s0
 have lb_x:=lbc x0
 clear hb hx
 obtain⟨f0,f1,f2,f3,u0,u1,u2,u3,i0,i1,i2,i3⟩:=res_all rR
 go_wp2_with go_step3
 (try simp only[Exit.inBlock,Exit.then,Exit.noGoto_ret])
 refine bodyPost_ret (results_state2 rfl _ _ (by rfl) (set4r (rR))) rfl ⟨rfl,bl4 (hB) (by omega)⟩
theorem r7do_yes (p:Pol) (s:St) (a:Option Addr) (n c:Nat) (ak now cost:Int) (w:World) (hl:LogAt w a n c s.log) (h:rightC p s):Calls Tryz.prog 70 #[p.v,s.v a n c,.agg #[.int .i64 ak,.int .i64 now,.int .i64 cost]] w (PostSB a n (doC p s ⟨ak,now,cost⟩) w):=by
  have hrt:=fun w=>r7right_any p s a n c hl.1 w
  rw[decide_eq_true h] at hrt
  have hav:=fun w hw=>r7adv_any p s a n c now w hw
  unfold PostS at hav
  have hro:=fun w hw=>r7room_any p s a n c now w hw
  have hd:=doC_all (now:=now) (c:=cost) (k:=ak) h
  have hlv:=advC_level' (now:=now) h
  have hhd:=advC_held (now:=now) h
  have hlg:=advC_lg (now:=now) h
  have hlm:=h.1.2.2.2.1
  have hh0:=h.2.2.2.1
  have hh1:=h.2.2.2.2.2.1
  have hro1:roomC p s now≤p.limit:=by unfold roomC;rw[if_pos h];omega
  generalize doC p s ⟨ak,now,cost⟩=DR at *
  generalize roomC p s now=RO at *
  generalize advC p s now=A at *
  clear h
  obtain⟨aat,alv,ahd,alg⟩:=A
  obtain⟨k,l,d,b,cc,o⟩:=p
  obtain⟨at_,level,held,L⟩:=s
  unfold DoAll St.v Pol.v at *
  dsimp only at *
  subst hlg
  obtain rfl:held=ahd:=hhd.symm
  have HBD:=Go.Lib.hid (And.intro hlv (And.intro hlm (And.intro hh0 (And.intro hh1 hro1))))
  have HRT:=Go.Lib.hid hrt
  have HAV:=Go.Lib.hid hav
  have HRO:=Go.Lib.hid hro
  have HL:=Go.Lib.hid hl
  have HD:=Go.Lib.hid hd
  clear hrt hav hro hl hd
  clear hlv hlm hh0 hh1 hro1
  go_enter Tryz.func70,Tryz.ntmps70
  go_wp2_with go_step3
  refine(HRT.out _).mono ?_
  rintro e w1 ⟨rfl,hb⟩
  have hx:Below w.heap.size w w1:=bl_then k4 hb
  have hsz1:w.heap.size+4≤w1.heap.size:=szl hb
  obtain⟨p0,p1,p2,p3,p4,p5⟩:=b6 (w.heap.size) k l d b cc o hb
  obtain⟨s0,s1,s2,s3⟩:=b4 (w.heap.size+1) at_ level held a n c hb
  have sR:=res_bl (b:=w.heap.size+1) (res_bl (res_bl (res_new _ _ _ _ _ _ (by simp)) k1) k1) hb
  obtain⟨x0,x1,x2⟩:=b3 (w.heap.size+1+1) ak now cost hb
  have rR:=res_bl (b:=w.heap.size+1+1+1) (res_new _ _ _ _ _ _ (by simp)) hb
  have hB:Below w.heap.size w w1:=hx
  have lb_p:=lbc p0
  have lb_s:=lbc s0
  have lb_x:=lbc x0
  clear hb hx
  go_wp2_with go_step3
  refine(HAV.out _ (log_bl HL.out (hB))).mono ?_
  rintro e w2 ⟨a1,n1,c1,rfl,hl1,-,hb⟩
  have hsz2:w1.heap.size+0≤w2.heap.size:=szl hb
  replace p0:=bl_cell hb p0
  replace p1:=bl_cell hb p1
  replace p2:=bl_cell hb p2
  replace p3:=bl_cell hb p3
  replace p4:=bl_cell hb p4
  replace p5:=bl_cell hb p5
  replace s0:=bl_cell hb s0
  replace s1:=bl_cell hb s1
  replace s2:=bl_cell hb s2
  replace s3:=bl_cell hb s3
  replace sR:=res_bl sR hb
  replace x0:=bl_cell hb x0
  replace x1:=bl_cell hb x1
  replace x2:=bl_cell hb x2
  replace rR:=res_bl rR hb
  replace hB:Below w.heap.size w w2:=bl_then hB hb
  replace lb_p:=lbc p0
  replace lb_s:=lbc s0
  replace lb_x:=lbc x0
  clear hb
  have hn1:n1=0:=hl1.1.symm
  subst hn1
  have hc1:=hl1.2.2.1
  clear hl1
  go_wp2_with go_step3
  skip
  refine wp_abs (S0:=fun X=>(fun w'=>P6 w' (w.heap.size) k l d b cc o (S4 w' (w.heap.size+1) at_ level held a n c (ResB w' (w.heap.size+1)∧X3 w' (w.heap.size+1+1) ak now cost (ResB w' (w.heap.size+1+1+1)∧S4 w' (w2.heap.size) aat alv held a1 0 c1 (ResB w' (w2.heap.size)∧Below w.heap.size w w'))))) X∧w2.heap.size+1≤X.heap.size) ⟨⟨bl_cell k1 p0,bl_cell k1 p1,bl_cell k1 p2,bl_cell k1 p3,bl_cell k1 p4,bl_cell k1 p5,bl_cell k1 s0,bl_cell k1 s1,bl_cell k1 s2,bl_cell k1 s3,res_bl sR k1,bl_cell k1 x0,bl_cell k1 x1,bl_cell k1 x2,res_bl rR k1,by go_simp,by go_simp,by go_simp,by go_simp,res_new _ _ _ _ _ _ (by simp),bl_alloc (hB) _⟩,by simp⟩ ?_
  clear p0 p1 p2 p3 p4 p5 s0 s1 s2 s3 sR x0 x1 x2 rR hB
  rintro w3 ⟨⟨p0,p1,p2,p3,p4,p5,s0,s1,s2,s3,sR,x0,x1,x2,rR,t0,t1,t2,t3,tR,hB⟩,hsz3⟩
  replace lb_p:=lbc p0
  replace lb_s:=lbc s0
  replace lb_x:=lbc x0
  have lb_t:=lbc t0
  obtain⟨g1,hg1⟩:∃ g,decide (cost<1)=g:=⟨_,rfl⟩
  obtain⟨g2,hg2⟩:∃ g,decide (ak<1)=g:=⟨_,rfl⟩
  obtain⟨g3,hg3⟩:∃ g,decide (4<ak)=g:=⟨_,rfl⟩
  obtain⟨g4,hg4⟩:∃ g,decide (ak≤2)=g:=⟨_,rfl⟩
  obtain⟨g5,hg5⟩:∃ g,decide (RO<cost)=g:=⟨_,rfl⟩
  obtain⟨g6,hg6⟩:∃ g,decide (3≤ak)=g:=⟨_,rfl⟩
  obtain⟨g7,hg7⟩:∃ g,decide (held<cost)=g:=⟨_,rfl⟩
  refine wp_region_held_drew (S:=fun w'=>P6 w' (w.heap.size) k l d b cc o (S4 w' (w.heap.size+1) at_ level held a n c (ResB w' (w.heap.size+1)∧X3 w' (w.heap.size+1+1) ak now cost (ResB w' (w.heap.size+1+1+1)∧S4 w' (w2.heap.size) aat alv held a1 0 c1 (ResB w' (w2.heap.size)∧Below w.heap.size w w'))))) (by kernel_rfl) ?_ (fun hHeld=>?_)
  · exact⟨p0,p1,p2,p3,p4,p5,s0,s1,s2,s3,sR,x0,x1,x2,rR,t0,t1,t2,t3,tR,bl_drew hB⟩
  try simp only[Act.put,List.setIfInBounds_toArray,List.set_cons_zero,List.set_cons_succ]
  clear hB p0 p1 p2 p3 p4 p5 s0 s1 s2 s3 sR x0 x1 x2 rR t0 t1 t2 t3 tR
  all_goals refine tkx 0 ?_
  all_goals refine tkx 1 ?_
  all_goals refine tkx 2 ?_
  all_goals(first|((fail_if_success (clear hg1 g1));cases g1)|skip)
  all_goals refine tkx 3 ?_
  all_goals(first|refine tqx 4 ?_|refine tkx 4 ?_)
  all_goals(first|refine tqx 5 ?_|refine tkx 5 ?_)
  all_goals(first|refine tqx 6 ?_|refine tkx 6 ?_)
  all_goals(first|((fail_if_success (clear hg2 g2));cases g2)|skip)
  all_goals refine tkx 7 ?_
  all_goals refine tkx 8 ?_
  all_goals(first|refine tqx 9 ?_|refine tkx 9 ?_)
  all_goals(first|refine tqx 10 ?_|refine tkx 10 ?_)
  all_goals(first|refine tqx 11 ?_|refine tkx 11 ?_)
  all_goals(first|((fail_if_success (clear hg3 g3));cases g3)|skip)
  all_goals refine tkx 12 ?_
  all_goals refine tkx 13 ?_
  all_goals(first|refine tqx 14 ?_|refine tkx 14 ?_)
  all_goals(first|refine tqx 15 ?_|refine tkx 15 ?_)
  all_goals(first|refine tqx 16 ?_|refine tkx 16 ?_)
  all_goals(first|((fail_if_success (clear hg4 g4));cases g4)|skip)
  all_goals(first|refine tqx 17 ?_|refine tkx 17 ?_)
  all_goals(first|refine tqx 18 ?_|refine tkx 18 ?_)
  all_goals(first|refine tqx 19 ?_|refine tkx 19 ?_)
  all_goals(first|refine tqx 20 ?_|refine tkx 20 ?_)
  all_goals(first|refine tqx 21 ?_|refine tkx 21 ?_)
  all_goals(first|refine tqx 22 ?_|refine tkx 22 ?_)
  all_goals(first|refine tqx 23 ?_|refine tkx 23 ?_)
  all_goals(first|refine tqx 24 ?_|(refine callH (i:=24) rfl hHeld (fun W hW K hK=>?_);clear hHeld;(try dsimp only at hW);obtain⟨h_p0,h_p1,h_p2,h_p3,h_p4,h_p5,h_s0,h_s1,h_s2,h_s3,h_sR,h_x0,h_x1,h_x2,h_rR,h_t0,h_t1,h_t2,h_t3,h_tR,h_B⟩:=hW;go_simp;refine(HRO.out W (log_bl HL.out h_B)).mono ?_;rintro e w9 ⟨rfl,hb⟩;go_wp2_with fail;refine hK.out _ _ ?_ (fun hHeld=>?_);(focus((try dsimp only);exact⟨bl_cell hb h_p0,bl_cell hb h_p1,bl_cell hb h_p2,bl_cell hb h_p3,bl_cell hb h_p4,bl_cell hb h_p5,bl_cell hb h_s0,bl_cell hb h_s1,bl_cell hb h_s2,bl_cell hb h_s3,res_bl h_sR hb,bl_cell hb h_x0,bl_cell hb h_x1,bl_cell hb h_x2,res_bl h_rR hb,bl_cell hb h_t0,bl_cell hb h_t1,bl_cell hb h_t2,bl_cell hb h_t3,res_bl h_tR hb,bl_then h_B hb⟩));clear hK K;clear h_p0 h_p1 h_p2 h_p3 h_p4 h_p5 h_s0 h_s1 h_s2 h_s3 h_sR h_x0 h_x1 h_x2 h_rR h_t0 h_t1 h_t2 h_t3 h_tR h_B;try simp only[Act.put,List.setIfInBounds_toArray,List.set_cons_zero,List.set_cons_succ]))
  all_goals(first|refine tqx 25 ?_|refine tkx 25 ?_)
  all_goals(first|((fail_if_success (clear hg5 g5));cases g5)|skip)
  all_goals(first|refine tqx 26 ?_|refine tkx 26 ?_)
  all_goals refine tkx 27 ?_
  all_goals refine tkx 28 ?_
  all_goals(first|refine tqx 29 ?_|refine tkx 29 ?_)
  all_goals(first|refine tqx 30 ?_|refine tkx 30 ?_)
  all_goals(first|refine tqx 31 ?_|refine tkx 31 ?_)
  all_goals(first|((fail_if_success (clear hg6 g6));cases g6)|skip)
  all_goals(first|refine tqx 32 ?_|refine tkx 32 ?_)
  all_goals(first|refine tqx 33 ?_|refine tkx 33 ?_)
  all_goals(first|refine tqx 34 ?_|refine tkx 34 ?_)
  all_goals(first|refine tqx 35 ?_|refine tkx 35 ?_)
  all_goals(first|refine tqx 36 ?_|refine tkx 36 ?_)
  all_goals(first|refine tqx 37 ?_|refine tkx 37 ?_)
  all_goals(first|((fail_if_success (clear hg7 g7));cases g7)|skip)
  all_goals(first|refine tqx 38 ?_|refine tkx 38 ?_)
  all_goals refine tkx 39 ?_
  all_goals(refine wpAnyH_done (by kernel_rfl) ?_ _)
  all_goals(try simp only[decide_eq_true_eq,decide_eq_false_iff_not] at hg1 hg2 hg3 hg4 hg5 hg6 hg7)
  all_goals(refine then_abs (F:=fun w'=>P6 w' (w.heap.size) k l d b cc o (S4 w' (w.heap.size+1) at_ level held a n c (ResB w' (w.heap.size+1)∧X3 w' (w.heap.size+1+1) ak now cost (ResB w' (w.heap.size+1+1+1)∧S4 w' (w2.heap.size) aat alv held a1 0 c1 (ResB w' (w2.heap.size)∧Below w.heap.size w w'))))) hHeld ?_;clear hHeld;rintro wL ⟨p0,p1,p2,p3,p4,p5,s0,s1,s2,s3,sR,x0,x1,x2,rR,t0,t1,t2,t3,tR,hB⟩)
  all_goals(obtain⟨f0,f1,f2,f3,u0,u1,u2,u3,i0,i1,i2,i3⟩:=res_all rR)
  all_goals first
    | (exfalso;omega)
    | (have hbad:=HD.out.1 (by omega)
       have HBB:=Go.Lib.hid hbad
       clear hbad
       go_wp2_with go_step3
       (try simp only[Exit.inBlock,Exit.then,Exit.noGoto_ret])
       refine bodyPost_ret (results_state2 rfl _ _ (by rfl) (set4r rR)) rfl ?_
       rw[HBB.out]
       exact sb_same HL.out ⟨rfl,bl4 hB (by omega)⟩)
    | (obtain ⟨ft0,ft1,ft2,ft3,ut0,ut1,ut2,ut3,it0,it1,it2,it3⟩:=res_all tR
       have ltT:=res_lt tR
       have hk:ak=1∨ak=2∨ak=3∨ak=4:=by omega
       obtain⟨hlv,hlm,hh0,hh1,hro1⟩:=HBD.out
       rcases hk with rfl|rfl|rfl|rfl
       · first
           | (exfalso;omega)
           | (have hdn:=Go.Lib.hid (HD.out.2.1 (by rfl) (by omega) (by omega))
              have wa1:IntKind.i64.wrap (alv+cost)=alv+cost:=IntWalk.i64_in _ (by omega)
              clear hg1 hg2 hg3 hg4 hg5 hg6 hg7 hlv hlm hh0 hh1 hro1
              go_wp2_with go_step3
              (try simp only[Exit.inBlock,Exit.then,Exit.noGoto_ret])
              refine bodyPost_ret (results_state2 rfl _ _ (by rfl) (set4r (res_set (rR) _ _))) rfl ?_
              rw[hdn.out]
              exact sb_nil hc1 (bl4 (bl_set (hB) (by dsimp only;omega) _) (by omega)))
       · first
           | (exfalso;omega)
           | (have hdn:=Go.Lib.hid (HD.out.2.2.1 (by rfl) (by omega) (by omega))
              have wa1:IntKind.i64.wrap (held+cost)=held+cost:=IntWalk.i64_in _ (by omega)
              clear hg1 hg2 hg3 hg4 hg5 hg6 hg7 hlv hlm hh0 hh1 hro1
              go_wp2_with go_step3
              (try simp only[Exit.inBlock,Exit.then,Exit.noGoto_ret])
              refine bodyPost_ret (results_state2 rfl _ _ (by rfl) (set4r (res_set (rR) _ _))) rfl ?_
              rw[hdn.out]
              exact sb_nil hc1 (bl4 (bl_set (hB) (by dsimp only;omega) _) (by omega)))
       · first
           | (exfalso;omega)
           | (have hdn:=Go.Lib.hid (HD.out.2.2.2.1 (by rfl) (by omega) (by omega))
              have wa1:IntKind.i64.wrap (held - cost)=held - cost:=IntWalk.i64_in _ (by omega)
              clear hg1 hg2 hg3 hg4 hg5 hg6 hg7 hlv hlm hh0 hh1 hro1
              go_wp2_with go_step3
              (try simp only[Exit.inBlock,Exit.then,Exit.noGoto_ret])
              refine bodyPost_ret (results_state2 rfl _ _ (by rfl) (set4r (res_set (rR) _ _))) rfl ?_
              rw[hdn.out]
              exact sb_nil hc1 (bl4 (bl_set (hB) (by dsimp only;omega) _) (by omega)))
       · first
           | (exfalso;omega)
           | (have hdn:=Go.Lib.hid (HD.out.2.2.2.2 (by rfl) (by omega) (by omega))
              have wa1:IntKind.i64.wrap (held - cost)=held - cost:=IntWalk.i64_in _ (by omega)
              have wa2:IntKind.i64.wrap (alv+cost)=alv+cost:=IntWalk.i64_in _ (by omega)
              clear hg1 hg2 hg3 hg4 hg5 hg6 hg7 hlv hlm hh0 hh1 hro1
              go_wp2_with go_step3
              (try simp only[Exit.inBlock,Exit.then,Exit.noGoto_ret])
              refine bodyPost_ret (results_state2 rfl _ _ (by rfl) (set4r (res_set (res_set (rR) _ _) _ _))) rfl ?_
              rw[hdn.out]
              exact sb_nil hc1 (bl4 (bl_set (bl_set (hB) (by dsimp only;omega) _) (by dsimp only;omega) _) (by omega))))
theorem r7do_any (p:Pol) (s:St) (a:Option Addr) (n c:Nat) (x:Ac) (w:World) (hl:LogAt w a n c s.log):Calls Tryz.prog 70 #[p.v,s.v a n c,x.v] w (PostSB a n (doC p s x) w):=by
 obtain⟨ak,now,cost⟩:=x
 by_cases h:rightC p s
 ·exact r7do_yes p s a n c ak now cost w hl h
 ·exact r7do_no p s a n c ak now cost w hl h
end Go.Proofs.YtmhikkbdhboodaaGreat
