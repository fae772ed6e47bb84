/-
  What tapsterref06.New answers.
  What tapsterref04.New answers.
  What tapsterref05.New answers.
  What tapsterref07.New answers.
  What tapsterref08.Check and tapsterref08.Most answer.
  What gcra.Retry answers.
  What bucket.Retry answers.
  What limiter.Retry answers.
  No condition.
-/
import Derived.Test.YtmhikkbdhboodaaGreatZc1
import Derived.Test.YtmhikkbdhboodaaGreatZc2
import Derived.Test.YtmhikkbdhboodaaGreatZc5
import Derived.Test.YtmhikkbdhboodaaGreatZc6
import Derived.Test.YtmhikkbdhboodaaGreatZc9
set_option maxHeartbeats 8000000
set_option maxRecDepth 100000
namespace Go.Proofs.YtmhikkbdhboodaaGreat
open Go.RowKit
set_option linter.unusedVariables false
set_option linter.unusedSimpArgs false

theorem r6new (p:Pol) (now:Int) (w:World):Calls Tryz.prog 59 #[p.v,.int .i64 now] w fun e w'=>e=.returned ((newL p now).v none 0 0)∧Below w.heap.size w w':=by
 have hck:=r6chk p
 unfold newL
 by_cases h:okL p
 ·rw[if_pos h]
  rw[show chkL p=0 from if_pos h] at hck
  obtain⟨k,l,d,b,cc,o⟩:=p
  have hcl:=rclamp_any now
  clear h
  unfold St.v Pol.v at *
  dsimp only at *
  generalize clampT now=T at *
  have HCK:=Go.Lib.hid hck
  have HCL:=Go.Lib.hid hcl
  clear hck hcl
  go_enter Tryz.func59,Tryz.ntmps59
  go_wp2_with fail
  refine(HCK.out _).mono ?_
  rintro e w1 ⟨rfl,hb⟩
  have hx:Below w.heap.size w w1:=bl_then k2 hb
  have hsz1:w.heap.size+2≤w1.heap.size:=szl hb
  obtain⟨p0,p1,p2,p3,p4,p5⟩:=b6 (w.heap.size) k l d b cc o hb
  have rR:=res_bl (b:=w.heap.size+1) (res_new _ _ _ _ _ _ (by simp)) hb
  have hB:Below w.heap.size w w1:=hx
  have lb_p:=lbc p0
  clear hb hx
  go_wp2_with fail
  refine(HCL.out _).mono ?_
  rintro e w2 ⟨rfl,rfl⟩
  obtain⟨f0,f1,f2,f3,u0,u1,u2,u3,i0,i1,i2,i3⟩:=res_all rR
  go_wp2_with fail
  (try simp only[Exit.inBlock,Exit.then,Exit.noGoto_ret])
  refine bodyPost_ret (results_state rfl _ _ (by rfl) (set4r (rR))) rfl ⟨rfl,bl4 (hB) (by omega)⟩
 ·rw[if_neg h]
  rw[show chkL p=2 from if_neg h] at hck
  obtain⟨k,l,d,b,cc,o⟩:=p
  clear h
  unfold St.none St.v Pol.v at *
  dsimp only at *
  have HCK:=Go.Lib.hid hck
  clear hck
  go_enter Tryz.func59,Tryz.ntmps59
  go_wp2_with fail
  refine(HCK.out _).mono ?_
  rintro e w1 ⟨rfl,hb⟩
  have hx:Below w.heap.size w w1:=bl_then k2 hb
  have hsz1:w.heap.size+2≤w1.heap.size:=szl hb
  obtain⟨p0,p1,p2,p3,p4,p5⟩:=b6 (w.heap.size) k l d b cc o hb
  have rR:=res_bl (b:=w.heap.size+1) (res_new _ _ _ _ _ _ (by simp)) hb
  have hB:Below w.heap.size w w1:=hx
  have lb_p:=lbc p0
  clear hb hx
  obtain⟨f0,f1,f2,f3,u0,u1,u2,u3,i0,i1,i2,i3⟩:=res_all rR
  go_wp2_with fail
  (try simp only[Exit.inBlock,Exit.then,Exit.noGoto_ret])
  refine bodyPost_ret (results_state rfl _ _ (by rfl) (set4r (rR))) rfl ⟨rfl,bl4 (hB) (by omega)⟩
theorem r4new (p:Pol) (now:Int) (w:World):Calls Tryz.prog 57 #[p.v,.int .i64 now] w fun e w'=>e=.returned ((newB p now).v none 0 0)∧Below w.heap.size w w':=by
 have hck:=r4chk p
 unfold newB
 by_cases h:okB p
 ·rw [if_pos h]
  rw[show chkB p=0 from if_pos h] at hck
  obtain⟨k,l,d,b,cc,o⟩:=p
  have hcl:=rclamp_any now
  have hw2:IntKind.i64.wrap (b*d)=b*d:=by
   obtain⟨q0,q1,q2,q3,q4,q5,q6,q7⟩:=h
   dsimp only at *
   have h2:b*d≤1152921504606846976:=prod_le (by omega) (by omega) (by omega)
   have h3:0≤b*d:=Int.mul_nonneg (by omega) (by omega)
   exact IntWalk.i64_in _ (by omega)
  clear h
  unfold St.v Pol.v at *
  dsimp only at *
  generalize clampT now=T at *
  have HCK:=Go.Lib.hid hck
  have HCL:=Go.Lib.hid hcl
  clear hck hcl
  go_enter Tryz.func57,Tryz.ntmps57
  go_wp2_with fail
  refine(HCK.out _).mono ?_
  rintro e w1 ⟨rfl,hb⟩
  have hx:Below w.heap.size w w1:=bl_then k2 hb
  have hsz1:w.heap.size+2≤w1.heap.size:=szl hb
  obtain⟨p0,p1,p2,p3,p4,p5⟩:=b6 (w.heap.size) k l d b cc o hb
  have rR:=res_bl (b:=w.heap.size+1) (res_new _ _ _ _ _ _ (by simp)) hb
  have hB:Below w.heap.size w w1:=hx
  have lb_p:=lbc p0
  clear hb hx
  go_wp2_with fail
  refine wp_region_held_drew (S:=fun w'=>P6 w' (w.heap.size) k l d b cc o (ResB w' (w.heap.size+1)∧Below w.heap.size w w')) (by kernel_rfl) ?_ (fun hHeld=>?_)
  ·exact⟨p0,p1,p2,p3,p4,p5,rR,bl_drew hB⟩
  try simp only[Act.put,List.setIfInBounds_toArray,List.set_cons_zero,List.set_cons_succ]
  refine tkx 0 ?_
  refine tkx 2 ?_
  refine tkx 3 ?_
  refine tkx 4 ?_
  refine tkx 5 ?_
  refine tkx 6 ?_
  refine callH (i:=1) rfl hHeld (fun W hW K hK=>?_);clear hHeld;(try dsimp only at hW);go_simp;refine(HCL.out _).mono ?_;rintro e w9 ⟨rfl,rfl⟩;go_wp2_with fail;refine hK.out _ _ ?_ (fun hHeld=>?_);(focus((try dsimp only);exact hW));clear hK K;try simp only[Act.put,List.setIfInBounds_toArray,List.set_cons_zero,List.set_cons_succ]
  refine tkx 7 ?_
  refine callC (i:=8) rfl (fun K hK=>?_)
  obtain⟨h_p0,h_p1,h_p2,h_p3,h_p4,h_p5,h_rR,h_B⟩:=(id hHeld)
  obtain⟨f0,f1,f2,f3,u0,u1,u2,u3,i0,i1,i2,i3⟩:=res_all h_rR
  go_simp
  refine hK.out _ _ ?_ (fun hHeld2=>?_)
  ·(try dsimp only);exact⟨far4 h_p0 (by dsimp only;omega),far4 h_p1 (by dsimp only;omega),far4 h_p2 (by dsimp only;omega),far4 h_p3 (by dsimp only;omega),far4 h_p4 (by dsimp only;omega),far4 h_p5 (by dsimp only;omega),res4 h_rR,bl4 h_B (by omega)⟩
  try simp only[Act.put,List.setIfInBounds_toArray,List.set_cons_zero,List.set_cons_succ]
  refine wpAnyH_done (by kernel_rfl) ?_ _
  have hE:=hHeld2.2.2.2.2.2.2.2
  go_wp2_with fail
  (try simp only[Exit.inBlock,Exit.then])
  refine bodyPost_ret (results_state rfl _ _ (by rfl) (set4r h_rR)) rfl ⟨rfl,hE⟩
 ·rw[if_neg h]
  rw[show chkB p=2 from if_neg h] at hck
  obtain⟨k,l,d,b,cc,o⟩:=p
  clear h
  unfold St.none St.v Pol.v at *
  dsimp only at *
  have HCK:=Go.Lib.hid hck
  clear hck
  go_enter Tryz.func57,Tryz.ntmps57
  go_wp2_with fail
  refine(HCK.out _).mono ?_
  rintro e w1 ⟨rfl,hb⟩
  have hx:Below w.heap.size w w1:=bl_then k2 hb
  have hsz1:w.heap.size+2≤w1.heap.size:=szl hb
  obtain⟨p0,p1,p2,p3,p4,p5⟩:=b6 (w.heap.size) k l d b cc o hb
  have rR:=res_bl (b:=w.heap.size+1) (res_new _ _ _ _ _ _ (by simp)) hb
  have hB:Below w.heap.size w w1:=hx
  have lb_p:=lbc p0
  clear hb hx
  obtain⟨f0,f1,f2,f3,u0,u1,u2,u3,i0,i1,i2,i3⟩:=res_all rR
  go_wp2_with fail
  (try simp only[Exit.inBlock,Exit.then,Exit.noGoto_ret])
  refine bodyPost_ret (results_state rfl _ _ (by rfl) (set4r (rR))) rfl ⟨rfl,bl4 (hB) (by omega)⟩
theorem r5new (p:Pol) (now:Int) (w:World):Calls Tryz.prog 58 #[p.v,.int .i64 now] w fun e w'=>e=.returned ((newG p now).v none 0 0)∧Below w.heap.size w w':=by
 have hck:=r5chk p
 unfold newG
 by_cases h:okG p
 ·rw[if_pos h]
  rw[show chkG p=0 from if_pos h] at hck
  obtain⟨k,l,d,b,cc,o⟩:=p
  have hcl:=rclamp_any now
  clear h
  unfold St.v Pol.v at *
  dsimp only at *
  generalize clampT now=T at *
  have HCK:=Go.Lib.hid hck
  have HCL:=Go.Lib.hid hcl
  clear hck hcl
  go_enter Tryz.func58,Tryz.ntmps58
  go_wp2_with fail
  refine(HCK.out _).mono ?_
  rintro e w1 ⟨rfl,hb⟩
  have hx:Below w.heap.size w w1:=bl_then k2 hb
  have hsz1:w.heap.size+2≤w1.heap.size:=szl hb
  obtain⟨p0,p1,p2,p3,p4,p5⟩:=b6 (w.heap.size) k l d b cc o hb
  have rR:=res_bl (b:=w.heap.size+1) (res_new _ _ _ _ _ _ (by simp)) hb
  have hB:Below w.heap.size w w1:=hx
  have lb_p:=lbc p0
  clear hb hx
  go_wp2_with fail
  refine(HCL.out _).mono ?_
  rintro e w2 ⟨rfl,rfl⟩
  obtain⟨f0,f1,f2,f3,u0,u1,u2,u3,i0,i1,i2,i3⟩:=res_all rR
  go_wp2_with fail
  (try simp only[Exit.inBlock,Exit.then,Exit.noGoto_ret])
  refine bodyPost_ret (results_state rfl _ _ (by rfl) (set4r (rR))) rfl ⟨rfl,bl4 (hB) (by omega)⟩
 ·rw[if_neg h]
  rw[show chkG p=2 from if_neg h] at hck
  obtain⟨k,l,d,b,cc,o⟩:=p
  clear h
  unfold St.none St.v Pol.v at *
  dsimp only at *
  have HCK:=Go.Lib.hid hck
  clear hck
  go_enter Tryz.func58,Tryz.ntmps58
  go_wp2_with fail
  refine(HCK.out _).mono ?_
  rintro e w1 ⟨rfl,hb⟩
  have hx:Below w.heap.size w w1:=bl_then k2 hb
  have hsz1:w.heap.size+2≤w1.heap.size:=szl hb
  obtain⟨p0,p1,p2,p3,p4,p5⟩:=b6 (w.heap.size) k l d b cc o hb
  have rR:=res_bl (b:=w.heap.size+1) (res_new _ _ _ _ _ _ (by simp)) hb
  have hB:Below w.heap.size w w1:=hx
  have lb_p:=lbc p0
  clear hb hx
  obtain⟨f0,f1,f2,f3,u0,u1,u2,u3,i0,i1,i2,i3⟩:=res_all rR
  go_wp2_with fail
  (try simp only[Exit.inBlock,Exit.then,Exit.noGoto_ret])
  refine bodyPost_ret (results_state rfl _ _ (by rfl) (set4r (rR))) rfl ⟨rfl,bl4 (hB) (by omega)⟩
theorem r7new (p:Pol) (now:Int) (w:World):Calls Tryz.prog 60 #[p.v,.int .i64 now] w fun e w'=>e=.returned ((newC p now).v none 0 0)∧Below w.heap.size w w':=by
 have hck:=r7chk p
 unfold newC
 by_cases h:okC p
 ·rw[if_pos h]
  rw[show chkC p=0 from if_pos h] at hck
  obtain⟨k,l,d,b,cc,o⟩:=p
  have hcl:=rclamp_any now
  clear h
  unfold St.v Pol.v at *
  dsimp only at *
  generalize clampT now=T at *
  have HCK:=Go.Lib.hid hck
  have HCL:=Go.Lib.hid hcl
  clear hck hcl
  go_enter Tryz.func60,Tryz.ntmps60
  go_wp2_with fail
  refine(HCK.out _).mono ?_
  rintro e w1 ⟨rfl,hb⟩
  have hx:Below w.heap.size w w1:=bl_then k2 hb
  have hsz1:w.heap.size+2≤w1.heap.size:=szl hb
  obtain⟨p0,p1,p2,p3,p4,p5⟩:=b6 (w.heap.size) k l d b cc o hb
  have rR:=res_bl (b:=w.heap.size+1) (res_new _ _ _ _ _ _ (by simp)) hb
  have hB:Below w.heap.size w w1:=hx
  have lb_p:=lbc p0
  clear hb hx
  go_wp2_with fail
  refine(HCL.out _).mono ?_
  rintro e w2 ⟨rfl,rfl⟩
  obtain⟨f0,f1,f2,f3,u0,u1,u2,u3,i0,i1,i2,i3⟩:=res_all rR
  go_wp2_with fail
  (try simp only[Exit.inBlock,Exit.then,Exit.noGoto_ret])
  refine bodyPost_ret (results_state rfl _ _ (by rfl) (set4r (rR))) rfl ⟨rfl,bl4 (hB) (by omega)⟩
 ·rw[if_neg h]
  rw[show chkC p=2 from if_neg h] at hck
  obtain⟨k,l,d,b,cc,o⟩:=p
  clear h
  unfold St.none St.v Pol.v at *
  dsimp only at *
  have HCK:=Go.Lib.hid hck
  clear hck
  go_enter Tryz.func60,Tryz.ntmps60
  go_wp2_with fail
  refine(HCK.out _).mono ?_
  rintro e w1 ⟨rfl,hb⟩
  have hx:Below w.heap.size w w1:=bl_then k2 hb
  have hsz1:w.heap.size+2≤w1.heap.size:=szl hb
  obtain⟨p0,p1,p2,p3,p4,p5⟩:=b6 (w.heap.size) k l d b cc o hb
  have rR:=res_bl (b:=w.heap.size+1) (res_new _ _ _ _ _ _ (by simp)) hb
  have hB:Below w.heap.size w w1:=hx
  have lb_p:=lbc p0
  clear hb hx
  obtain⟨f0,f1,f2,f3,u0,u1,u2,u3,i0,i1,i2,i3⟩:=res_all rR
  go_wp2_with fail
  (try simp only[Exit.inBlock,Exit.then,Exit.noGoto_ret])
  refine bodyPost_ret (results_state rfl _ _ (by rfl) (set4r (rR))) rfl ⟨rfl,bl4 (hB) (by omega)⟩




end Go.Proofs.YtmhikkbdhboodaaGreat
