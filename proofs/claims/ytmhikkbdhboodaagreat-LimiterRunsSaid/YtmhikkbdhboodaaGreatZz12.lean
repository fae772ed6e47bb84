/-
  What tapsterref06.New answers.
  What tapsterref04.New answers.
  What tapsterref05.New answers.
  What tapsterref07.New answers.
  What limiter.Most answers.
  What tapsterref08.Check and tapsterref08.Most answer.
  What a kernel's methods answer, whatever function stands in it: right, until, retry, advance.
  What bucket.Until answers.
  What gcra.Until answers.
  What limiter.Right, Until, Advance and Fresh answer.
  What gcra.Retry answers.
  What bucket.Retry answers.
  What limiter.Retry answers.
  No condition.
-/
import Derived.Test.YtmhikkbdhboodaaGreatZz1
import Derived.Test.YtmhikkbdhboodaaGreatZz2
import Derived.Test.YtmhikkbdhboodaaGreatZz5
import Derived.Test.YtmhikkbdhboodaaGreatZz6
import Derived.Test.YtmhikkbdhboodaaGreatZz8
set_option maxHeartbeats 8000000
set_option maxRecDepth 100000
namespace Go.Proofs.YtmhikkbdhboodaaGreat
open Go.RowKit
set_option linter.unusedVariables false
set_option linter.unusedSimpArgs false

theorem r6new (p:Pol) (now:Int) (w:World):Calls Tryz.prog 59 #[p.v,.int .i64 now] w fun e w'=>e=.returned ((newL p now).v none 0 0)∧Below w.heap.size w w':=by
  have hck:=r6chk p
  unfold newL
  by_cases h:okL p
  · rw[if_pos h]
    rw[show chkL p=0 from if_pos h] at hck
    obtain⟨k,l,d,b,cc,o⟩:=p
    have hcl:=rclamp_any now
    clear h
    unfold St.v Pol.v at *
    dsimp only at *
    generalize clampT now=T at *
    have HCK:=Go.Lib.hid hck
    have HCL:=Go.Lib.hid hcl
    clear hck hcl
    go_enter Tryz.func59,Tryz.ntmps59
    go_wp2_with fail
    refine(HCK.out _).mono ?_
    rintro e w1 ⟨rfl,hb⟩
    have hx:Below w.heap.size w w1:=bl_then k2 hb
    have hsz1:w.heap.size+2≤w1.heap.size:=szl hb
    obtain⟨p0,p1,p2,p3,p4,p5⟩:=b6 (w.heap.size) k l d b cc o hb
    have rR:=res_bl (b:=w.heap.size+1) (res_new _ _ _ _ _ _ (by simp)) hb
    have hB:Below w.heap.size w w1:=hx
    have lb_p:=lbc p0
    clear hb hx
    go_wp2_with fail
    refine(HCL.out _).mono ?_
    rintro e w2 ⟨rfl,rfl⟩
    obtain⟨f0,f1,f2,f3,u0,u1,u2,u3,i0,i1,i2,i3⟩:=res_all rR
    go_wp2_with fail
    (try simp only[Exit.inBlock,Exit.then,Exit.noGoto_ret])
    refine bodyPost_ret (results_state rfl _ _ (by rfl) (set4r (rR))) rfl ⟨rfl,bl4 (hB) (by omega)⟩
  · rw[if_neg h]
    rw[show chkL p=2 from if_neg h] at hck
    obtain⟨k,l,d,b,cc,o⟩:=p
    clear h
    unfold St.none St.v Pol.v at *
    dsimp only at *
    have HCK:=Go.Lib.hid hck
    clear hck
    go_enter Tryz.func59,Tryz.ntmps59
    go_wp2_with fail
    refine(HCK.out _).mono ?_
    rintro e w1 ⟨rfl,hb⟩
    have hx:Below w.heap.size w w1:=bl_then k2 hb
    have hsz1:w.heap.size+2≤w1.heap.size:=szl hb
    obtain⟨p0,p1,p2,p3,p4,p5⟩:=b6 (w.heap.size) k l d b cc o hb
    have rR:=res_bl (b:=w.heap.size+1) (res_new _ _ _ _ _ _ (by simp)) hb
    have hB:Below w.heap.size w w1:=hx
    have lb_p:=lbc p0
    clear hb hx
    obtain⟨f0,f1,f2,f3,u0,u1,u2,u3,i0,i1,i2,i3⟩:=res_all rR
    go_wp2_with fail
    (try simp only[Exit.inBlock,Exit.then,Exit.noGoto_ret])
    refine bodyPost_ret (results_state rfl _ _ (by rfl) (set4r (rR))) rfl ⟨rfl,bl4 (hB) (by omega)⟩
theorem r4new (p:Pol) (now:Int) (w:World):Calls Tryz.prog 57 #[p.v,.int .i64 now] w fun e w'=>e=.returned ((newB p now).v none 0 0)∧Below w.heap.size w w':=by
  have hck:=r4chk p
  unfold newB
  by_cases h:okB p
  · rw [if_pos h]
    rw[show chkB p=0 from if_pos h] at hck
    obtain⟨k,l,d,b,cc,o⟩:=p
    have hcl:=rclamp_any now
    have hw2:IntKind.i64.wrap (b*d)=b*d:=by
      obtain⟨q0,q1,q2,q3,q4,q5,q6,q7⟩:=h
      dsimp only at *
      have h2:b*d≤1152921504606846976:=prod_le (by omega) (by omega) (by omega)
      have h3:0≤b*d:=Int.mul_nonneg (by omega) (by omega)
      exact IntWalk.i64_in _ (by omega)
    clear h
    unfold St.v Pol.v at *
    dsimp only at *
    generalize clampT now=T at *
    have HCK:=Go.Lib.hid hck
    have HCL:=Go.Lib.hid hcl
    clear hck hcl
    go_enter Tryz.func57,Tryz.ntmps57
    go_wp2_with fail
    refine(HCK.out _).mono ?_
    rintro e w1 ⟨rfl,hb⟩
    have hx:Below w.heap.size w w1:=bl_then k2 hb
    have hsz1:w.heap.size+2≤w1.heap.size:=szl hb
    obtain⟨p0,p1,p2,p3,p4,p5⟩:=b6 (w.heap.size) k l d b cc o hb
    have rR:=res_bl (b:=w.heap.size+1) (res_new _ _ _ _ _ _ (by simp)) hb
    have hB:Below w.heap.size w w1:=hx
    have lb_p:=lbc p0
    clear hb hx
    go_wp2_with fail
    refine wp_region_held_drew (S:=fun w'=>P6 w' (w.heap.size) k l d b cc o (ResB w' (w.heap.size+1)∧Below w.heap.size w w')) (by kernel_rfl) ?_ (fun hHeld=>?_)
    · exact⟨p0,p1,p2,p3,p4,p5,rR,bl_drew hB⟩
    try simp only[Act.put,List.setIfInBounds_toArray,List.set_cons_zero,List.set_cons_succ]
    refine tkx 0 ?_
    refine tkx 2 ?_
    refine tkx 3 ?_
    refine tkx 4 ?_
    refine tkx 5 ?_
    refine tkx 6 ?_
    refine callH (i:=1) rfl hHeld (fun W hW K hK=>?_);clear hHeld;(try dsimp only at hW);go_simp;refine(HCL.out _).mono ?_;rintro e w9 ⟨rfl,rfl⟩;go_wp2_with fail;refine hK.out _ _ ?_ (fun hHeld=>?_);(focus((try dsimp only);exact hW));clear hK K;try simp only[Act.put,List.setIfInBounds_toArray,List.set_cons_zero,List.set_cons_succ]
    refine tkx 7 ?_
    refine callC (i:=8) rfl (fun K hK=>?_)
    obtain⟨h_p0,h_p1,h_p2,h_p3,h_p4,h_p5,h_rR,h_B⟩:=(id hHeld)
    obtain⟨f0,f1,f2,f3,u0,u1,u2,u3,i0,i1,i2,i3⟩:=res_all h_rR
    go_simp
    refine hK.out _ _ ?_ (fun hHeld2=>?_)
    · (try dsimp only);exact⟨far4 h_p0 (by dsimp only;omega),far4 h_p1 (by dsimp only;omega),far4 h_p2 (by dsimp only;omega),far4 h_p3 (by dsimp only;omega),far4 h_p4 (by dsimp only;omega),far4 h_p5 (by dsimp only;omega),res4 h_rR,bl4 h_B (by omega)⟩
    try simp only[Act.put,List.setIfInBounds_toArray,List.set_cons_zero,List.set_cons_succ]
    refine wpAnyH_done (by kernel_rfl) ?_ _
    have hE:=hHeld2.2.2.2.2.2.2.2
    go_wp2_with fail
    (try simp only[Exit.inBlock,Exit.then])
    refine bodyPost_ret (results_state rfl _ _ (by rfl) (set4r h_rR)) rfl ⟨rfl,hE⟩
  · rw[if_neg h]
    rw[show chkB p=2 from if_neg h] at hck
    obtain⟨k,l,d,b,cc,o⟩:=p
    clear h
    unfold St.none St.v Pol.v at *
    dsimp only at *
    have HCK:=Go.Lib.hid hck
    clear hck
    go_enter Tryz.func57,Tryz.ntmps57
    go_wp2_with fail
    refine(HCK.out _).mono ?_
    rintro e w1 ⟨rfl,hb⟩
    have hx:Below w.heap.size w w1:=bl_then k2 hb
    have hsz1:w.heap.size+2≤w1.heap.size:=szl hb
    obtain⟨p0,p1,p2,p3,p4,p5⟩:=b6 (w.heap.size) k l d b cc o hb
    have rR:=res_bl (b:=w.heap.size+1) (res_new _ _ _ _ _ _ (by simp)) hb
    have hB:Below w.heap.size w w1:=hx
    have lb_p:=lbc p0
    clear hb hx
    obtain⟨f0,f1,f2,f3,u0,u1,u2,u3,i0,i1,i2,i3⟩:=res_all rR
    go_wp2_with fail
    (try simp only[Exit.inBlock,Exit.then,Exit.noGoto_ret])
    refine bodyPost_ret (results_state rfl _ _ (by rfl) (set4r (rR))) rfl ⟨rfl,bl4 (hB) (by omega)⟩
theorem r5new (p:Pol) (now:Int) (w:World):Calls Tryz.prog 58 #[p.v,.int .i64 now] w fun e w'=>e=.returned ((newG p now).v none 0 0)∧Below w.heap.size w w':=by
  have hck:=r5chk p
  unfold newG
  by_cases h:okG p
  · rw[if_pos h]
    rw[show chkG p=0 from if_pos h] at hck
    obtain⟨k,l,d,b,cc,o⟩:=p
    have hcl:=rclamp_any now
    clear h
    unfold St.v Pol.v at *
    dsimp only at *
    generalize clampT now=T at *
    have HCK:=Go.Lib.hid hck
    have HCL:=Go.Lib.hid hcl
    clear hck hcl
    go_enter Tryz.func58,Tryz.ntmps58
    go_wp2_with fail
    refine(HCK.out _).mono ?_
    rintro e w1 ⟨rfl,hb⟩
    have hx:Below w.heap.size w w1:=bl_then k2 hb
    have hsz1:w.heap.size+2≤w1.heap.size:=szl hb
    obtain⟨p0,p1,p2,p3,p4,p5⟩:=b6 (w.heap.size) k l d b cc o hb
    have rR:=res_bl (b:=w.heap.size+1) (res_new _ _ _ _ _ _ (by simp)) hb
    have hB:Below w.heap.size w w1:=hx
    have lb_p:=lbc p0
    clear hb hx
    go_wp2_with fail
    refine(HCL.out _).mono ?_
    rintro e w2 ⟨rfl,rfl⟩
    obtain⟨f0,f1,f2,f3,u0,u1,u2,u3,i0,i1,i2,i3⟩:=res_all rR
    go_wp2_with fail
    (try simp only[Exit.inBlock,Exit.then,Exit.noGoto_ret])
    refine bodyPost_ret (results_state rfl _ _ (by rfl) (set4r (rR))) rfl ⟨rfl,bl4 (hB) (by omega)⟩
  · rw[if_neg h]
    rw[show chkG p=2 from if_neg h] at hck
    obtain⟨k,l,d,b,cc,o⟩:=p
    clear h
    unfold St.none St.v Pol.v at *
    dsimp only at *
    have HCK:=Go.Lib.hid hck
    clear hck
    go_enter Tryz.func58,Tryz.ntmps58
    go_wp2_with fail
    refine(HCK.out _).mono ?_
    rintro e w1 ⟨rfl,hb⟩
    have hx:Below w.heap.size w w1:=bl_then k2 hb
    have hsz1:w.heap.size+2≤w1.heap.size:=szl hb
    obtain⟨p0,p1,p2,p3,p4,p5⟩:=b6 (w.heap.size) k l d b cc o hb
    have rR:=res_bl (b:=w.heap.size+1) (res_new _ _ _ _ _ _ (by simp)) hb
    have hB:Below w.heap.size w w1:=hx
    have lb_p:=lbc p0
    clear hb hx
    obtain⟨f0,f1,f2,f3,u0,u1,u2,u3,i0,i1,i2,i3⟩:=res_all rR
    go_wp2_with fail
    (try simp only[Exit.inBlock,Exit.then,Exit.noGoto_ret])
    refine bodyPost_ret (results_state rfl _ _ (by rfl) (set4r (rR))) rfl ⟨rfl,bl4 (hB) (by omega)⟩
theorem r7new (p:Pol) (now:Int) (w:World):Calls Tryz.prog 60 #[p.v,.int .i64 now] w fun e w'=>e=.returned ((newC p now).v none 0 0)∧Below w.heap.size w w':=by
  have hck:=r7chk p
  unfold newC
  by_cases h:okC p
  · rw[if_pos h]
    rw[show chkC p=0 from if_pos h] at hck
    obtain⟨k,l,d,b,cc,o⟩:=p
    have hcl:=rclamp_any now
    clear h
    unfold St.v Pol.v at *
    dsimp only at *
    generalize clampT now=T at *
    have HCK:=Go.Lib.hid hck
    have HCL:=Go.Lib.hid hcl
    clear hck hcl
    go_enter Tryz.func60,Tryz.ntmps60
    go_wp2_with fail
    refine(HCK.out _).mono ?_
    rintro e w1 ⟨rfl,hb⟩
    have hx:Below w.heap.size w w1:=bl_then k2 hb
    have hsz1:w.heap.size+2≤w1.heap.size:=szl hb
    obtain⟨p0,p1,p2,p3,p4,p5⟩:=b6 (w.heap.size) k l d b cc o hb
    have rR:=res_bl (b:=w.heap.size+1) (res_new _ _ _ _ _ _ (by simp)) hb
    have hB:Below w.heap.size w w1:=hx
    have lb_p:=lbc p0
    clear hb hx
    go_wp2_with fail
    refine(HCL.out _).mono ?_
    rintro e w2 ⟨rfl,rfl⟩
    obtain⟨f0,f1,f2,f3,u0,u1,u2,u3,i0,i1,i2,i3⟩:=res_all rR
    go_wp2_with fail
    (try simp only[Exit.inBlock,Exit.then,Exit.noGoto_ret])
    refine bodyPost_ret (results_state rfl _ _ (by rfl) (set4r (rR))) rfl ⟨rfl,bl4 (hB) (by omega)⟩
  · rw[if_neg h]
    rw[show chkC p=2 from if_neg h] at hck
    obtain⟨k,l,d,b,cc,o⟩:=p
    clear h
    unfold St.none St.v Pol.v at *
    dsimp only at *
    have HCK:=Go.Lib.hid hck
    clear hck
    go_enter Tryz.func60,Tryz.ntmps60
    go_wp2_with fail
    refine(HCK.out _).mono ?_
    rintro e w1 ⟨rfl,hb⟩
    have hx:Below w.heap.size w w1:=bl_then k2 hb
    have hsz1:w.heap.size+2≤w1.heap.size:=szl hb
    obtain⟨p0,p1,p2,p3,p4,p5⟩:=b6 (w.heap.size) k l d b cc o hb
    have rR:=res_bl (b:=w.heap.size+1) (res_new _ _ _ _ _ _ (by simp)) hb
    have hB:Below w.heap.size w w1:=hx
    have lb_p:=lbc p0
    clear hb hx
    obtain⟨f0,f1,f2,f3,u0,u1,u2,u3,i0,i1,i2,i3⟩:=res_all rR
    go_wp2_with fail
    (try simp only[Exit.inBlock,Exit.then,Exit.noGoto_ret])
    refine bodyPost_ret (results_state rfl _ _ (by rfl) (set4r (rR))) rfl ⟨rfl,bl4 (hB) (by omega)⟩
theorem newP_log (p:Pol) (now:Int):(newP p now).log=[]:=by
  unfold newP newG newL newC newB St.none
  repeat' split
  all_goals rfl
def mostP (p:Pol):Int:=if chkP p=0 then roomP p (newP p 0) 0 else 0
theorem lmost_any (p:Pol) (w:World):Calls Tryz.prog 18 #[p.v] w fun e w'=>e=.returned (.int .i64 (mostP p))∧Below w.heap.size w w':=by
  have hck:=lcheck_any p
  have hnw:=lnew_any p 0
  have hrm:=fun W=>lroom_any p (newP p 0) none 0 0 0 W (by rw[newP_log];exact log_nil _ _ _ (by omega))
  unfold mostP
  generalize chkP p=C at *
  generalize roomP p (newP p 0) 0=R at *
  generalize newP p 0=A at *
  obtain⟨k,l,d,b,cc,o⟩:=p
  obtain⟨aat,alv,ahd,L⟩:=A
  unfold St.v Pol.v at *
  dsimp only at *
  have HCK:=Go.Lib.hid hck
  have HNW:=Go.Lib.hid hnw
  have HRM:=Go.Lib.hid hrm
  clear hck hnw hrm
  by_cases hC:C=0
  · rw[if_pos hC]
    subst hC
    go_enter Tryz.func18,Tryz.ntmps18
    go_wp2_with fail
    refine(HCK.out _).mono ?_
    rintro e w1 ⟨rfl,hb⟩
    have hB:Below w.heap.size w w1:=bl_then k1 hb
    obtain⟨c0,c1,c2,c3,c4,c5⟩:=b6 (w.heap.size) k l d b cc o hb
    clear hb HCK
    go_wp2_with fail
    refine wp_region_held_drew (S:=fun w'=>P6 w' (w.heap.size) k l d b cc o (Below w.heap.size w w')) (by kernel_rfl) ?_ (fun hHeld=>?_)
    · exact⟨c0,c1,c2,c3,c4,c5,bl_drew hB⟩
    try simp only[Act.put,List.setIfInBounds_toArray,List.set_cons_zero,List.set_cons_succ]
    all_goals refine tkx 0 ?_
    all_goals refine tkx 1 ?_
    all_goals((refine callH (i:=2) rfl hHeld (fun W hW K hK=>?_);clear hHeld;(try dsimp only at hW);go_simp;refine(HNW.out _).mono ?_;rintro e w1 ⟨rfl,hb⟩;go_wp2_with fail;refine hK.out _ _ ?_ (fun hHeld=>?_);(focus((try dsimp only);(obtain⟨h0,h1,h2,h3,h4,h5,hB'⟩:=hW;exact⟨bl_cell hb h0,bl_cell hb h1,bl_cell hb h2,bl_cell hb h3,bl_cell hb h4,bl_cell hb h5,bl_then hB' hb⟩)));clear hK K;try simp only[Act.put,List.setIfInBounds_toArray,List.set_cons_zero,List.set_cons_succ]))
    all_goals((refine callH (i:=3) rfl hHeld (fun W hW K hK=>?_);clear hHeld;(try dsimp only at hW);go_simp;refine(HRM.out _).mono ?_;rintro e w1 ⟨rfl,hb⟩;go_wp2_with fail;refine hK.out _ _ ?_ (fun hHeld=>?_);(focus((try dsimp only);(obtain⟨h0,h1,h2,h3,h4,h5,hB'⟩:=hW;exact⟨bl_cell hb h0,bl_cell hb h1,bl_cell hb h2,bl_cell hb h3,bl_cell hb h4,bl_cell hb h5,bl_then hB' hb⟩)));clear hK K;try simp only[Act.put,List.setIfInBounds_toArray,List.set_cons_zero,List.set_cons_succ]))
    all_goals refine tkx 4 ?_
    all_goals(refine wpAnyH_done (by kernel_rfl) ?_ _)
    obtain⟨-,-,-,-,-,-,hE⟩:=hHeld
    repeat' (first|go_skip|go_guarded|go_step|go_upon)
    go_ret
    exact⟨rfl,hE⟩
  · rw[if_neg hC]
    go_enter Tryz.func18,Tryz.ntmps18
    go_wp2_with fail
    refine(HCK.out _).mono ?_
    rintro e w1 ⟨rfl,hb⟩
    have hB:Below w.heap.size w w1:=bl_then k1 hb
    go_wp2_with fail
    go_ret
    exact⟨rfl,hB⟩
theorem r8chk (p:Pol) (w:World):Calls Tryz.prog 22 #[p.v] w fun e w'=>e=.returned (.int .i64 (chkP p))∧Below w.heap.size w w':=by
  have h4:=r4chk p
  have h5:=r5chk p
  have h6:=r6chk p
  have h7:=r7chk p
  have hB:p.kind≠1→chkB p=2:=fun h=>(chk_no (fun z=>h z.1)).symm
  have HB:=Go.Lib.hid hB
  unfold chkP
  generalize chkB p=CB at *
  generalize chkG p=CG at *
  generalize chkL p=CL at *
  generalize chkC p=CC at *
  obtain⟨k,l,d,b,c,o⟩:=p
  unfold Pol.v at *
  dsimp only at *
  have H4:=Go.Lib.hid h4
  have H5:=Go.Lib.hid h5
  have H6:=Go.Lib.hid h6
  have H7:=Go.Lib.hid h7
  clear h4 h5 h6 h7 hB
  by_cases k2:k=2
  · subst k2
    rw[if_pos rfl]
    go_enter Tryz.func22,Tryz.ntmps22
    go_wp2_with go_step3
    refine(H5.out _).mono ?_
    rintro e w1 ⟨rfl,hb⟩
    go_wp2_with go_step3
    go_ret
    exact⟨rfl,bl_then (bl_alloc (bl_refl _) _) hb⟩
  by_cases k3:k=3
  · subst k3
    rw[if_neg (by omega),if_pos rfl]
    go_enter Tryz.func22,Tryz.ntmps22
    go_wp2_with go_step3
    refine(H6.out _).mono ?_
    rintro e w1 ⟨rfl,hb⟩
    go_wp2_with go_step3
    go_ret
    exact⟨rfl,bl_then (bl_alloc (bl_refl _) _) hb⟩
  by_cases k4:k=4
  · subst k4
    rw[if_neg (by omega),if_neg (by omega),if_pos rfl]
    go_enter Tryz.func22,Tryz.ntmps22
    go_wp2_with go_step3
    refine(H7.out _).mono ?_
    rintro e w1 ⟨rfl,hb⟩
    go_wp2_with go_step3
    go_ret
    exact⟨rfl,bl_then (bl_alloc (bl_refl _) _) hb⟩
  by_cases k1:k=1
  · subst k1
    rw[if_neg (by omega),if_neg (by omega),if_neg (by omega)]
    go_enter Tryz.func22,Tryz.ntmps22
    go_wp2_with go_step3
    refine(H4.out _).mono ?_
    rintro e w1 ⟨rfl,hb⟩
    go_wp2_with go_step3
    go_ret
    exact⟨rfl,bl_then (bl_alloc (bl_refl _) _) hb⟩
  rw[if_neg k2,if_neg k3,if_neg k4,HB.out k1]
  go_enter Tryz.func22,Tryz.ntmps22
  go_wp2_with go_step3
  go_ret
  exact⟨rfl,bl_alloc (bl_refl _) _⟩
/-- The greatest cost of a policy that may be. -/
def capP (p:Pol):Int:=if p.kind≤2 then p.burst else p.limit
theorem r8most (p:Pol) (w:World):Calls Tryz.prog 19 #[p.v] w fun e w'=>e=.returned (.int .i64 (if chkP p=0 then capP p else 0))∧Below w.heap.size w w':=by
  have h8:=r8chk p
  unfold capP
  generalize chkP p=C at *
  obtain⟨k,l,d,b,c,o⟩:=p
  unfold Pol.v at *
  dsimp only at *
  have H8:=Go.Lib.hid h8
  clear h8
  by_cases hC:C=0
  · rw [if_pos hC]
    subst hC
    by_cases hk:k≤2
    · rw[if_pos hk]
      go_enter Tryz.func19,Tryz.ntmps19
      go_wp2_with fail
      refine(H8.out _).mono ?_
      rintro e w1 ⟨rfl,hb⟩
      have c0:=bl_cell (v:=.int .i64 k) hb (show World.cell? _ ⟨w.heap.size,0,none⟩=_ by go_simp)
      have c3:=bl_cell (v:=.int .i64 b) hb (show World.cell? _ ⟨w.heap.size,3,none⟩=_ by go_simp)
      go_wp2_with fail
      go_ret
      exact⟨rfl,bl_then (bl_alloc (bl_refl _) _) hb⟩
    · rw[if_neg hk]
      go_enter Tryz.func19,Tryz.ntmps19
      go_wp2_with fail
      refine(H8.out _).mono ?_
      rintro e w1 ⟨rfl,hb⟩
      have c0:=bl_cell (v:=.int .i64 k) hb (show World.cell? _ ⟨w.heap.size,0,none⟩=_ by go_simp)
      have c1:=bl_cell (v:=.int .i64 l) hb (show World.cell? _ ⟨w.heap.size,1,none⟩=_ by go_simp)
      go_wp2_with fail
      go_ret
      exact⟨rfl,bl_then (bl_alloc (bl_refl _) _) hb⟩
  · rw[if_neg hC]
    go_enter Tryz.func19,Tryz.ntmps19
    go_wp2_with fail
    refine(H8.out _).mono ?_
    rintro e w1 ⟨rfl,hb⟩
    go_wp2_with fail
    go_ret
    exact⟨rfl,bl_then (bl_alloc (bl_refl _) _) hb⟩
theorem made_right (g:Nat) (eg:Enters g) (f0 f1 f3 f4 f5 f6 f7:Value) (p:Pol) (s:St) (a:Option Addr) (n c:Nat) (R:Bool) (hc:∀ w,LogAt w a n c s.log→Calls Tryz.prog g #[p.v,s.v a n c] w fun e w'=>e=.returned (.bool R)∧Below w.heap.size w w') (w:World) (hl:LogAt w a n c s.log) :
    Calls Tryz.prog 210 #[.agg #[f0,f1,fv g,f3,f4,f5,f6,f7],p.v,s.v a n c] w fun e w'=>e=.returned (.bool R)∧Below w.heap.size w w':=by
  obtain⟨k,l,d,b,cc,o⟩:=p
  obtain⟨at_,level,held,L⟩:=s
  unfold St.v Pol.v at *
  unfold fv
  unfold Enters at eg
  dsimp only at *
  have HC:=Go.Lib.hid hc
  have HL:=Go.Lib.hid hl
  clear hc hl
  go_enter Tryz.func210,Tryz.ntmps210
  go_wp2_with fail
  refine(HC.out _ (log_bl HL.out k3)).mono ?_
  rintro e w1 ⟨rfl,hb⟩
  go_wp2_with fail
  go_ret
  exact⟨rfl,bl_then k3 hb⟩
theorem made_until (g:Nat) (eg:Enters g) (f0 f1 f2 f3 f4 f5 f7:Value) (p:Pol) (s:St) (a:Option Addr) (n c:Nat) (now:Int) (R:Int) (hc:∀ w,LogAt w a n c s.log→Calls Tryz.prog g #[p.v,s.v a n c,.int .i64 now] w fun e w'=>e=.returned (.int .i64 R)∧Below w.heap.size w w') (w:World) (hl:LogAt w a n c s.log) :
    Calls Tryz.prog 213 #[.agg #[f0,f1,f2,f3,f4,f5,fv g,f7],p.v,s.v a n c,.int .i64 now] w fun e w'=>e=.returned (.int .i64 R)∧Below w.heap.size w w':=by
  obtain⟨k,l,d,b,cc,o⟩:=p
  obtain⟨at_,level,held,L⟩:=s
  unfold St.v Pol.v at *
  unfold fv
  unfold Enters at eg
  dsimp only at *
  have HC:=Go.Lib.hid hc
  have HL:=Go.Lib.hid hl
  clear hc hl
  go_enter Tryz.func213,Tryz.ntmps213
  go_wp2_with fail
  refine(HC.out _ (log_bl HL.out k3)).mono ?_
  rintro e w1 ⟨rfl,hb⟩
  go_wp2_with fail
  go_ret
  exact⟨rfl,bl_then k3 hb⟩
theorem made_retry (g:Nat) (eg:Enters g) (f0 f1 f2 f3 f4 f5 f6:Value) (p:Pol) (s:St) (a:Option Addr) (n c:Nat) (now cost:Int) (R:Int × Bool) (hc:∀ w,LogAt w a n c s.log→Calls Tryz.prog g #[p.v,s.v a n c,.int .i64 now,.int .i64 cost] w fun e w'=>e=.returned (.tuple #[.int .i64 R.1,.bool R.2])∧Below w.heap.size w w') (w:World) (hl:LogAt w a n c s.log) :
    Calls Tryz.prog 209 #[.agg #[f0,f1,f2,f3,f4,f5,f6,fv g],p.v,s.v a n c,.int .i64 now,.int .i64 cost] w fun e w'=>e=.returned (.tuple #[.int .i64 R.1,.bool R.2])∧Below w.heap.size w w':=by
  obtain⟨k,l,d,b,cc,o⟩:=p
  obtain⟨at_,level,held,L⟩:=s
  unfold St.v Pol.v at *
  unfold fv
  unfold Enters at eg
  dsimp only at *
  have HC:=Go.Lib.hid hc
  have HL:=Go.Lib.hid hl
  clear hc hl
  go_enter Tryz.func209,Tryz.ntmps209
  go_wp2_with fail
  refine(HC.out _ (log_bl HL.out k3)).mono ?_
  rintro e w1 ⟨rfl,hb⟩
  go_wp2_with fail
  go_ret2
  exact⟨rfl,bl_then k3 hb⟩
theorem made_advance (g:Nat) (eg:Enters g) (f0 f1 f2 f4 f5 f6 f7:Value) (p:Pol) (s:St) (a:Option Addr) (n c:Nat) (now:Int) (R:St) (hc:∀ w,LogAt w a n c s.log→Calls Tryz.prog g #[p.v,s.v a n c,.int .i64 now] w (PostS a n R w)) (w:World) (hl:LogAt w a n c s.log) :
    Calls Tryz.prog 206 #[.agg #[f0,f1,f2,fv g,f4,f5,f6,f7],p.v,s.v a n c,.int .i64 now] w (PostS a n R w):=by
  obtain⟨k,l,d,b,cc,o⟩:=p
  obtain⟨at_,level,held,L⟩:=s
  obtain⟨rat,rlv,rhd,rL⟩:=R
  unfold St.v Pol.v at *
  unfold fv
  unfold Enters at eg
  dsimp only at *
  have HC:=Go.Lib.hid hc
  have HL:=Go.Lib.hid hl
  clear hc hl
  go_enter Tryz.func206,Tryz.ntmps206
  go_wp2_with fail
  refine(HC.out _ (log_bl HL.out k4)).mono ?_
  rintro e w1 ⟨a9,n9,c9,rfl,hl9,hs9,hb⟩
  have hB:Below w.heap.size w w1:=bl_then k4 hb
  have hR:ResB w1 (w.heap.size+1+1+1):=res_bl (res_new _ _ _ _ _ _ (by simp)) hb
  have hne:=src_ne (b:=w.heap.size+1+1+1) HL.out hs9 (by omega) (by simp)
  have hso:=src_out (w:=w) hs9 (by simp;omega)
  obtain⟨f0',f1',f2',f3',u0,u1,u2,u3,i0,i1,i2,i3⟩:=res_all hR
  have HNE:=Go.Lib.hid hne
  have HSO:=Go.Lib.hid hso
  have HL9:=Go.Lib.hid hl9
  clear hb HC HL hne hso hs9 hl9
  unfold St.v
  dsimp only
  go_wp2_with fail
  (try simp only[Exit.inBlock,Exit.then])
  refine bodyPost_ret (results_state rfl _ _ (by rfl) (set4r hR)) rfl ⟨a9,n9,c9,rfl,log_set4 HL9.out HNE.out,HSO.out,bl4 hB (by omega)⟩
theorem buntil_any (p:Pol) (s:St) (a:Option Addr) (n c:Nat) (now:Int) (hn:s.log.length=n) (w:World):Calls Tryz.prog 125 #[p.v,s.v a n c,.int .i64 now] w fun e w'=>e=.returned (.int .i64 (untilB p s now))∧Below w.heap.size w w':=by
  have hrt:=bright_any p s a n c hn
  have hav:=badv_any p s a n c now hn
  unfold untilB
  by_cases h:rightB p s∧s.held≤0
  · rw[if_pos h]
    obtain⟨h,hh⟩:=h
    rw[decide_eq_true h] at hrt
    have hok:=h.1
    have hlv:=advB_level p s now h
    have r7:=h.2.2.2.2.2.2.2
    have r3:=h.2.2.2.1
    rw[r7] at hn
    subst hn
    have hla:=fun m w hm=>blasts_any p m w hok.2.1 hok.2.2.2.2.1 hm
    generalize advB p s now=A at *
    obtain⟨aat,alv,ahd,alg⟩:=A
    clear h r7
    obtain⟨k,l,d,b,cc,o⟩:=p
    obtain⟨at_,level,held,lg⟩:=s
    unfold St.v Pol.v at *
    dsimp only[List.length_nil] at *
    obtain⟨q0,q1,q2,q3,q4,q5,q6,q7⟩:=hok
    dsimp only at *
    have hM:b*d≤1152921504606846976:=prod_le (by omega) (by omega) (by omega)
    have hM0:0≤b*d:=Int.mul_nonneg (by omega) (by omega)
    have hw1:IntKind.i64.wrap (b*d)=b*d:=IntWalk.i64_in _ (by omega)
    have hw2:IntKind.i64.wrap (b*d - alv)=b*d - alv:=IntWalk.i64_in _ (by omega)
    have hla':=fun w=>hla (b*d - alv) w (by omega)
    generalize ceilD (b*d - alv) l=R at *
    have HRT:=Go.Lib.hid hrt
    have HAV:=Go.Lib.hid hav
    have HLA:=Go.Lib.hid hla'
    have FL:=fld_level
    clear hrt hav hlv hla hla' hM hM0 q0 q1 q2 q3 q4 q5 q6 q7 r3
    go_enter Tryz.func125,Tryz.ntmps125
    go_wp2_with fail
    refine(HRT.out _).mono ?_
    rintro e w1 ⟨rfl,hb⟩
    have hB:Below w.heap.size w w1:=bl_then k2 hb
    obtain⟨c0,c1,c2,c3,c4,c5⟩:=b6 (w.heap.size) k l d b cc o hb
    have c6:=bl_cell (v:=.int .i64 at_) hb (show World.cell? _ ⟨w.heap.size+1,0,none⟩=_ by go_simp)
    have c7:=bl_cell (v:=.int .i64 level) hb (show World.cell? _ ⟨w.heap.size+1,1,none⟩=_ by go_simp)
    have c8:=bl_cell (v:=.int .i64 held) hb (show World.cell? _ ⟨w.heap.size+1,2,none⟩=_ by go_simp)
    have c9:=bl_cell (v:=.slice a 0 c) hb (show World.cell? _ ⟨w.heap.size+1,3,none⟩=_ by go_simp)
    clear hb HRT
    go_wp2_with fail
    refine wp_region_held_drew (S:=fun w'=>P6 w' (w.heap.size) k l d b cc o (S4 w' (w.heap.size+1) at_ level held a 0 c (Below w.heap.size w w'))) (by kernel_rfl) ?_ (fun hHeld=>?_)
    · exact⟨c0,c1,c2,c3,c4,c5,c6,c7,c8,c9,bl_drew hB⟩
    try simp only[Act.put,List.setIfInBounds_toArray,List.set_cons_zero,List.set_cons_succ]
    all_goals refine tkx 0 ?_
    all_goals refine tkx 1 ?_
    all_goals refine tkx 2 ?_
    all_goals refine tkx 3 ?_
    all_goals refine tkx 4 ?_
    all_goals refine tkx 5 ?_
    all_goals refine tkx 6 ?_
    all_goals refine tkx 7 ?_
    all_goals refine tkx 8 ?_
    all_goals((refine callH (i:=9) rfl hHeld (fun W hW K hK=>?_);clear hHeld;(try dsimp only at hW);go_simp;refine(HAV.out _).mono ?_;rintro e w1 ⟨rfl,hb⟩;go_wp2_with fail;refine hK.out _ _ ?_ (fun hHeld=>?_);(focus((try dsimp only);(obtain⟨h0,h1,h2,h3,h4,h5,h6,h7,h8,h9,hB'⟩:=hW;exact⟨bl_cell hb h0,bl_cell hb h1,bl_cell hb h2,bl_cell hb h3,bl_cell hb h4,bl_cell hb h5,bl_cell hb h6,bl_cell hb h7,bl_cell hb h8,bl_cell hb h9,bl_then hB' hb⟩)));clear hK K;try simp only[Act.put,List.setIfInBounds_toArray,List.set_cons_zero,List.set_cons_succ]))
    all_goals refine tkx 10 ?_
    all_goals refine tkx 11 ?_
    all_goals((refine callH (i:=12) rfl hHeld (fun W hW K hK=>?_);clear hHeld;(try dsimp only at hW);go_simp;refine(HLA.out _).mono ?_;rintro e w1 ⟨rfl,hb⟩;go_wp2_with fail;refine hK.out _ _ ?_ (fun hHeld=>?_);(focus((try dsimp only);(obtain⟨h0,h1,h2,h3,h4,h5,h6,h7,h8,h9,hB'⟩:=hW;exact⟨bl_cell hb h0,bl_cell hb h1,bl_cell hb h2,bl_cell hb h3,bl_cell hb h4,bl_cell hb h5,bl_cell hb h6,bl_cell hb h7,bl_cell hb h8,bl_cell hb h9,bl_then hB' hb⟩)));clear hK K;try simp only[Act.put,List.setIfInBounds_toArray,List.set_cons_zero,List.set_cons_succ]))
    all_goals refine tkx 13 ?_
    all_goals(refine wpAnyH_done (by kernel_rfl) ?_ _)
    obtain⟨-,-,-,-,-,-,-,-,-,-,hE⟩:=hHeld
    go_wp2
    go_ret
    exact⟨rfl,hE⟩
  · rw [if_neg h]
    by_cases h1:rightB p s
    · rw [decide_eq_true h1] at hrt
      have hh:0<s.held:=by
        have:=h1.2.2.2.1
        by_cases h2:0<s.held
        · exact h2
        · exact absurd ⟨h1,by omega⟩ h
      clear h h1 hav
      obtain⟨k,l,d,b,cc,o⟩:=p
      obtain⟨at_,level,held,lg⟩:=s
      unfold St.v Pol.v at *
      dsimp only at *
      have HRT:=Go.Lib.hid hrt
      clear hrt
      go_enter Tryz.func125,Tryz.ntmps125
      go_wp2_with fail
      refine(HRT.out _).mono ?_
      rintro e w1 ⟨rfl,hb⟩
      have hB:Below w.heap.size w w1:=bl_then k2 hb
      obtain⟨c0,c1,c2,c3,c4,c5⟩:=b6 (w.heap.size) k l d b cc o hb
      have c6:=bl_cell (v:=.int .i64 at_) hb (show World.cell? _ ⟨w.heap.size+1,0,none⟩=_ by go_simp)
      have c7:=bl_cell (v:=.int .i64 level) hb (show World.cell? _ ⟨w.heap.size+1,1,none⟩=_ by go_simp)
      have c8:=bl_cell (v:=.int .i64 held) hb (show World.cell? _ ⟨w.heap.size+1,2,none⟩=_ by go_simp)
      have c9:=bl_cell (v:=.slice a n c) hb (show World.cell? _ ⟨w.heap.size+1,3,none⟩=_ by go_simp)
      clear hb HRT
      go_wp2
      go_ret
      exact⟨rfl,hB⟩
    · rw[decide_eq_false h1] at hrt
      clear h h1 hav
      unfold St.v Pol.v at *
      have HRT:=Go.Lib.hid hrt
      clear hrt
      go_enter Tryz.func125,Tryz.ntmps125
      go_wp2_with fail
      refine(HRT.out _).mono ?_
      rintro e w1 ⟨rfl,hb⟩
      have hB:Below w.heap.size w w1:=bl_then k2 hb
      clear hb HRT
      go_wp2
      go_ret
      exact⟨rfl,hB⟩
theorem guntil_any (p:Pol) (s:St) (a:Option Addr) (n c:Nat) (now:Int) (hn:s.log.length=n) (w:World):Calls Tryz.prog 101 #[p.v,s.v a n c,.int .i64 now] w fun e w'=>e=.returned (.int .i64 (untilG p s now))∧Below w.heap.size w w':=by
  have hrt:=gright_any p s a n c hn
  have hav:=gadv_any p s a n c now hn
  unfold untilG
  by_cases h:rightG p s∧s.held≤0
  · rw[if_pos h]
    obtain⟨h,hh⟩:=h
    rw[decide_eq_true h] at hrt
    have hok:=h.1
    have hlv:=advG_level p s now h
    have r7:=h.2.2.2.2.2.2.2
    rw[r7] at hn
    subst hn
    have hla:=fun m w hm=>glasts_any p m w hok.2.2.1 hok.2.2.2.1 hm
    generalize advG p s now=A at *
    obtain⟨aat,alv,ahd,alg⟩:=A
    clear h r7
    obtain⟨k,l,d,b,cc,o⟩:=p
    obtain⟨at_,level,held,lg⟩:=s
    unfold St.v Pol.v at *
    dsimp only[List.length_nil] at *
    have hla':=fun w=>hla alv w (by omega)
    generalize ceilD alv l=R at *
    have HRT:=Go.Lib.hid hrt
    have HAV:=Go.Lib.hid hav
    have HLA:=Go.Lib.hid hla'
    have FL:=fld_level
    clear hrt hav hlv hla hla' hok
    go_enter Tryz.func101,Tryz.ntmps101
    go_wp2_with fail
    refine(HRT.out _).mono ?_
    rintro e w1 ⟨rfl,hb⟩
    have hB:Below w.heap.size w w1:=bl_then k2 hb
    obtain⟨c0,c1,c2,c3,c4,c5⟩:=b6 (w.heap.size) k l d b cc o hb
    have c6:=bl_cell (v:=.int .i64 at_) hb (show World.cell? _ ⟨w.heap.size+1,0,none⟩=_ by go_simp)
    have c7:=bl_cell (v:=.int .i64 level) hb (show World.cell? _ ⟨w.heap.size+1,1,none⟩=_ by go_simp)
    have c8:=bl_cell (v:=.int .i64 held) hb (show World.cell? _ ⟨w.heap.size+1,2,none⟩=_ by go_simp)
    have c9:=bl_cell (v:=.slice a 0 c) hb (show World.cell? _ ⟨w.heap.size+1,3,none⟩=_ by go_simp)
    clear hb HRT
    go_wp2_with fail
    refine wp_region_held_drew (S:=fun w'=>P6 w' (w.heap.size) k l d b cc o (S4 w' (w.heap.size+1) at_ level held a 0 c (Below w.heap.size w w'))) (by kernel_rfl) ?_ (fun hHeld=>?_)
    · exact⟨c0,c1,c2,c3,c4,c5,c6,c7,c8,c9,bl_drew hB⟩
    try simp only[Act.put,List.setIfInBounds_toArray,List.set_cons_zero,List.set_cons_succ]
    all_goals refine tkx 0 ?_
    all_goals refine tkx 1 ?_
    all_goals refine tkx 2 ?_
    all_goals refine tkx 3 ?_
    all_goals((refine callH (i:=4) rfl hHeld (fun W hW K hK=>?_);clear hHeld;(try dsimp only at hW);go_simp;refine(HAV.out _).mono ?_;rintro e w1 ⟨rfl,hb⟩;go_wp2_with fail;refine hK.out _ _ ?_ (fun hHeld=>?_);(focus((try dsimp only);(obtain⟨h0,h1,h2,h3,h4,h5,h6,h7,h8,h9,hB'⟩:=hW;exact⟨bl_cell hb h0,bl_cell hb h1,bl_cell hb h2,bl_cell hb h3,bl_cell hb h4,bl_cell hb h5,bl_cell hb h6,bl_cell hb h7,bl_cell hb h8,bl_cell hb h9,bl_then hB' hb⟩)));clear hK K;try simp only[Act.put,List.setIfInBounds_toArray,List.set_cons_zero,List.set_cons_succ]))
    all_goals refine tkx 5 ?_
    all_goals((refine callH (i:=6) rfl hHeld (fun W hW K hK=>?_);clear hHeld;(try dsimp only at hW);go_simp;refine(HLA.out _).mono ?_;rintro e w1 ⟨rfl,hb⟩;go_wp2_with fail;refine hK.out _ _ ?_ (fun hHeld=>?_);(focus((try dsimp only);(obtain⟨h0,h1,h2,h3,h4,h5,h6,h7,h8,h9,hB'⟩:=hW;exact⟨bl_cell hb h0,bl_cell hb h1,bl_cell hb h2,bl_cell hb h3,bl_cell hb h4,bl_cell hb h5,bl_cell hb h6,bl_cell hb h7,bl_cell hb h8,bl_cell hb h9,bl_then hB' hb⟩)));clear hK K;try simp only[Act.put,List.setIfInBounds_toArray,List.set_cons_zero,List.set_cons_succ]))
    all_goals refine tkx 7 ?_
    all_goals(refine wpAnyH_done (by kernel_rfl) ?_ _)
    obtain⟨-,-,-,-,-,-,-,-,-,-,hE⟩:=hHeld
    go_wp2_with fail
    go_ret
    exact⟨rfl,hE⟩
  · rw [if_neg h]
    by_cases h1:rightG p s
    · rw [decide_eq_true h1] at hrt
      have hh:0<s.held:=by
        by_cases h2:0<s.held
        · exact h2
        · exact absurd ⟨h1,by omega⟩ h
      clear h h1 hav
      obtain⟨k,l,d,b,cc,o⟩:=p
      obtain⟨at_,level,held,lg⟩:=s
      unfold St.v Pol.v at *
      dsimp only at *
      have HRT:=Go.Lib.hid hrt
      clear hrt
      go_enter Tryz.func101,Tryz.ntmps101
      go_wp2_with fail
      refine(HRT.out _).mono ?_
      rintro e w1 ⟨rfl,hb⟩
      have hB:Below w.heap.size w w1:=bl_then k2 hb
      obtain⟨c0,c1,c2,c3,c4,c5⟩:=b6 (w.heap.size) k l d b cc o hb
      have c6:=bl_cell (v:=.int .i64 at_) hb (show World.cell? _ ⟨w.heap.size+1,0,none⟩=_ by go_simp)
      have c7:=bl_cell (v:=.int .i64 level) hb (show World.cell? _ ⟨w.heap.size+1,1,none⟩=_ by go_simp)
      have c8:=bl_cell (v:=.int .i64 held) hb (show World.cell? _ ⟨w.heap.size+1,2,none⟩=_ by go_simp)
      have c9:=bl_cell (v:=.slice a n c) hb (show World.cell? _ ⟨w.heap.size+1,3,none⟩=_ by go_simp)
      clear hb HRT
      go_wp2
      go_ret
      exact⟨rfl,hB⟩
    · rw[decide_eq_false h1] at hrt
      clear h h1 hav
      unfold St.v Pol.v at *
      have HRT:=Go.Lib.hid hrt
      clear hrt
      go_enter Tryz.func101,Tryz.ntmps101
      go_wp2_with fail
      refine(HRT.out _).mono ?_
      rintro e w1 ⟨rfl,hb⟩
      have hB:Below w.heap.size w w1:=bl_then k2 hb
      clear hb HRT
      go_wp2
      go_ret
      exact⟨rfl,hB⟩
theorem meth_right (x : Array Value) (w : World) : (method 85 108 (.agg x) "tapster/limiter.right").run Tryz.prog w = .ok (210, .agg x) w := by kernel_rfl
theorem meth_until (x : Array Value) (w : World) : (method 85 108 (.agg x) "tapster/limiter.until").run Tryz.prog w = .ok (213, .agg x) w := by kernel_rfl
theorem meth_advance (x : Array Value) (w : World) : (method 85 108 (.agg x) "tapster/limiter.advance").run Tryz.prog w = .ok (206, .agg x) w := by kernel_rfl
def rightP (p:Pol) (s:St):Bool:=if p.kind=2 then decide (rightG p s) else if p.kind=3 then decide (rightL p s) else if p.kind=4 then decide (rightC p s) else decide (rightB p s)
def untilP (p:Pol) (s:St) (now:Int):Int:=if p.kind=2 then untilG p s now else if p.kind=3 then untilL p s now else if p.kind=4 then untilC p s now else untilB p s now
def advP (p:Pol) (s:St) (now:Int):St:=if p.kind=2 then advG p s now else if p.kind=3 then advL p s now else if p.kind=4 then advC p s now else advB p s now
theorem kern_right (p:Pol) (s:St) (a:Option Addr) (n c:Nat) (w:World) (hl:LogAt w a n c s.log):Calls Tryz.prog 210 #[.agg (kern p.kind),p.v,s.v a n c] w fun e w'=>e=.returned (.bool (rightP p s))∧Below w.heap.size w w':=by
  unfold kern rightP
  by_cases h2:p.kind=2
  · rw[if_pos h2,if_pos h2];exact made_right _ (fun _ _=>by kernel_rfl) _ _ _ _ _ _ _ p s a n c _ (fun w hw=>gright_any p s a n c hw.1 w) w hl
  rw[if_neg h2,if_neg h2]
  by_cases h3:p.kind=3
  · rw[if_pos h3,if_pos h3];exact made_right _ (fun _ _=>by kernel_rfl) _ _ _ _ _ _ _ p s a n c _ (fun w hw=>wright_any p s a n c w hw) w hl
  rw[if_neg h3,if_neg h3]
  by_cases h4:p.kind=4
  · rw[if_pos h4,if_pos h4];exact made_right _ (fun _ _=>by kernel_rfl) _ _ _ _ _ _ _ p s a n c _ (fun w hw=>cright_any p s a n c hw.1 w) w hl
  rw[if_neg h4,if_neg h4]
  exact made_right _ (fun _ _=>by kernel_rfl) _ _ _ _ _ _ _ p s a n c _ (fun w hw=>bright_any p s a n c hw.1 w) w hl
theorem kern_until (p:Pol) (s:St) (a:Option Addr) (n c:Nat) (now:Int) (w:World) (hl:LogAt w a n c s.log):Calls Tryz.prog 213 #[.agg (kern p.kind),p.v,s.v a n c,.int .i64 now] w fun e w'=>e=.returned (.int .i64 (untilP p s now))∧Below w.heap.size w w':=by
  unfold kern untilP
  by_cases h2:p.kind=2
  · rw[if_pos h2,if_pos h2];exact made_until _ (fun _ _=>by kernel_rfl) _ _ _ _ _ _ _ p s a n c now _ (fun w hw=>guntil_any p s a n c now hw.1 w) w hl
  rw[if_neg h2,if_neg h2]
  by_cases h3:p.kind=3
  · rw[if_pos h3,if_pos h3];exact made_until _ (fun _ _=>by kernel_rfl) _ _ _ _ _ _ _ p s a n c now _ (fun w hw=>wuntil_any p s a n c now w hw) w hl
  rw[if_neg h3,if_neg h3]
  by_cases h4:p.kind=4
  · rw[if_pos h4,if_pos h4];exact made_until _ (fun _ _=>by kernel_rfl) _ _ _ _ _ _ _ p s a n c now _ (fun w hw=>cuntil_any p s a n c now hw.1 w) w hl
  rw[if_neg h4,if_neg h4]
  exact made_until _ (fun _ _=>by kernel_rfl) _ _ _ _ _ _ _ p s a n c now _ (fun w hw=>buntil_any p s a n c now hw.1 w) w hl
theorem advG_log (p:Pol) (s:St) (now:Int):(advG p s now).log=[]:=by unfold advG St.none;split <;> rfl
theorem advC_log (p:Pol) (s:St) (now:Int):(advC p s now).log=[]:=by unfold advC St.none;split <;> rfl
theorem advB_log (p:Pol) (s:St) (now:Int):(advB p s now).log=[]:=by unfold advB St.none;split <;> rfl
theorem kern_advance (p:Pol) (s:St) (a:Option Addr) (n c:Nat) (now:Int) (w:World) (hl:LogAt w a n c s.log):Calls Tryz.prog 206 #[.agg (kern p.kind),p.v,s.v a n c,.int .i64 now] w (PostS a n (advP p s now) w):=by
  unfold kern advP
  by_cases h2:p.kind=2
  · rw[if_pos h2,if_pos h2];exact made_advance _ (fun _ _=>by kernel_rfl) _ _ _ _ _ _ _ p s a n c now _ (fun w hw=>(gadv_any p s a n c now hw.1 w).mono fun e w' hh=>s_none (advG_log p s now) hh) w hl
  rw[if_neg h2,if_neg h2]
  by_cases h3:p.kind=3
  · rw[if_pos h3,if_pos h3];exact made_advance _ (fun _ _=>by kernel_rfl) _ _ _ _ _ _ _ p s a n c now _ (fun w hw=>(wadv_any p s a n c now w hw).mono fun e w' hh=>s_own hh) w hl
  rw[if_neg h3,if_neg h3]
  by_cases h4:p.kind=4
  · rw[if_pos h4,if_pos h4];exact made_advance _ (fun _ _=>by kernel_rfl) _ _ _ _ _ _ _ p s a n c now _ (fun w hw=>(cadv_any p s a n c now hw.1 w).mono fun e w' hh=>s_none (advC_log p s now) hh) w hl
  rw[if_neg h4,if_neg h4]
  exact made_advance _ (fun _ _=>by kernel_rfl) _ _ _ _ _ _ _ p s a n c now _ (fun w hw=>(badv_any p s a n c now hw.1 w).mono fun e w' hh=>s_none (advB_log p s now) hh) w hl

theorem lright_any (p:Pol) (s:St) (a:Option Addr) (n c:Nat) (w:World) (hl:LogAt w a n c s.log):Calls Tryz.prog 65 #[p.v,s.v a n c] w fun e w'=>e=.returned (.bool (rightP p s))∧Below w.heap.size w w':=by
  have hof:=of_any p
  have hkc:=fun W hW=>kern_right p s a n c W hW
  have hme:=meth_right
  generalize kern p.kind=KV at *
  generalize rightP p s=R at *
  obtain⟨k,l,d,b,cc,o⟩:=p
  obtain⟨at_,level,held,L⟩:=s
  unfold St.v Pol.v at *
  dsimp only at *
  have HOF:=Go.Lib.hid hof
  have HKC:=Go.Lib.hid hkc
  have HL:=Go.Lib.hid hl
  clear hof hkc hl
  go_enter Tryz.func65,Tryz.ntmps65
  go_wp2_with fail
  refine wp_abs (S0:=fun w'=>P6 w' (w.heap.size) k l d b cc o (S4 w' (w.heap.size+1) at_ level held a n c (LogAt w' a n c L∧Below w.heap.size w w'))) ⟨by go_simp,by go_simp,by go_simp,by go_simp,by go_simp,by go_simp,by go_simp,by go_simp,by go_simp,by go_simp,log_bl HL.out k2,k2⟩ ?_
  rintro W ⟨c0,c1,c2,c3,c4,c5,c6,c7,c8,c9,hLg,hB⟩
  refine wp_region_held_drew (S:=fun w'=>P6 w' (w.heap.size) k l d b cc o (S4 w' (w.heap.size+1) at_ level held a n c (LogAt w' a n c L∧Below w.heap.size w w'))) (by kernel_rfl) ?_ (fun hHeld=>?_)
  · exact⟨c0,c1,c2,c3,c4,c5,c6,c7,c8,c9,hLg,bl_drew hB⟩
  try simp only[Act.put,List.setIfInBounds_toArray,List.set_cons_zero,List.set_cons_succ]
  all_goals refine tkx 0 ?_
  all_goals refine tkx 2 ?_
  all_goals refine tkx 3 ?_
  all_goals((refine callH (i:=1) rfl hHeld (fun W hW K hK=>?_);clear hHeld;(try dsimp only at hW);go_simp;refine(HOF.out _).mono ?_;rintro e w1 ⟨rfl,hb⟩;go_wp2_with fail;refine hK.out _ _ ?_ (fun hHeld=>?_);(focus((try dsimp only);(obtain⟨h0,h1,h2,h3,h4,h5,h6,h7,h8,h9,hl',hB'⟩:=hW;exact⟨bl_cell hb h0,bl_cell hb h1,bl_cell hb h2,bl_cell hb h3,bl_cell hb h4,bl_cell hb h5,bl_cell hb h6,bl_cell hb h7,bl_cell hb h8,bl_cell hb h9,log_bl hl' hb,bl_then hB' hb⟩)));clear hK K;try simp only[Act.put,List.setIfInBounds_toArray,List.set_cons_zero,List.set_cons_succ]))
  all_goals((refine callH (i:=4) rfl hHeld (fun W hW K hK=>?_);clear hHeld;(try dsimp only at hW);have hwl:=hW.2.2.2.2.2.2.2.2.2.2.1;go_simp;refine(HKC.out _ hwl).mono ?_;rintro e w1 ⟨rfl,hb⟩;go_wp2_with fail;refine hK.out _ _ ?_ (fun hHeld=>?_);(focus((try dsimp only);(obtain⟨h0,h1,h2,h3,h4,h5,h6,h7,h8,h9,hl',hB'⟩:=hW;exact⟨bl_cell hb h0,bl_cell hb h1,bl_cell hb h2,bl_cell hb h3,bl_cell hb h4,bl_cell hb h5,bl_cell hb h6,bl_cell hb h7,bl_cell hb h8,bl_cell hb h9,log_bl hl' hb,bl_then hB' hb⟩)));clear hK K;try simp only[Act.put,List.setIfInBounds_toArray,List.set_cons_zero,List.set_cons_succ]))
  all_goals refine tkx 5 ?_
  all_goals(refine wpAnyH_done (by kernel_rfl) ?_ _)
  obtain⟨-,-,-,-,-,-,-,-,-,-,-,hE⟩:=hHeld
  repeat' (first|go_skip|go_guarded|go_step|go_upon)
  go_ret
  exact⟨rfl,hE⟩

theorem luntil_any (p:Pol) (s:St) (a:Option Addr) (n c:Nat) (now:Int) (w:World) (hl:LogAt w a n c s.log):Calls Tryz.prog 47 #[p.v,s.v a n c,.int .i64 now] w fun e w'=>e=.returned (.int .i64 (untilP p s now))∧Below w.heap.size w w':=by
  have hof:=of_any p
  have hkc:=fun W hW=>kern_until p s a n c now W hW
  have hme:=meth_until
  generalize kern p.kind=KV at *
  generalize untilP p s now=R at *
  obtain⟨k,l,d,b,cc,o⟩:=p
  obtain⟨at_,level,held,L⟩:=s
  unfold St.v Pol.v at *
  dsimp only at *
  have HOF:=Go.Lib.hid hof
  have HKC:=Go.Lib.hid hkc
  have HL:=Go.Lib.hid hl
  clear hof hkc hl
  go_enter Tryz.func47,Tryz.ntmps47
  go_wp2_with fail
  refine wp_abs (S0:=fun w'=>P6 w' (w.heap.size) k l d b cc o (S4 w' (w.heap.size+1) at_ level held a n c (LogAt w' a n c L∧Below w.heap.size w w'))) ⟨by go_simp,by go_simp,by go_simp,by go_simp,by go_simp,by go_simp,by go_simp,by go_simp,by go_simp,by go_simp,log_bl HL.out k2,k2⟩ ?_
  rintro W ⟨c0,c1,c2,c3,c4,c5,c6,c7,c8,c9,hLg,hB⟩
  refine wp_region_held_drew (S:=fun w'=>P6 w' (w.heap.size) k l d b cc o (S4 w' (w.heap.size+1) at_ level held a n c (LogAt w' a n c L∧Below w.heap.size w w'))) (by kernel_rfl) ?_ (fun hHeld=>?_)
  · exact⟨c0,c1,c2,c3,c4,c5,c6,c7,c8,c9,hLg,bl_drew hB⟩
  try simp only[Act.put,List.setIfInBounds_toArray,List.set_cons_zero,List.set_cons_succ]
  all_goals refine tkx 0 ?_
  all_goals refine tkx 2 ?_
  all_goals refine tkx 3 ?_
  all_goals refine tkx 4 ?_
  all_goals((refine callH (i:=1) rfl hHeld (fun W hW K hK=>?_);clear hHeld;(try dsimp only at hW);go_simp;refine(HOF.out _).mono ?_;rintro e w1 ⟨rfl,hb⟩;go_wp2_with fail;refine hK.out _ _ ?_ (fun hHeld=>?_);(focus((try dsimp only);(obtain⟨h0,h1,h2,h3,h4,h5,h6,h7,h8,h9,hl',hB'⟩:=hW;exact⟨bl_cell hb h0,bl_cell hb h1,bl_cell hb h2,bl_cell hb h3,bl_cell hb h4,bl_cell hb h5,bl_cell hb h6,bl_cell hb h7,bl_cell hb h8,bl_cell hb h9,log_bl hl' hb,bl_then hB' hb⟩)));clear hK K;try simp only[Act.put,List.setIfInBounds_toArray,List.set_cons_zero,List.set_cons_succ]))
  all_goals((refine callH (i:=5) rfl hHeld (fun W hW K hK=>?_);clear hHeld;(try dsimp only at hW);have hwl:=hW.2.2.2.2.2.2.2.2.2.2.1;go_simp;refine(HKC.out _ hwl).mono ?_;rintro e w1 ⟨rfl,hb⟩;go_wp2_with fail;refine hK.out _ _ ?_ (fun hHeld=>?_);(focus((try dsimp only);(obtain⟨h0,h1,h2,h3,h4,h5,h6,h7,h8,h9,hl',hB'⟩:=hW;exact⟨bl_cell hb h0,bl_cell hb h1,bl_cell hb h2,bl_cell hb h3,bl_cell hb h4,bl_cell hb h5,bl_cell hb h6,bl_cell hb h7,bl_cell hb h8,bl_cell hb h9,log_bl hl' hb,bl_then hB' hb⟩)));clear hK K;try simp only[Act.put,List.setIfInBounds_toArray,List.set_cons_zero,List.set_cons_succ]))
  all_goals refine tkx 6 ?_
  all_goals(refine wpAnyH_done (by kernel_rfl) ?_ _)
  obtain⟨-,-,-,-,-,-,-,-,-,-,-,hE⟩:=hHeld
  repeat' (first|go_skip|go_guarded|go_step|go_upon)
  go_ret
  exact⟨rfl,hE⟩

theorem lfresh_any (p:Pol) (s:St) (a:Option Addr) (n c:Nat) (now:Int) (w:World) (hl:LogAt w a n c s.log):Calls Tryz.prog 20 #[p.v,s.v a n c,.int .i64 now] w fun e w'=>e=.returned (.bool (untilP p s now == 0))∧Below w.heap.size w w':=by
  have hof:=of_any p
  have hkc:=fun W hW=>luntil_any p s a n c now W hW
  generalize kern p.kind=KV at *
  generalize untilP p s now=R at *
  obtain⟨k,l,d,b,cc,o⟩:=p
  obtain⟨at_,level,held,L⟩:=s
  unfold St.v Pol.v at *
  dsimp only at *
  have HOF:=Go.Lib.hid hof
  have HKC:=Go.Lib.hid hkc
  have HL:=Go.Lib.hid hl
  clear hof hkc hl
  go_enter Tryz.func20,Tryz.ntmps20
  go_wp2_with fail
  refine(HKC.out _ (log_bl HL.out k2)).mono ?_
  rintro e w1 ⟨rfl,hb⟩
  go_wp2_with fail
  go_ret
  exact⟨by first|rfl|simp,bl_then k2 hb⟩

theorem ladv_any (p:Pol) (s:St) (a:Option Addr) (n c:Nat) (now:Int) (w:World) (hl:LogAt w a n c s.log):Calls Tryz.prog 63 #[p.v,s.v a n c,.int .i64 now] w (PostS a n (advP p s now) w):=by
  have hof:=of_any p
  have hkc:=fun W hW=>kern_advance p s a n c now W hW
  have hme:=meth_advance
  generalize kern p.kind=KV at *
  generalize advP p s now=R at *
  obtain⟨k,l,d,b,cc,o⟩:=p
  obtain⟨at_,level,held,L⟩:=s
  obtain⟨rat,rlv,rhd,rL⟩:=R
  unfold St.v Pol.v at *
  dsimp only at *
  have HOF:=Go.Lib.hid hof
  have HKC:=Go.Lib.hid hkc
  have HL:=Go.Lib.hid hl
  clear hof hkc hl
  go_enter Tryz.func63,Tryz.ntmps63
  go_wp2_with fail
  refine wp_abs (S0:=fun w'=>P6 w' (w.heap.size) k l d b cc o (S4 w' (w.heap.size+1) at_ level held a n c (LogAt w' a n c L∧ResB w' (w.heap.size+1+1)∧Below w.heap.size w w'))) ⟨by go_simp,by go_simp,by go_simp,by go_simp,by go_simp,by go_simp,by go_simp,by go_simp,by go_simp,by go_simp,log_bl HL.out k3,res_new _ _ _ _ _ _ (by simp),k3⟩ ?_
  rintro W ⟨c0,c1,c2,c3,c4,c5,c6,c7,c8,c9,hLg,hR,hB⟩
  refine wp_region_held_drew (S:=fun w'=>P6 w' (w.heap.size) k l d b cc o (S4 w' (w.heap.size+1) at_ level held a n c (LogAt w' a n c L∧ResB w' (w.heap.size+1+1)∧Below w.heap.size w w'))) (by kernel_rfl) ?_ (fun hHeld=>?_)
  · exact⟨c0,c1,c2,c3,c4,c5,c6,c7,c8,c9,hLg,hR,bl_drew hB⟩
  try simp only[Act.put,List.setIfInBounds_toArray,List.set_cons_zero,List.set_cons_succ]
  refine tkx 0 ?_
  refine tkx 2 ?_
  refine tkx 3 ?_
  refine tkx 4 ?_
  (refine callH (i:=1) rfl hHeld (fun W hW K hK=>?_);clear hHeld;(try dsimp only at hW);go_simp;refine(HOF.out _).mono ?_;rintro e w1 ⟨rfl,hb⟩;go_wp2_with fail;refine hK.out _ _ ?_ (fun hHeld=>?_);(focus((try dsimp only);(obtain⟨h0,h1,h2,h3,h4,h5,h6,h7,h8,h9,hl',hr',hB'⟩:=hW;exact⟨bl_cell hb h0,bl_cell hb h1,bl_cell hb h2,bl_cell hb h3,bl_cell hb h4,bl_cell hb h5,bl_cell hb h6,bl_cell hb h7,bl_cell hb h8,bl_cell hb h9,log_bl hl' hb,res_bl hr' hb,bl_then hB' hb⟩)));clear hK K;try simp only[Act.put,List.setIfInBounds_toArray,List.set_cons_zero,List.set_cons_succ])
  (refine callH (i:=5) rfl hHeld (fun W hW K hK=>?_);clear hHeld;(try dsimp only at hW);have hwl:=hW.2.2.2.2.2.2.2.2.2.2.1;have hrl:=res_lt hW.2.2.2.2.2.2.2.2.2.2.2.1;have hbw:=hW.2.2.2.2.2.2.2.2.2.2.2.2;go_simp;refine(HKC.out _ hwl).mono ?_;rintro e w2 ⟨a9,n9,c9,rfl,hl9,hs9,hb⟩;dsimp only;go_wp2_with fail;refine hK.out _ _ ?_ (fun hHeld=>?_);(focus((try dsimp only);(obtain⟨h0,h1,h2,h3,h4,h5,h6,h7,h8,h9,hl',hr',hB'⟩:=hW;exact⟨bl_cell hb h0,bl_cell hb h1,bl_cell hb h2,bl_cell hb h3,bl_cell hb h4,bl_cell hb h5,bl_cell hb h6,bl_cell hb h7,bl_cell hb h8,bl_cell hb h9,log_bl hl' hb,res_bl hr' hb,bl_then hB' hb⟩)));clear hK K;try simp only[Act.put,List.setIfInBounds_toArray,List.set_cons_zero,List.set_cons_succ])
  (refine callC (i:=6) rfl (fun K hK=>?_);obtain⟨h0,h1,h2,h3,h4,h5,h6,h7,h8,h9,hl',hr',hB'⟩:=hHeld;obtain⟨f0,f1,f2,f3,u0,u1,u2,u3,i0,i1,i2,i3⟩:=res_all hr';have hne:=src_ne (b:=w.heap.size+1+1) HL.out hs9 (by omega) (by omega);have hso:=src_out (w:=w) hs9 hbw.size;have HNE:=Go.Lib.hid hne;have HSO:=Go.Lib.hid hso;have HL9:=Go.Lib.hid hl9;clear hne hso hs9 hl9;unfold St.v;go_simp;refine hK.out _ _ ?_ (fun hHeld=>?_);(focus((try dsimp only);(have e0:w.heap.size+1+1≠w.heap.size:=(by omega);have e1:w.heap.size+1+1≠w.heap.size+1:=(by omega);exact⟨far4 h0 e0,far4 h1 e0,far4 h2 e0,far4 h3 e0,far4 h4 e0,far4 h5 e0,far4 h6 e1,far4 h7 e1,far4 h8 e1,far4 h9 e1,log_set4 hl' (fun ad e hn=>by have:=log_lt HL.out ad e hn;omega),res4 hr',bl4 hB' (by omega)⟩)));clear hK K;try simp only[Act.put,List.setIfInBounds_toArray,List.set_cons_zero,List.set_cons_succ])
  refine wpAnyH_done (by kernel_rfl) ?_ _
  obtain⟨-,-,-,-,-,-,-,-,-,-,-,-,hE⟩:=hHeld
  repeat' (first|go_skip|go_guarded|go_step|go_upon)
  (try simp only[Exit.inBlock,Exit.then])
  refine bodyPost_ret (results_state rfl _ _ (by rfl) (set4r hr')) rfl ⟨a9,n9,c9,rfl,log_set4 HL9.out HNE.out,HSO.out,hE⟩
theorem gretry_any (p:Pol) (s:St) (a:Option Addr) (n c:Nat) (now cost:Int) (hn:s.log.length=n) (w:World):Calls Tryz.prog 102 #[p.v,s.v a n c,.int .i64 now,.int .i64 cost] w fun e w'=>e=.returned (.tuple #[.int .i64 (retryG p s now cost).1,.bool (retryG p s now cost).2])∧Below w.heap.size w w':=by
  have hrt:=gright_any p s a n c hn
  have hav:=gadv_any p s a n c now hn
  unfold retryG
  by_cases h:rightG p s∧1≤cost∧cost≤p.burst - s.held
  · rw[if_pos h]
    obtain⟨h,hc1,hc2⟩:=h
    rw[decide_eq_true h] at hrt
    have hok:=h.1
    have hlv:=advG_level p s now h
    have r7:=h.2.2.2.2.2.2.2
    have r3:=h.2.2.2.1
    have r4:=h.2.2.2.2.1
    rw[r7] at hn
    subst hn
    have hla:=fun m w hm=>glasts_any p m w hok.2.2.1 hok.2.2.2.1 hm
    have hin:=in_any cost 1 (p.burst - s.held)
    rw[inB_iff.2 ⟨hc1,hc2⟩] at hin
    generalize advG p s now=A at *
    obtain⟨aat,alv,ahd,alg⟩:=A
    clear h r7
    obtain⟨k,l,d,b,cc,o⟩:=p
    obtain⟨at_,level,held,lg⟩:=s
    unfold St.v Pol.v at *
    dsimp only[List.length_nil] at *
    obtain⟨q0,q1,q2,q3,q4,q5,q6,q7⟩:=hok
    dsimp only at *
    have hM:(b - cost)*d≤1152921504606846976:=prod_le (by omega) (by omega) (by omega)
    have hM0:0≤(b - cost)*d:=Int.mul_nonneg (by omega) (by omega)
    have hw0:IntKind.i64.wrap (b - held)=b - held:=IntWalk.i64_in _ (by omega)
    have hw3:IntKind.i64.wrap (b - cost)=b - cost:=IntWalk.i64_in _ (by omega)
    have hw1:IntKind.i64.wrap ((b - cost)*d)=(b - cost)*d:=IntWalk.i64_in _ (by omega)
    have hw2:IntKind.i64.wrap (alv - (b - cost)*d)=alv - (b - cost)*d:=IntWalk.i64_in _ (by omega)
    have hla':=fun w=>hla (alv - (b - cost)*d) w (by omega)
    generalize ceilD (alv - (b - cost)*d) l=R at *
    have HRT:=Go.Lib.hid hrt
    have HAV:=Go.Lib.hid hav
    have HLA:=Go.Lib.hid hla'
    have HIN:=Go.Lib.hid hin
    have FL:=fld_level
    clear hrt hav hlv hla hla' hM hM0 q0 q1 q2 q3 q4 q5 q6 q7 r3 r4 hin
    go_enter Tryz.func102,Tryz.ntmps102
    go_wp2_with fail
    refine(HRT.out _).mono ?_
    rintro e w1 ⟨rfl,hb⟩
    have hB:Below w.heap.size w w1:=bl_then k2 hb
    obtain⟨c0,c1,c2,c3,c4,c5⟩:=b6 (w.heap.size) k l d b cc o hb
    have c6:=bl_cell (v:=.int .i64 at_) hb (show World.cell? _ ⟨w.heap.size+1,0,none⟩=_ by go_simp)
    have c7:=bl_cell (v:=.int .i64 level) hb (show World.cell? _ ⟨w.heap.size+1,1,none⟩=_ by go_simp)
    have c8:=bl_cell (v:=.int .i64 held) hb (show World.cell? _ ⟨w.heap.size+1,2,none⟩=_ by go_simp)
    have c9:=bl_cell (v:=.slice a 0 c) hb (show World.cell? _ ⟨w.heap.size+1,3,none⟩=_ by go_simp)
    clear hb HRT
    go_wp2_with fail
    refine(HIN.out _).mono ?_
    rintro e w2 ⟨rfl,rfl⟩
    go_wp2_with fail
    refine wp_region_held_drew (S:=fun w'=>P6 w' (w.heap.size) k l d b cc o (S4 w' (w.heap.size+1) at_ level held a 0 c (Below w.heap.size w w'))) (by kernel_rfl) ?_ (fun hHeld=>?_)
    · exact⟨c0,c1,c2,c3,c4,c5,c6,c7,c8,c9,bl_drew hB⟩
    try simp only[Act.put,List.setIfInBounds_toArray,List.set_cons_zero,List.set_cons_succ]
    all_goals refine tkx 0 ?_
    all_goals refine tkx 1 ?_
    all_goals refine tkx 2 ?_
    all_goals refine tkx 3 ?_
    all_goals refine tkx 6 ?_
    all_goals refine tkx 7 ?_
    all_goals refine tkx 8 ?_
    all_goals refine tkx 9 ?_
    all_goals refine tkx 10 ?_
    all_goals refine tkx 11 ?_
    all_goals refine tkx 12 ?_
    all_goals((refine callH (i:=4) rfl hHeld (fun W hW K hK=>?_);clear hHeld;(try dsimp only at hW);go_simp;refine(HAV.out _).mono ?_;rintro e w1 ⟨rfl,hb⟩;go_wp2_with fail;refine hK.out _ _ ?_ (fun hHeld=>?_);(focus((try dsimp only);(obtain⟨h0,h1,h2,h3,h4,h5,h6,h7,h8,h9,hB'⟩:=hW;exact⟨bl_cell hb h0,bl_cell hb h1,bl_cell hb h2,bl_cell hb h3,bl_cell hb h4,bl_cell hb h5,bl_cell hb h6,bl_cell hb h7,bl_cell hb h8,bl_cell hb h9,bl_then hB' hb⟩)));clear hK K;try simp only[Act.put,List.setIfInBounds_toArray,List.set_cons_zero,List.set_cons_succ]))
    all_goals refine tkx 5 ?_
    all_goals refine tkx 13 ?_
    all_goals((refine callH (i:=14) rfl hHeld (fun W hW K hK=>?_);clear hHeld;(try dsimp only at hW);go_simp;refine(HLA.out _).mono ?_;rintro e w1 ⟨rfl,hb⟩;go_wp2_with fail;refine hK.out _ _ ?_ (fun hHeld=>?_);(focus((try dsimp only);(obtain⟨h0,h1,h2,h3,h4,h5,h6,h7,h8,h9,hB'⟩:=hW;exact⟨bl_cell hb h0,bl_cell hb h1,bl_cell hb h2,bl_cell hb h3,bl_cell hb h4,bl_cell hb h5,bl_cell hb h6,bl_cell hb h7,bl_cell hb h8,bl_cell hb h9,bl_then hB' hb⟩)));clear hK K;try simp only[Act.put,List.setIfInBounds_toArray,List.set_cons_zero,List.set_cons_succ]))
    all_goals refine tkx 15 ?_
    all_goals refine tkx 16 ?_
    all_goals(refine wpAnyH_done (by kernel_rfl) ?_ _)
    obtain⟨-,-,-,-,-,-,-,-,-,-,hE⟩:=hHeld
    go_wp2_with fail
    go_ret2
    exact⟨rfl,hE⟩
  · rw [if_neg h]
    by_cases h1:rightG p s
    · rw[decide_eq_true h1] at hrt
      have hin:=in_any cost 1 (p.burst - s.held)
      rw[inB_no (fun h2=>h ⟨h1,h2⟩)] at hin
      have hw0:IntKind.i64.wrap (p.burst - s.held)=p.burst - s.held:=IntWalk.i64_in _ (by have h2:=h1.1.2.2.2.2.2.1;have h3:=h1.1.2.2.2.2.1;have h4:=h1.2.2.2.1;have h5:=h1.2.2.2.2.1;omega)
      clear h h1 hav
      obtain⟨k,l,d,b,cc,o⟩:=p
      obtain⟨at_,level,held,lg⟩:=s
      unfold St.v Pol.v at *
      dsimp only at *
      have HIN:=Go.Lib.hid hin
      clear hin
      have HRT:=Go.Lib.hid hrt
      clear hrt
      go_enter Tryz.func102,Tryz.ntmps102
      go_wp2_with fail
      refine(HRT.out _).mono ?_
      rintro e w1 ⟨rfl,hb⟩
      have hB:Below w.heap.size w w1:=bl_then k2 hb
      obtain⟨c0,c1,c2,c3,c4,c5⟩:=b6 (w.heap.size) k l d b cc o hb
      have c6:=bl_cell (v:=.int .i64 at_) hb (show World.cell? _ ⟨w.heap.size+1,0,none⟩=_ by go_simp)
      have c7:=bl_cell (v:=.int .i64 level) hb (show World.cell? _ ⟨w.heap.size+1,1,none⟩=_ by go_simp)
      have c8:=bl_cell (v:=.int .i64 held) hb (show World.cell? _ ⟨w.heap.size+1,2,none⟩=_ by go_simp)
      have c9:=bl_cell (v:=.slice a n c) hb (show World.cell? _ ⟨w.heap.size+1,3,none⟩=_ by go_simp)
      clear hb HRT
      go_wp2_with fail
      refine(HIN.out _).mono ?_
      rintro e w2 ⟨rfl,rfl⟩
      go_wp2_with fail
      go_ret2
      exact⟨rfl,hB⟩
    · rw[decide_eq_false h1] at hrt
      clear h h1 hav
      unfold St.v Pol.v at *
      have HRT:=Go.Lib.hid hrt
      clear hrt
      go_enter Tryz.func102,Tryz.ntmps102
      go_wp2_with fail
      refine(HRT.out _).mono ?_
      rintro e w1 ⟨rfl,hb⟩
      have hB:Below w.heap.size w w1:=bl_then k2 hb
      clear hb HRT
      go_wp2
      go_ret2
      exact⟨rfl,hB⟩
theorem bretry_any (p:Pol) (s:St) (a:Option Addr) (n c:Nat) (now cost:Int) (hn:s.log.length=n) (w:World):Calls Tryz.prog 126 #[p.v,s.v a n c,.int .i64 now,.int .i64 cost] w fun e w'=>e=.returned (.tuple #[.int .i64 (retryB p s now cost).1,.bool (retryB p s now cost).2])∧Below w.heap.size w w':=by
  have hrt:=bright_any p s a n c hn
  have hav:=badv_any p s a n c now hn
  unfold retryB
  by_cases h:rightB p s∧1≤cost∧cost≤p.burst - s.held
  · rw[if_pos h]
    obtain⟨h,hc1,hc2⟩:=h
    rw[decide_eq_true h] at hrt
    have hok:=h.1
    have hlv:=advB_level p s now h
    have r7:=h.2.2.2.2.2.2.2
    have r3:=h.2.2.2.1
    have r4:=h.2.2.2.2.1
    rw[r7] at hn
    subst hn
    have hla:=fun m w hm=>blasts_any p m w hok.2.1 hok.2.2.2.2.1 hm
    generalize advB p s now=A at *
    obtain⟨aat,alv,ahd,alg⟩:=A
    clear h r7
    obtain⟨k,l,d,b,cc,o⟩:=p
    obtain⟨at_,level,held,lg⟩:=s
    unfold St.v Pol.v at *
    dsimp only[List.length_nil] at *
    obtain⟨q0,q1,q2,q3,q4,q5,q6,q7⟩:=hok
    dsimp only at *
    have hM:cost*d≤1152921504606846976:=prod_le (by omega) (by omega) (by omega)
    have hM0:0≤cost*d:=Int.mul_nonneg (by omega) (by omega)
    have hw0:IntKind.i64.wrap (b - held)=b - held:=IntWalk.i64_in _ (by omega)
    have hw1:IntKind.i64.wrap (cost*d)=cost*d:=IntWalk.i64_in _ (by omega)
    have hw2:IntKind.i64.wrap (cost*d - alv)=cost*d - alv:=IntWalk.i64_in _ (by omega)
    have hla':=fun w=>hla (cost*d - alv) w (by omega)
    generalize ceilD (cost*d - alv) l=R at *
    have HRT:=Go.Lib.hid hrt
    have HAV:=Go.Lib.hid hav
    have HLA:=Go.Lib.hid hla'
    have FL:=fld_level
    clear hrt hav hlv hla hla' hM hM0 q0 q1 q2 q3 q4 q5 q6 q7 r3 r4
    go_enter Tryz.func126,Tryz.ntmps126
    go_wp2_with fail
    refine(HRT.out _).mono ?_
    rintro e w1 ⟨rfl,hb⟩
    have hB:Below w.heap.size w w1:=bl_then k2 hb
    obtain⟨c0,c1,c2,c3,c4,c5⟩:=b6 (w.heap.size) k l d b cc o hb
    have c6:=bl_cell (v:=.int .i64 at_) hb (show World.cell? _ ⟨w.heap.size+1,0,none⟩=_ by go_simp)
    have c7:=bl_cell (v:=.int .i64 level) hb (show World.cell? _ ⟨w.heap.size+1,1,none⟩=_ by go_simp)
    have c8:=bl_cell (v:=.int .i64 held) hb (show World.cell? _ ⟨w.heap.size+1,2,none⟩=_ by go_simp)
    have c9:=bl_cell (v:=.slice a 0 c) hb (show World.cell? _ ⟨w.heap.size+1,3,none⟩=_ by go_simp)
    clear hb HRT
    go_wp2_with fail
    refine wp_region_held_drew (S:=fun w'=>P6 w' (w.heap.size) k l d b cc o (S4 w' (w.heap.size+1) at_ level held a 0 c (Below w.heap.size w w'))) (by kernel_rfl) ?_ (fun hHeld=>?_)
    · exact⟨c0,c1,c2,c3,c4,c5,c6,c7,c8,c9,bl_drew hB⟩
    try simp only[Act.put,List.setIfInBounds_toArray,List.set_cons_zero,List.set_cons_succ]
    all_goals refine tkx 0 ?_
    all_goals refine tkx 1 ?_
    all_goals refine tkx 2 ?_
    all_goals refine tkx 3 ?_
    all_goals refine tkx 4 ?_
    all_goals refine tkx 5 ?_
    all_goals refine tkx 6 ?_
    all_goals refine tkx 7 ?_
    all_goals((refine callH (i:=8) rfl hHeld (fun W hW K hK=>?_);clear hHeld;(try dsimp only at hW);go_simp;refine(HAV.out _).mono ?_;rintro e w1 ⟨rfl,hb⟩;go_wp2_with fail;refine hK.out _ _ ?_ (fun hHeld=>?_);(focus((try dsimp only);(obtain⟨h0,h1,h2,h3,h4,h5,h6,h7,h8,h9,hB'⟩:=hW;exact⟨bl_cell hb h0,bl_cell hb h1,bl_cell hb h2,bl_cell hb h3,bl_cell hb h4,bl_cell hb h5,bl_cell hb h6,bl_cell hb h7,bl_cell hb h8,bl_cell hb h9,bl_then hB' hb⟩)));clear hK K;try simp only[Act.put,List.setIfInBounds_toArray,List.set_cons_zero,List.set_cons_succ]))
    all_goals refine tkx 9 ?_
    all_goals refine tkx 10 ?_
    all_goals((refine callH (i:=11) rfl hHeld (fun W hW K hK=>?_);clear hHeld;(try dsimp only at hW);go_simp;refine(HLA.out _).mono ?_;rintro e w1 ⟨rfl,hb⟩;go_wp2_with fail;refine hK.out _ _ ?_ (fun hHeld=>?_);(focus((try dsimp only);(obtain⟨h0,h1,h2,h3,h4,h5,h6,h7,h8,h9,hB'⟩:=hW;exact⟨bl_cell hb h0,bl_cell hb h1,bl_cell hb h2,bl_cell hb h3,bl_cell hb h4,bl_cell hb h5,bl_cell hb h6,bl_cell hb h7,bl_cell hb h8,bl_cell hb h9,bl_then hB' hb⟩)));clear hK K;try simp only[Act.put,List.setIfInBounds_toArray,List.set_cons_zero,List.set_cons_succ]))
    all_goals refine tkx 12 ?_
    all_goals refine tkx 13 ?_
    all_goals(refine wpAnyH_done (by kernel_rfl) ?_ _)
    obtain⟨-,-,-,-,-,-,-,-,-,-,hE⟩:=hHeld
    go_wp2
    go_ret2
    exact⟨rfl,hE⟩
  · rw [if_neg h]
    by_cases h1:rightB p s
    · rw [decide_eq_true h1] at hrt
      have hok:=h1.1
      have r3:=h1.2.2.2.1
      have r4:=h1.2.2.2.2.1
      have hc:cost<1∨1≤cost∧p.burst - s.held<cost:=by
        by_cases h2:cost<1
        · exact .inl h2
        · by_cases h3:p.burst - s.held<cost
          · exact .inr ⟨by omega,h3⟩
          · exact absurd ⟨h1,by omega,by omega⟩ h
      have hw0:IntKind.i64.wrap (p.burst - s.held)=p.burst - s.held:=IntWalk.i64_in _ (by have:=hok.2.2.1;have:=hok.2.2.2.2.2.1;omega)
      clear h h1 hav hok r3 r4
      obtain⟨k,l,d,b,cc,o⟩:=p
      obtain⟨at_,level,held,lg⟩:=s
      unfold St.v Pol.v at *
      dsimp only at *
      rcases hc with hc|⟨hc1,hc⟩
      · have HRT:=Go.Lib.hid hrt
        clear hrt
        go_enter Tryz.func126,Tryz.ntmps126
        go_wp2_with fail
        refine(HRT.out _).mono ?_
        rintro e w1 ⟨rfl,hb⟩
        have hB:Below w.heap.size w w1:=bl_then k2 hb
        obtain⟨c0,c1,c2,c3,c4,c5⟩:=b6 (w.heap.size) k l d b cc o hb
        have c6:=bl_cell (v:=.int .i64 at_) hb (show World.cell? _ ⟨w.heap.size+1,0,none⟩=_ by go_simp)
        have c7:=bl_cell (v:=.int .i64 level) hb (show World.cell? _ ⟨w.heap.size+1,1,none⟩=_ by go_simp)
        have c8:=bl_cell (v:=.int .i64 held) hb (show World.cell? _ ⟨w.heap.size+1,2,none⟩=_ by go_simp)
        have c9:=bl_cell (v:=.slice a n c) hb (show World.cell? _ ⟨w.heap.size+1,3,none⟩=_ by go_simp)
        clear hb HRT
        go_wp2
        go_ret2
        exact⟨rfl,hB⟩
      · have HRT:=Go.Lib.hid hrt
        clear hrt
        go_enter Tryz.func126,Tryz.ntmps126
        go_wp2_with fail
        refine(HRT.out _).mono ?_
        rintro e w1 ⟨rfl,hb⟩
        have hB:Below w.heap.size w w1:=bl_then k2 hb
        obtain⟨c0,c1,c2,c3,c4,c5⟩:=b6 (w.heap.size) k l d b cc o hb
        have c6:=bl_cell (v:=.int .i64 at_) hb (show World.cell? _ ⟨w.heap.size+1,0,none⟩=_ by go_simp)
        have c7:=bl_cell (v:=.int .i64 level) hb (show World.cell? _ ⟨w.heap.size+1,1,none⟩=_ by go_simp)
        have c8:=bl_cell (v:=.int .i64 held) hb (show World.cell? _ ⟨w.heap.size+1,2,none⟩=_ by go_simp)
        have c9:=bl_cell (v:=.slice a n c) hb (show World.cell? _ ⟨w.heap.size+1,3,none⟩=_ by go_simp)
        clear hb HRT
        go_wp2
        go_ret2
        exact⟨rfl,hB⟩
    · rw[decide_eq_false h1] at hrt
      clear h h1 hav
      unfold St.v Pol.v at *
      have HRT:=Go.Lib.hid hrt
      clear hrt
      go_enter Tryz.func126,Tryz.ntmps126
      go_wp2_with fail
      refine(HRT.out _).mono ?_
      rintro e w1 ⟨rfl,hb⟩
      have hB:Below w.heap.size w w1:=bl_then k2 hb
      clear hb HRT
      go_wp2
      go_ret2
      exact⟨rfl,hB⟩
theorem meth_retry (x : Array Value) (w : World) : (method 85 108 (.agg x) "tapster/limiter.retry").run Tryz.prog w = .ok (209, .agg x) w := by kernel_rfl
def retryP (p:Pol) (s:St) (now cost:Int):Int × Bool:=if p.kind=2 then retryG p s now cost else if p.kind=3 then retryL p s now cost else if p.kind=4 then retryC p s now cost else retryB p s now cost
theorem kern_retry (p:Pol) (s:St) (a:Option Addr) (n c:Nat) (now cost:Int) (w:World) (hl:LogAt w a n c s.log):Calls Tryz.prog 209 #[.agg (kern p.kind),p.v,s.v a n c,.int .i64 now,.int .i64 cost] w fun e w'=>e=.returned (.tuple #[.int .i64 (retryP p s now cost).1,.bool (retryP p s now cost).2])∧Below w.heap.size w w':=by
  unfold kern retryP
  by_cases h2:p.kind=2
  · rw[if_pos h2,if_pos h2];exact made_retry _ (fun _ _=>by kernel_rfl) _ _ _ _ _ _ _ p s a n c now cost _ (fun w hw=>gretry_any p s a n c now cost hw.1 w) w hl
  rw[if_neg h2,if_neg h2]
  by_cases h3:p.kind=3
  · rw[if_pos h3,if_pos h3];exact made_retry _ (fun _ _=>by kernel_rfl) _ _ _ _ _ _ _ p s a n c now cost _ (fun w hw=>wretry_any p s a n c now cost w hw) w hl
  rw[if_neg h3,if_neg h3]
  by_cases h4:p.kind=4
  · rw[if_pos h4,if_pos h4];exact made_retry _ (fun _ _=>by kernel_rfl) _ _ _ _ _ _ _ p s a n c now cost _ (fun w hw=>cretry_any p s a n c now cost hw.1 w) w hl
  rw[if_neg h4,if_neg h4]
  exact made_retry _ (fun _ _=>by kernel_rfl) _ _ _ _ _ _ _ p s a n c now cost _ (fun w hw=>bretry_any p s a n c now cost hw.1 w) w hl

theorem lretry_any (p:Pol) (s:St) (a:Option Addr) (n c:Nat) (now cost:Int) (w:World) (hl:LogAt w a n c s.log):Calls Tryz.prog 61 #[p.v,s.v a n c,.int .i64 now,.int .i64 cost] w fun e w'=>e=.returned (.tuple #[.int .i64 (retryP p s now cost).1,.bool (retryP p s now cost).2])∧Below w.heap.size w w':=by
  have hof:=of_any p
  have hkc:=fun W hW=>kern_retry p s a n c now cost W hW
  have hme:=meth_retry
  generalize kern p.kind=KV at *
  generalize retryP p s now cost=R at *
  obtain⟨R1,R2⟩:=R
  obtain⟨k,l,d,b,cc,o⟩:=p
  obtain⟨at_,level,held,L⟩:=s
  unfold St.v Pol.v at *
  dsimp only at *
  have HOF:=Go.Lib.hid hof
  have HKC:=Go.Lib.hid hkc
  have HL:=Go.Lib.hid hl
  clear hof hkc hl
  go_enter Tryz.func61,Tryz.ntmps61
  go_wp2_with fail
  refine wp_abs (S0:=fun w'=>P6 w' (w.heap.size) k l d b cc o (S4 w' (w.heap.size+1) at_ level held a n c (LogAt w' a n c L∧Below w.heap.size w w'))) ⟨by go_simp,by go_simp,by go_simp,by go_simp,by go_simp,by go_simp,by go_simp,by go_simp,by go_simp,by go_simp,log_bl HL.out k2,k2⟩ ?_
  rintro W ⟨c0,c1,c2,c3,c4,c5,c6,c7,c8,c9,hLg,hB⟩
  refine wp_region_held_drew (S:=fun w'=>P6 w' (w.heap.size) k l d b cc o (S4 w' (w.heap.size+1) at_ level held a n c (LogAt w' a n c L∧Below w.heap.size w w'))) (by kernel_rfl) ?_ (fun hHeld=>?_)
  · exact⟨c0,c1,c2,c3,c4,c5,c6,c7,c8,c9,hLg,bl_drew hB⟩
  try simp only[Act.put,List.setIfInBounds_toArray,List.set_cons_zero,List.set_cons_succ]
  all_goals refine tkx 0 ?_
  all_goals refine tkx 2 ?_
  all_goals refine tkx 3 ?_
  all_goals refine tkx 4 ?_
  all_goals refine tkx 5 ?_
  all_goals((refine callH (i:=1) rfl hHeld (fun W hW K hK=>?_);clear hHeld;(try dsimp only at hW);go_simp;refine(HOF.out _).mono ?_;rintro e w1 ⟨rfl,hb⟩;go_wp2_with fail;refine hK.out _ _ ?_ (fun hHeld=>?_);(focus((try dsimp only);(obtain⟨h0,h1,h2,h3,h4,h5,h6,h7,h8,h9,hl',hB'⟩:=hW;exact⟨bl_cell hb h0,bl_cell hb h1,bl_cell hb h2,bl_cell hb h3,bl_cell hb h4,bl_cell hb h5,bl_cell hb h6,bl_cell hb h7,bl_cell hb h8,bl_cell hb h9,log_bl hl' hb,bl_then hB' hb⟩)));clear hK K;try simp only[Act.put,List.setIfInBounds_toArray,List.set_cons_zero,List.set_cons_succ]))
  all_goals((refine callH (i:=6) rfl hHeld (fun W hW K hK=>?_);clear hHeld;(try dsimp only at hW);have hwl:=hW.2.2.2.2.2.2.2.2.2.2.1;go_simp;refine(HKC.out _ hwl).mono ?_;rintro e w1 ⟨rfl,hb⟩;go_wp2_with fail;refine hK.out _ _ ?_ (fun hHeld=>?_);(focus((try dsimp only);(obtain⟨h0,h1,h2,h3,h4,h5,h6,h7,h8,h9,hl',hB'⟩:=hW;exact⟨bl_cell hb h0,bl_cell hb h1,bl_cell hb h2,bl_cell hb h3,bl_cell hb h4,bl_cell hb h5,bl_cell hb h6,bl_cell hb h7,bl_cell hb h8,bl_cell hb h9,log_bl hl' hb,bl_then hB' hb⟩)));clear hK K;try simp only[Act.put,List.setIfInBounds_toArray,List.set_cons_zero,List.set_cons_succ]))
  all_goals refine tkx 7 ?_
  all_goals refine tkx 8 ?_
  all_goals refine tkx 9 ?_
  all_goals refine tkx 10 ?_
  all_goals(refine wpAnyH_done (by kernel_rfl) ?_ _)
  obtain⟨-,-,-,-,-,-,-,-,-,-,-,hE⟩:=hHeld
  repeat' (first|go_skip|go_guarded|go_step|go_upon)
  go_ret2
  exact⟨rfl,hE⟩
end Go.Proofs.YtmhikkbdhboodaaGreat
