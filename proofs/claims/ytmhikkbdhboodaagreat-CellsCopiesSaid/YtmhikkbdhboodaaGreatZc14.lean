/-
  What tapsterref08.New, Right, Advance, Room, Do, Until and Retry answer.
  tapsterref04.Same: of states that are the same.
  What the document's small functions on cells answer: New, Fresh, has, victim.
  What the document's victim answers.
  What the document's Without answers.
  What the document's Sweep answers.
  What the document's Look answers.
  What the document's Set answers.
  What is done with cells: an element of a law's list; which cell it sets.
  No condition.
-/
import Derived.Test.YtmhikkbdhboodaaGreatZc1
import Derived.Test.YtmhikkbdhboodaaGreatZc2
import Derived.Test.YtmhikkbdhboodaaGreatZc6
import Derived.Test.YtmhikkbdhboodaaGreatZc8
import Derived.Test.YtmhikkbdhboodaaGreatZc9
import Derived.Test.YtmhikkbdhboodaaGreatZc10
import Derived.Test.YtmhikkbdhboodaaGreatZc12
import Derived.Test.YtmhikkbdhboodaaGreatZc13
set_option maxHeartbeats 8000000
set_option maxRecDepth 100000
namespace Go.Proofs.YtmhikkbdhboodaaGreat
open Go.RowKit
set_option linter.unusedVariables false
set_option linter.unusedSimpArgs false

theorem s_log {w w':World} {a0:Option Addr} {n0:Nat} {t l h:Int} {lg:List (Int × Int)} {a1:Option Addr} {n1 c1:Nat} (hl:LogAt w' a1 n1 c1 lg) (hs:Src a0 n0 w a1 n1) (hb:Below w.heap.size w w') :
  PostS a0 n0 ⟨t,l,h,lg⟩ w (.returned (.agg #[.int .i64 t,.int .i64 l,.int .i64 h,.slice a1 n1 c1])) w':=⟨a1,n1,c1,rfl,hl,hs,hb⟩
theorem r8right_1 (l d b cc:Int) (o:Bool) (at_ level held:Int) (L:List (Int × Int)) (a:Option Addr) (n c:Nat)  (w:World) (hl:LogAt w a n c L):Calls Tryz.prog 44 #[Pol.v ⟨1,l,d,b,cc,o⟩,St.v ⟨at_,level,held,L⟩ a n c] w (fun e w'=>e=.returned (.bool (rightP ⟨1,l,d,b,cc,o⟩ ⟨at_,level,held,L⟩))∧Below w.heap.size w w'):=by
 rw[show rightP ⟨1,l,d,b,cc,o⟩ ⟨at_,level,held,L⟩=decide (rightB ⟨1,l,d,b,cc,o⟩ ⟨at_,level,held,L⟩) by unfold rightP;simp]
 have hc:=fun w (hw:LogAt w a n c L)=>r4right_any ⟨1,l,d,b,cc,o⟩ ⟨at_,level,held,L⟩ a n c hw.1 w
 generalize decide (rightB ⟨1,l,d,b,cc,o⟩ ⟨at_,level,held,L⟩)=R at *
 have hl0:=log_lt hl
 unfold St.v Pol.v at *
 (try dsimp only at *)
 have HC:=Go.Lib.hid hc
 clear hc
 have HL:=Go.Lib.hid hl
 clear hl
 go_enter Tryz.func44,Tryz.ntmps44
 go_wp2_with go_step3
 refine(HC.out _ (log_bl HL.out (bl_alloc (bl_alloc (bl_refl _) _) _))).mono ?_
 rintro e w1 ⟨rfl,hb⟩
 have hx:Below w.heap.size w w1:=bl_then (bl_alloc (bl_alloc (bl_refl _) _) _) hb
 have hsz1:w.heap.size+2≤w1.heap.size:=szl hb
 have hB:Below w.heap.size w w1:=hx
 clear hb hx
 go_wp2_with go_step3
 go_ret
 exact⟨rfl,hB⟩
theorem r8right_2 (l d b cc:Int) (o:Bool) (at_ level held:Int) (L:List (Int × Int)) (a:Option Addr) (n c:Nat)  (w:World) (hl:LogAt w a n c L):Calls Tryz.prog 44 #[Pol.v ⟨2,l,d,b,cc,o⟩,St.v ⟨at_,level,held,L⟩ a n c] w (fun e w'=>e=.returned (.bool (rightP ⟨2,l,d,b,cc,o⟩ ⟨at_,level,held,L⟩))∧Below w.heap.size w w'):=by
 rw[show rightP ⟨2,l,d,b,cc,o⟩ ⟨at_,level,held,L⟩=decide (rightG ⟨2,l,d,b,cc,o⟩ ⟨at_,level,held,L⟩) by unfold rightP;simp]
 have hc:=fun w (hw:LogAt w a n c L)=>r5right_any ⟨2,l,d,b,cc,o⟩ ⟨at_,level,held,L⟩ a n c hw.1 w
 generalize decide (rightG ⟨2,l,d,b,cc,o⟩ ⟨at_,level,held,L⟩)=R at *
 have hl0:=log_lt hl
 unfold St.v Pol.v at *
 (try dsimp only at *)
 have HC:=Go.Lib.hid hc
 clear hc
 have HL:=Go.Lib.hid hl
 clear hl
 go_enter Tryz.func44,Tryz.ntmps44
 go_wp2_with go_step3
 refine(HC.out _ (log_bl HL.out (bl_alloc (bl_alloc (bl_refl _) _) _))).mono ?_
 rintro e w1 ⟨rfl,hb⟩
 have hx:Below w.heap.size w w1:=bl_then (bl_alloc (bl_alloc (bl_refl _) _) _) hb
 have hsz1:w.heap.size+2≤w1.heap.size:=szl hb
 have hB:Below w.heap.size w w1:=hx
 clear hb hx
 go_wp2_with go_step3
 go_ret
 exact⟨rfl,hB⟩
theorem r8right_3 (l d b cc:Int) (o:Bool) (at_ level held:Int) (L:List (Int × Int)) (a:Option Addr) (n c:Nat)  (w:World) (hl:LogAt w a n c L):Calls Tryz.prog 44 #[Pol.v ⟨3,l,d,b,cc,o⟩,St.v ⟨at_,level,held,L⟩ a n c] w (fun e w'=>e=.returned (.bool (rightP ⟨3,l,d,b,cc,o⟩ ⟨at_,level,held,L⟩))∧Below w.heap.size w w'):=by
 rw[show rightP ⟨3,l,d,b,cc,o⟩ ⟨at_,level,held,L⟩=decide (rightL ⟨3,l,d,b,cc,o⟩ ⟨at_,level,held,L⟩) by unfold rightP;simp]
 have hc:=fun w (hw:LogAt w a n c L)=>r6right_any ⟨3,l,d,b,cc,o⟩ ⟨at_,level,held,L⟩ a n c w hw
 generalize decide (rightL ⟨3,l,d,b,cc,o⟩ ⟨at_,level,held,L⟩)=R at *
 have hl0:=log_lt hl
 unfold St.v Pol.v at *
 (try dsimp only at *)
 have HC:=Go.Lib.hid hc
 clear hc
 have HL:=Go.Lib.hid hl
 clear hl
 go_enter Tryz.func44,Tryz.ntmps44
 go_wp2_with go_step3
 refine(HC.out _ (log_bl HL.out (bl_alloc (bl_alloc (bl_refl _) _) _))).mono ?_
 rintro e w1 ⟨rfl,hb⟩
 have hx:Below w.heap.size w w1:=bl_then (bl_alloc (bl_alloc (bl_refl _) _) _) hb
 have hsz1:w.heap.size+2≤w1.heap.size:=szl hb
 have hB:Below w.heap.size w w1:=hx
 clear hb hx
 go_wp2_with go_step3
 go_ret
 exact⟨rfl,hB⟩
theorem r8right_4 (l d b cc:Int) (o:Bool) (at_ level held:Int) (L:List (Int × Int)) (a:Option Addr) (n c:Nat)  (w:World) (hl:LogAt w a n c L):Calls Tryz.prog 44 #[Pol.v ⟨4,l,d,b,cc,o⟩,St.v ⟨at_,level,held,L⟩ a n c] w (fun e w'=>e=.returned (.bool (rightP ⟨4,l,d,b,cc,o⟩ ⟨at_,level,held,L⟩))∧Below w.heap.size w w'):=by
 rw[show rightP ⟨4,l,d,b,cc,o⟩ ⟨at_,level,held,L⟩=decide (rightC ⟨4,l,d,b,cc,o⟩ ⟨at_,level,held,L⟩) by unfold rightP;simp]
 have hc:=fun w (hw:LogAt w a n c L)=>r7right_any ⟨4,l,d,b,cc,o⟩ ⟨at_,level,held,L⟩ a n c hw.1 w
 generalize decide (rightC ⟨4,l,d,b,cc,o⟩ ⟨at_,level,held,L⟩)=R at *
 have hl0:=log_lt hl
 unfold St.v Pol.v at *
 (try dsimp only at *)
 have HC:=Go.Lib.hid hc
 clear hc
 have HL:=Go.Lib.hid hl
 clear hl
 go_enter Tryz.func44,Tryz.ntmps44
 go_wp2_with go_step3
 refine(HC.out _ (log_bl HL.out (bl_alloc (bl_alloc (bl_refl _) _) _))).mono ?_
 rintro e w1 ⟨rfl,hb⟩
 have hx:Below w.heap.size w w1:=bl_then (bl_alloc (bl_alloc (bl_refl _) _) _) hb
 have hsz1:w.heap.size+2≤w1.heap.size:=szl hb
 have hB:Below w.heap.size w w1:=hx
 clear hb hx
 go_wp2_with go_step3
 go_ret
 exact⟨rfl,hB⟩
theorem r8right_0 (k l d b cc:Int) (o:Bool) (at_ level held:Int) (L:List (Int × Int)) (a:Option Addr) (n c:Nat)  (w:World) (hl:LogAt w a n c L) (k1:¬ k=1) (k2:¬ k=2) (k3:¬ k=3) (k4:¬ k=4):Calls Tryz.prog 44 #[Pol.v ⟨k,l,d,b,cc,o⟩,St.v ⟨at_,level,held,L⟩ a n c] w (fun e w'=>e=.returned (.bool (rightP ⟨k,l,d,b,cc,o⟩ ⟨at_,level,held,L⟩))∧Below w.heap.size w w'):=by
 rw[show rightP ⟨k,l,d,b,cc,o⟩ ⟨at_,level,held,L⟩=false by unfold rightP rightB okB;simp[k1,k2,k3,k4]]
 unfold St.v Pol.v at *
 (try unfold St.none at *)
 (try dsimp only at *)
 clear hl
 go_enter Tryz.func44,Tryz.ntmps44
 go_wp2_with go_step3
 go_ret
 exact⟨rfl,bl_alloc (bl_alloc (bl_refl _) _) _⟩
theorem r8right_any (p:Pol) (s:St) (a:Option Addr) (n c:Nat)  (w:World) (hl:LogAt w a n c s.log):Calls Tryz.prog 44 #[p.v,s.v a n c] w (fun e w'=>e=.returned (.bool (rightP p s))∧Below w.heap.size w w'):=by
 obtain⟨k,l,d,b,cc,o⟩:=p
 obtain⟨at_,level,held,L⟩:=s
 by_cases k1:k=1
 ·subst k1;exact r8right_1 l d b cc o at_ level held L a n c  w hl
 by_cases k2:k=2
 ·subst k2;exact r8right_2 l d b cc o at_ level held L a n c  w hl
 by_cases k3:k=3
 ·subst k3;exact r8right_3 l d b cc o at_ level held L a n c  w hl
 by_cases k4:k=4
 ·subst k4;exact r8right_4 l d b cc o at_ level held L a n c  w hl
 exact r8right_0 k l d b cc o at_ level held L a n c  w hl k1 k2 k3 k4
theorem r8new_1 (l d b cc:Int) (o:Bool) (now:Int) (w:World):Calls Tryz.prog 25 #[Pol.v ⟨1,l,d,b,cc,o⟩,.int .i64 now] w (fun e w'=>e=.returned ((newP ⟨1,l,d,b,cc,o⟩ now).v none 0 0)∧Below w.heap.size w w'):=by
 rw[show newP ⟨1,l,d,b,cc,o⟩ now=newB ⟨1,l,d,b,cc,o⟩ now by unfold newP;simp]
 have hc:=r4new ⟨1,l,d,b,cc,o⟩ now
 generalize newB ⟨1,l,d,b,cc,o⟩ now=R at *
 obtain⟨rat,rlv,rhd,rL⟩:=R
 unfold St.v Pol.v at *
 (try dsimp only at *)
 have HC:=Go.Lib.hid hc
 clear hc
 go_enter Tryz.func25,Tryz.ntmps25
 go_wp2_with go_step3
 refine(HC.out _).mono ?_
 rintro e w1 ⟨rfl,hb⟩
 have hx:Below w.heap.size w w1:=bl_then (bl_alloc (bl_alloc (bl_refl _) _) _) hb
 have hsz1:w.heap.size+2≤w1.heap.size:=szl hb
 have rR:=res_bl (b:=w.heap.size+1) (res_new _ _ _ _ _ _ (by simp)) hb
 have hB:Below w.heap.size w w1:=hx
 clear hb hx
 obtain⟨f0,f1,f2,f3,u0,u1,u2,u3,i0,i1,i2,i3⟩:=res_all rR
 go_wp2_with go_step3
 (try simp only[Exit.inBlock,Exit.then,Exit.noGoto_ret])
 refine bodyPost_ret (results_state rfl _ _ (by rfl) (set4r (rR))) rfl ⟨rfl,bl4 (hB) (by omega)⟩
theorem r8new_2 (l d b cc:Int) (o:Bool) (now:Int) (w:World):Calls Tryz.prog 25 #[Pol.v ⟨2,l,d,b,cc,o⟩,.int .i64 now] w (fun e w'=>e=.returned ((newP ⟨2,l,d,b,cc,o⟩ now).v none 0 0)∧Below w.heap.size w w'):=by
 rw[show newP ⟨2,l,d,b,cc,o⟩ now=newG ⟨2,l,d,b,cc,o⟩ now by unfold newP;simp]
 have hc:=r5new ⟨2,l,d,b,cc,o⟩ now
 generalize newG ⟨2,l,d,b,cc,o⟩ now=R at *
 obtain⟨rat,rlv,rhd,rL⟩:=R
 unfold St.v Pol.v at *
 (try dsimp only at *)
 have HC:=Go.Lib.hid hc
 clear hc
 go_enter Tryz.func25,Tryz.ntmps25
 go_wp2_with go_step3
 refine(HC.out _).mono ?_
 rintro e w1 ⟨rfl,hb⟩
 have hx:Below w.heap.size w w1:=bl_then (bl_alloc (bl_alloc (bl_refl _) _) _) hb
 have hsz1:w.heap.size+2≤w1.heap.size:=szl hb
 have rR:=res_bl (b:=w.heap.size+1) (res_new _ _ _ _ _ _ (by simp)) hb
 have hB:Below w.heap.size w w1:=hx
 clear hb hx
 obtain⟨f0,f1,f2,f3,u0,u1,u2,u3,i0,i1,i2,i3⟩:=res_all rR
 go_wp2_with go_step3
 (try simp only[Exit.inBlock,Exit.then,Exit.noGoto_ret])
 refine bodyPost_ret (results_state rfl _ _ (by rfl) (set4r (rR))) rfl ⟨rfl,bl4 (hB) (by omega)⟩
theorem r8new_3 (l d b cc:Int) (o:Bool) (now:Int) (w:World):Calls Tryz.prog 25 #[Pol.v ⟨3,l,d,b,cc,o⟩,.int .i64 now] w (fun e w'=>e=.returned ((newP ⟨3,l,d,b,cc,o⟩ now).v none 0 0)∧Below w.heap.size w w'):=by
 rw[show newP ⟨3,l,d,b,cc,o⟩ now=newL ⟨3,l,d,b,cc,o⟩ now by unfold newP;simp]
 have hc:=r6new ⟨3,l,d,b,cc,o⟩ now
 generalize newL ⟨3,l,d,b,cc,o⟩ now=R at *
 obtain⟨rat,rlv,rhd,rL⟩:=R
 unfold St.v Pol.v at *
 (try dsimp only at *)
 have HC:=Go.Lib.hid hc
 clear hc
 go_enter Tryz.func25,Tryz.ntmps25
 go_wp2_with go_step3
 refine(HC.out _).mono ?_
 rintro e w1 ⟨rfl,hb⟩
 have hx:Below w.heap.size w w1:=bl_then (bl_alloc (bl_alloc (bl_refl _) _) _) hb
 have hsz1:w.heap.size+2≤w1.heap.size:=szl hb
 have rR:=res_bl (b:=w.heap.size+1) (res_new _ _ _ _ _ _ (by simp)) hb
 have hB:Below w.heap.size w w1:=hx
 clear hb hx
 obtain⟨f0,f1,f2,f3,u0,u1,u2,u3,i0,i1,i2,i3⟩:=res_all rR
 go_wp2_with go_step3
 (try simp only[Exit.inBlock,Exit.then,Exit.noGoto_ret])
 refine bodyPost_ret (results_state rfl _ _ (by rfl) (set4r (rR))) rfl ⟨rfl,bl4 (hB) (by omega)⟩
theorem r8new_4 (l d b cc:Int) (o:Bool) (now:Int) (w:World):Calls Tryz.prog 25 #[Pol.v ⟨4,l,d,b,cc,o⟩,.int .i64 now] w (fun e w'=>e=.returned ((newP ⟨4,l,d,b,cc,o⟩ now).v none 0 0)∧Below w.heap.size w w'):=by
 rw[show newP ⟨4,l,d,b,cc,o⟩ now=newC ⟨4,l,d,b,cc,o⟩ now by unfold newP;simp]
 have hc:=r7new ⟨4,l,d,b,cc,o⟩ now
 generalize newC ⟨4,l,d,b,cc,o⟩ now=R at *
 obtain⟨rat,rlv,rhd,rL⟩:=R
 unfold St.v Pol.v at *
 (try dsimp only at *)
 have HC:=Go.Lib.hid hc
 clear hc
 go_enter Tryz.func25,Tryz.ntmps25
 go_wp2_with go_step3
 refine(HC.out _).mono ?_
 rintro e w1 ⟨rfl,hb⟩
 have hx:Below w.heap.size w w1:=bl_then (bl_alloc (bl_alloc (bl_refl _) _) _) hb
 have hsz1:w.heap.size+2≤w1.heap.size:=szl hb
 have rR:=res_bl (b:=w.heap.size+1) (res_new _ _ _ _ _ _ (by simp)) hb
 have hB:Below w.heap.size w w1:=hx
 clear hb hx
 obtain⟨f0,f1,f2,f3,u0,u1,u2,u3,i0,i1,i2,i3⟩:=res_all rR
 go_wp2_with go_step3
 (try simp only[Exit.inBlock,Exit.then,Exit.noGoto_ret])
 refine bodyPost_ret (results_state rfl _ _ (by rfl) (set4r (rR))) rfl ⟨rfl,bl4 (hB) (by omega)⟩
theorem r8new_0 (k l d b cc:Int) (o:Bool) (now:Int) (w:World) (k1:¬ k=1) (k2:¬ k=2) (k3:¬ k=3) (k4:¬ k=4):Calls Tryz.prog 25 #[Pol.v ⟨k,l,d,b,cc,o⟩,.int .i64 now] w (fun e w'=>e=.returned ((newP ⟨k,l,d,b,cc,o⟩ now).v none 0 0)∧Below w.heap.size w w'):=by
 rw[show newP ⟨k,l,d,b,cc,o⟩ now=St.none by unfold newP newB okB;simp[k1,k2,k3,k4]]
 unfold St.v Pol.v at *
 (try unfold St.none at *)
 (try dsimp only at *)
 go_enter Tryz.func25,Tryz.ntmps25
 go_wp2_with go_step3
 (try simp only[Exit.inBlock,Exit.then,Exit.noGoto_ret])
 refine bodyPost_ret (v:=.agg #[.int .i64 0,.int .i64 0,.int .i64 0,.slice none 0 0]) (by simp[results,Tryz.results25,go_sem]) rfl ⟨rfl,bl_alloc (bl_alloc (bl_refl _) _) _⟩
theorem r8new_any (p:Pol) (now:Int) (w:World):Calls Tryz.prog 25 #[p.v,.int .i64 now] w (fun e w'=>e=.returned ((newP p now).v none 0 0)∧Below w.heap.size w w'):=by
 obtain⟨k,l,d,b,cc,o⟩:=p
 by_cases k1:k=1
 ·subst k1;exact r8new_1 l d b cc o now w
 by_cases k2:k=2
 ·subst k2;exact r8new_2 l d b cc o now w
 by_cases k3:k=3
 ·subst k3;exact r8new_3 l d b cc o now w
 by_cases k4:k=4
 ·subst k4;exact r8new_4 l d b cc o now w
 exact r8new_0 k l d b cc o now w k1 k2 k3 k4
theorem r8adv_1 (l d b cc:Int) (o:Bool) (at_ level held:Int) (L:List (Int × Int)) (a:Option Addr) (n c:Nat) (now:Int) (w:World) (hl:LogAt w a n c L):Calls Tryz.prog 64 #[Pol.v ⟨1,l,d,b,cc,o⟩,St.v ⟨at_,level,held,L⟩ a n c,.int .i64 now] w (PostS a n (advP ⟨1,l,d,b,cc,o⟩ ⟨at_,level,held,L⟩ now) w):=by
 rw[show advP ⟨1,l,d,b,cc,o⟩ ⟨at_,level,held,L⟩ now=advB ⟨1,l,d,b,cc,o⟩ ⟨at_,level,held,L⟩ now by unfold advP;simp]
 have hc:=fun w (hw:LogAt w a n c L)=>r4adv_any ⟨1,l,d,b,cc,o⟩ ⟨at_,level,held,L⟩ a n c now w hw
 unfold PostS at hc
 generalize advB ⟨1,l,d,b,cc,o⟩ ⟨at_,level,held,L⟩ now=R at *
 obtain⟨rat,rlv,rhd,rL⟩:=R
 have hl0:=log_lt hl
 unfold St.v Pol.v at *
 (try dsimp only at *)
 have HC:=Go.Lib.hid hc
 clear hc
 have HL:=Go.Lib.hid hl
 clear hl
 go_enter Tryz.func64,Tryz.ntmps64
 go_wp2_with go_step3
 refine(HC.out _ (log_bl HL.out (bl_alloc (bl_alloc (bl_alloc (bl_refl _) _) _) _))).mono ?_
 rintro e w1 ⟨a1,n1,c1,rfl,hl1,hs1,hb⟩
 have hx:Below w.heap.size w w1:=bl_then (bl_alloc (bl_alloc (bl_alloc (bl_refl _) _) _) _) hb
 have hsz1:w.heap.size+3≤w1.heap.size:=szl hb
 have rR:=res_bl (b:=w.heap.size+1+1) (res_new _ _ _ _ _ _ (by simp)) hb
 have hB:Below w.heap.size w w1:=hx
 clear hb hx
 have hne1:=src_far (b:=w.heap.size+1+1) HL.out hs1 (by omega) (by simp)
 replace hs1:=src_out hs1 (show w.heap.size≤_ by simp;omega)
 obtain⟨f0,f1,f2,f3,u0,u1,u2,u3,i0,i1,i2,i3⟩:=res_all rR
 go_wp2_with go_step3
 (try simp only[Exit.inBlock,Exit.then,Exit.noGoto_ret])
 refine bodyPost_ret (results_state rfl _ _ (by rfl) (set4r rR)) rfl (s_log (log_set4b hl1 hne1) hs1 (bl4 hB (by omega)))
theorem r8until_1 (l d b cc:Int) (o:Bool) (at_ level held:Int) (L:List (Int × Int)) (a:Option Addr) (n c:Nat) (now:Int) (w:World) (hl:LogAt w a n c L):Calls Tryz.prog 21 #[Pol.v ⟨1,l,d,b,cc,o⟩,St.v ⟨at_,level,held,L⟩ a n c,.int .i64 now] w (fun e w'=>e=.returned (.int .i64 (untilP ⟨1,l,d,b,cc,o⟩ ⟨at_,level,held,L⟩ now))∧Below w.heap.size w w'):=by
 rw[show untilP ⟨1,l,d,b,cc,o⟩ ⟨at_,level,held,L⟩ now=untilB ⟨1,l,d,b,cc,o⟩ ⟨at_,level,held,L⟩ now by unfold untilP;simp]
 have hc:=fun w (hw:LogAt w a n c L)=>r4until_any ⟨1,l,d,b,cc,o⟩ ⟨at_,level,held,L⟩ a n c now w hw
 generalize untilB ⟨1,l,d,b,cc,o⟩ ⟨at_,level,held,L⟩ now=R at *
 have hl0:=log_lt hl
 unfold St.v Pol.v at *
 (try dsimp only at *)
 have HC:=Go.Lib.hid hc
 clear hc
 have HL:=Go.Lib.hid hl
 clear hl
 go_enter Tryz.func21,Tryz.ntmps21
 go_wp2_with go_step3
 refine(HC.out _ (log_bl HL.out (bl_alloc (bl_alloc (bl_refl _) _) _))).mono ?_
 rintro e w1 ⟨rfl,hb⟩
 have hx:Below w.heap.size w w1:=bl_then (bl_alloc (bl_alloc (bl_refl _) _) _) hb
 have hsz1:w.heap.size+2≤w1.heap.size:=szl hb
 have hB:Below w.heap.size w w1:=hx
 clear hb hx
 go_wp2_with go_step3
 go_ret
 exact⟨rfl,hB⟩
theorem r8until_2 (l d b cc:Int) (o:Bool) (at_ level held:Int) (L:List (Int × Int)) (a:Option Addr) (n c:Nat) (now:Int) (w:World) (hl:LogAt w a n c L):Calls Tryz.prog 21 #[Pol.v ⟨2,l,d,b,cc,o⟩,St.v ⟨at_,level,held,L⟩ a n c,.int .i64 now] w (fun e w'=>e=.returned (.int .i64 (untilP ⟨2,l,d,b,cc,o⟩ ⟨at_,level,held,L⟩ now))∧Below w.heap.size w w'):=by
 rw[show untilP ⟨2,l,d,b,cc,o⟩ ⟨at_,level,held,L⟩ now=untilG ⟨2,l,d,b,cc,o⟩ ⟨at_,level,held,L⟩ now by unfold untilP;simp]
 have hc:=fun w (hw:LogAt w a n c L)=>r5until_any ⟨2,l,d,b,cc,o⟩ ⟨at_,level,held,L⟩ a n c now w hw
 generalize untilG ⟨2,l,d,b,cc,o⟩ ⟨at_,level,held,L⟩ now=R at *
 have hl0:=log_lt hl
 unfold St.v Pol.v at *
 (try dsimp only at *)
 have HC:=Go.Lib.hid hc
 clear hc
 have HL:=Go.Lib.hid hl
 clear hl
 go_enter Tryz.func21,Tryz.ntmps21
 go_wp2_with go_step3
 refine(HC.out _ (log_bl HL.out (bl_alloc (bl_alloc (bl_refl _) _) _))).mono ?_
 rintro e w1 ⟨rfl,hb⟩
 have hx:Below w.heap.size w w1:=bl_then (bl_alloc (bl_alloc (bl_refl _) _) _) hb
 have hsz1:w.heap.size+2≤w1.heap.size:=szl hb
 have hB:Below w.heap.size w w1:=hx
 clear hb hx
 go_wp2_with go_step3
 go_ret
 exact⟨rfl,hB⟩
theorem r8until_3 (l d b cc:Int) (o:Bool) (at_ level held:Int) (L:List (Int × Int)) (a:Option Addr) (n c:Nat) (now:Int) (w:World) (hl:LogAt w a n c L):Calls Tryz.prog 21 #[Pol.v ⟨3,l,d,b,cc,o⟩,St.v ⟨at_,level,held,L⟩ a n c,.int .i64 now] w (fun e w'=>e=.returned (.int .i64 (untilP ⟨3,l,d,b,cc,o⟩ ⟨at_,level,held,L⟩ now))∧Below w.heap.size w w'):=by
 rw[show untilP ⟨3,l,d,b,cc,o⟩ ⟨at_,level,held,L⟩ now=untilL ⟨3,l,d,b,cc,o⟩ ⟨at_,level,held,L⟩ now by unfold untilP;simp]
 have hc:=fun w (hw:LogAt w a n c L)=>r6until_any ⟨3,l,d,b,cc,o⟩ ⟨at_,level,held,L⟩ a n c now w hw
 generalize untilL ⟨3,l,d,b,cc,o⟩ ⟨at_,level,held,L⟩ now=R at *
 have hl0:=log_lt hl
 unfold St.v Pol.v at *
 (try dsimp only at *)
 have HC:=Go.Lib.hid hc
 clear hc
 have HL:=Go.Lib.hid hl
 clear hl
 go_enter Tryz.func21,Tryz.ntmps21
 go_wp2_with go_step3
 refine(HC.out _ (log_bl HL.out (bl_alloc (bl_alloc (bl_refl _) _) _))).mono ?_
 rintro e w1 ⟨rfl,hb⟩
 have hx:Below w.heap.size w w1:=bl_then (bl_alloc (bl_alloc (bl_refl _) _) _) hb
 have hsz1:w.heap.size+2≤w1.heap.size:=szl hb
 have hB:Below w.heap.size w w1:=hx
 clear hb hx
 go_wp2_with go_step3
 go_ret
 exact⟨rfl,hB⟩
theorem r8until_4 (l d b cc:Int) (o:Bool) (at_ level held:Int) (L:List (Int × Int)) (a:Option Addr) (n c:Nat) (now:Int) (w:World) (hl:LogAt w a n c L):Calls Tryz.prog 21 #[Pol.v ⟨4,l,d,b,cc,o⟩,St.v ⟨at_,level,held,L⟩ a n c,.int .i64 now] w (fun e w'=>e=.returned (.int .i64 (untilP ⟨4,l,d,b,cc,o⟩ ⟨at_,level,held,L⟩ now))∧Below w.heap.size w w'):=by
 rw[show untilP ⟨4,l,d,b,cc,o⟩ ⟨at_,level,held,L⟩ now=untilC ⟨4,l,d,b,cc,o⟩ ⟨at_,level,held,L⟩ now by unfold untilP;simp]
 have hc:=fun w (hw:LogAt w a n c L)=>r7until_any ⟨4,l,d,b,cc,o⟩ ⟨at_,level,held,L⟩ a n c now w hw
 generalize untilC ⟨4,l,d,b,cc,o⟩ ⟨at_,level,held,L⟩ now=R at *
 have hl0:=log_lt hl
 unfold St.v Pol.v at *
 (try dsimp only at *)
 have HC:=Go.Lib.hid hc
 clear hc
 have HL:=Go.Lib.hid hl
 clear hl
 go_enter Tryz.func21,Tryz.ntmps21
 go_wp2_with go_step3
 refine(HC.out _ (log_bl HL.out (bl_alloc (bl_alloc (bl_refl _) _) _))).mono ?_
 rintro e w1 ⟨rfl,hb⟩
 have hx:Below w.heap.size w w1:=bl_then (bl_alloc (bl_alloc (bl_refl _) _) _) hb
 have hsz1:w.heap.size+2≤w1.heap.size:=szl hb
 have hB:Below w.heap.size w w1:=hx
 clear hb hx
 go_wp2_with go_step3
 go_ret
 exact⟨rfl,hB⟩
theorem r8until_0 (k l d b cc:Int) (o:Bool) (at_ level held:Int) (L:List (Int × Int)) (a:Option Addr) (n c:Nat) (now:Int) (w:World) (hl:LogAt w a n c L) (k1:¬ k=1) (k2:¬ k=2) (k3:¬ k=3) (k4:¬ k=4):Calls Tryz.prog 21 #[Pol.v ⟨k,l,d,b,cc,o⟩,St.v ⟨at_,level,held,L⟩ a n c,.int .i64 now] w (fun e w'=>e=.returned (.int .i64 (untilP ⟨k,l,d,b,cc,o⟩ ⟨at_,level,held,L⟩ now))∧Below w.heap.size w w'):=by
 rw[show untilP ⟨k,l,d,b,cc,o⟩ ⟨at_,level,held,L⟩ now = -1 by unfold untilP untilB rightB okB;simp[k1,k2,k3,k4]]
 unfold St.v Pol.v at *
 (try unfold St.none at *)
 (try dsimp only at *)
 clear hl
 go_enter Tryz.func21,Tryz.ntmps21
 go_wp2_with go_step3
 go_ret
 exact⟨rfl,bl_alloc (bl_alloc (bl_refl _) _) _⟩
theorem r8until_any (p:Pol) (s:St) (a:Option Addr) (n c:Nat) (now:Int) (w:World) (hl:LogAt w a n c s.log):Calls Tryz.prog 21 #[p.v,s.v a n c,.int .i64 now] w (fun e w'=>e=.returned (.int .i64 (untilP p s now))∧Below w.heap.size w w'):=by
 obtain⟨k,l,d,b,cc,o⟩:=p
 obtain⟨at_,level,held,L⟩:=s
 by_cases k1:k=1
 ·subst k1;exact r8until_1 l d b cc o at_ level held L a n c now w hl
 by_cases k2:k=2
 ·subst k2;exact r8until_2 l d b cc o at_ level held L a n c now w hl
 by_cases k3:k=3
 ·subst k3;exact r8until_3 l d b cc o at_ level held L a n c now w hl
 by_cases k4:k=4
 ·subst k4;exact r8until_4 l d b cc o at_ level held L a n c now w hl
 exact r8until_0 k l d b cc o at_ level held L a n c now w hl k1 k2 k3 k4
theorem r8do_1 (l d b cc:Int) (o:Bool) (at_ level held:Int) (L:List (Int × Int)) (a:Option Addr) (n c:Nat) (ak now cost:Int) (w:World) (hl:LogAt w a n c L):Calls Tryz.prog 28 #[Pol.v ⟨1,l,d,b,cc,o⟩,St.v ⟨at_,level,held,L⟩ a n c,Ac.v ⟨ak,now,cost⟩] w (PostSB a n (doP ⟨1,l,d,b,cc,o⟩ ⟨at_,level,held,L⟩ ⟨ak,now,cost⟩) w):=by
 rw[show doP ⟨1,l,d,b,cc,o⟩ ⟨at_,level,held,L⟩ ⟨ak,now,cost⟩=doB ⟨1,l,d,b,cc,o⟩ ⟨at_,level,held,L⟩ ⟨ak,now,cost⟩ by unfold doP;simp]
 have hc:=fun w (hw:LogAt w a n c L)=>r4do_any ⟨1,l,d,b,cc,o⟩ ⟨at_,level,held,L⟩ a n c ⟨ak,now,cost⟩ w hw
 unfold PostSB at hc
 generalize doB ⟨1,l,d,b,cc,o⟩ ⟨at_,level,held,L⟩ ⟨ak,now,cost⟩=R at *
 obtain⟨⟨rat,rlv,rhd,rL⟩,rok⟩:=R
 have hl0:=log_lt hl
 unfold Ac.v St.v Pol.v at *
 (try dsimp only at *)
 have HC:=Go.Lib.hid hc
 clear hc
 have HL:=Go.Lib.hid hl
 clear hl
 go_enter Tryz.func28,Tryz.ntmps28
 go_wp2_with go_step3
 refine(HC.out _ (log_bl HL.out (bl_alloc (bl_alloc (bl_alloc (bl_alloc (bl_refl _) _) _) _) _))).mono ?_
 rintro e w1 ⟨a1,n1,c1,rfl,hl1,hs1,hb⟩
 have hx:Below w.heap.size w w1:=bl_then (bl_alloc (bl_alloc (bl_alloc (bl_alloc (bl_refl _) _) _) _) _) hb
 have hsz1:w.heap.size+4≤w1.heap.size:=szl hb
 have rR:=res_bl (b:=w.heap.size+1+1+1) (res_new _ _ _ _ _ _ (by simp)) hb
 have hB:Below w.heap.size w w1:=hx
 clear hb hx
 have hne1:=src_far (b:=w.heap.size+1+1+1) HL.out hs1 (by omega) (by simp)
 replace hs1:=src_out hs1 (show w.heap.size≤_ by simp;omega)
 obtain⟨f0,f1,f2,f3,u0,u1,u2,u3,i0,i1,i2,i3⟩:=res_all rR
 go_wp2_with go_step3
 (try simp only[Exit.inBlock,Exit.then,Exit.noGoto_ret])
 refine bodyPost_ret (results_state2 rfl _ _ (by rfl) (set4r rR)) rfl (sb_log (log_set4b hl1 hne1) hs1 (bl4 hB (by omega)))
theorem r8do_2 (l d b cc:Int) (o:Bool) (at_ level held:Int) (L:List (Int × Int)) (a:Option Addr) (n c:Nat) (ak now cost:Int) (w:World) (hl:LogAt w a n c L):Calls Tryz.prog 28 #[Pol.v ⟨2,l,d,b,cc,o⟩,St.v ⟨at_,level,held,L⟩ a n c,Ac.v ⟨ak,now,cost⟩] w (PostSB a n (doP ⟨2,l,d,b,cc,o⟩ ⟨at_,level,held,L⟩ ⟨ak,now,cost⟩) w):=by
 rw[show doP ⟨2,l,d,b,cc,o⟩ ⟨at_,level,held,L⟩ ⟨ak,now,cost⟩=doG ⟨2,l,d,b,cc,o⟩ ⟨at_,level,held,L⟩ ⟨ak,now,cost⟩ by unfold doP;simp]
 have hc:=fun w (hw:LogAt w a n c L)=>r5do_any ⟨2,l,d,b,cc,o⟩ ⟨at_,level,held,L⟩ a n c ⟨ak,now,cost⟩ w hw
 unfold PostSB at hc
 generalize doG ⟨2,l,d,b,cc,o⟩ ⟨at_,level,held,L⟩ ⟨ak,now,cost⟩=R at *
 obtain⟨⟨rat,rlv,rhd,rL⟩,rok⟩:=R
 have hl0:=log_lt hl
 unfold Ac.v St.v Pol.v at *
 (try dsimp only at *)
 have HC:=Go.Lib.hid hc
 clear hc
 have HL:=Go.Lib.hid hl
 clear hl
 go_enter Tryz.func28,Tryz.ntmps28
 go_wp2_with go_step3
 refine(HC.out _ (log_bl HL.out (bl_alloc (bl_alloc (bl_alloc (bl_alloc (bl_refl _) _) _) _) _))).mono ?_
 rintro e w1 ⟨a1,n1,c1,rfl,hl1,hs1,hb⟩
 have hx:Below w.heap.size w w1:=bl_then (bl_alloc (bl_alloc (bl_alloc (bl_alloc (bl_refl _) _) _) _) _) hb
 have hsz1:w.heap.size+4≤w1.heap.size:=szl hb
 have rR:=res_bl (b:=w.heap.size+1+1+1) (res_new _ _ _ _ _ _ (by simp)) hb
 have hB:Below w.heap.size w w1:=hx
 clear hb hx
 have hne1:=src_far (b:=w.heap.size+1+1+1) HL.out hs1 (by omega) (by simp)
 replace hs1:=src_out hs1 (show w.heap.size≤_ by simp;omega)
 obtain⟨f0,f1,f2,f3,u0,u1,u2,u3,i0,i1,i2,i3⟩:=res_all rR
 go_wp2_with go_step3
 (try simp only[Exit.inBlock,Exit.then,Exit.noGoto_ret])
 refine bodyPost_ret (results_state2 rfl _ _ (by rfl) (set4r rR)) rfl (sb_log (log_set4b hl1 hne1) hs1 (bl4 hB (by omega)))
theorem r8do_3 (l d b cc:Int) (o:Bool) (at_ level held:Int) (L:List (Int × Int)) (a:Option Addr) (n c:Nat) (ak now cost:Int) (w:World) (hl:LogAt w a n c L):Calls Tryz.prog 28 #[Pol.v ⟨3,l,d,b,cc,o⟩,St.v ⟨at_,level,held,L⟩ a n c,Ac.v ⟨ak,now,cost⟩] w (PostSB a n (doP ⟨3,l,d,b,cc,o⟩ ⟨at_,level,held,L⟩ ⟨ak,now,cost⟩) w):=by
 rw[show doP ⟨3,l,d,b,cc,o⟩ ⟨at_,level,held,L⟩ ⟨ak,now,cost⟩=doL ⟨3,l,d,b,cc,o⟩ ⟨at_,level,held,L⟩ ⟨ak,now,cost⟩ by unfold doP;simp]
 have hc:=fun w (hw:LogAt w a n c L)=>r6do_any ⟨3,l,d,b,cc,o⟩ ⟨at_,level,held,L⟩ a n c ⟨ak,now,cost⟩ w hw
 unfold PostSB at hc
 generalize doL ⟨3,l,d,b,cc,o⟩ ⟨at_,level,held,L⟩ ⟨ak,now,cost⟩=R at *
 obtain⟨⟨rat,rlv,rhd,rL⟩,rok⟩:=R
 have hl0:=log_lt hl
 unfold Ac.v St.v Pol.v at *
 (try dsimp only at *)
 have HC:=Go.Lib.hid hc
 clear hc
 have HL:=Go.Lib.hid hl
 clear hl
 go_enter Tryz.func28,Tryz.ntmps28
 go_wp2_with go_step3
 refine(HC.out _ (log_bl HL.out (bl_alloc (bl_alloc (bl_alloc (bl_alloc (bl_refl _) _) _) _) _))).mono ?_
 rintro e w1 ⟨a1,n1,c1,rfl,hl1,hs1,hb⟩
 have hx:Below w.heap.size w w1:=bl_then (bl_alloc (bl_alloc (bl_alloc (bl_alloc (bl_refl _) _) _) _) _) hb
 have hsz1:w.heap.size+4≤w1.heap.size:=szl hb
 have rR:=res_bl (b:=w.heap.size+1+1+1) (res_new _ _ _ _ _ _ (by simp)) hb
 have hB:Below w.heap.size w w1:=hx
 clear hb hx
 have hne1:=src_far (b:=w.heap.size+1+1+1) HL.out hs1 (by omega) (by simp)
 replace hs1:=src_out hs1 (show w.heap.size≤_ by simp;omega)
 obtain⟨f0,f1,f2,f3,u0,u1,u2,u3,i0,i1,i2,i3⟩:=res_all rR
 go_wp2_with go_step3
 (try simp only[Exit.inBlock,Exit.then,Exit.noGoto_ret])
 refine bodyPost_ret (results_state2 rfl _ _ (by rfl) (set4r rR)) rfl (sb_log (log_set4b hl1 hne1) hs1 (bl4 hB (by omega)))
theorem r8do_4 (l d b cc:Int) (o:Bool) (at_ level held:Int) (L:List (Int × Int)) (a:Option Addr) (n c:Nat) (ak now cost:Int) (w:World) (hl:LogAt w a n c L):Calls Tryz.prog 28 #[Pol.v ⟨4,l,d,b,cc,o⟩,St.v ⟨at_,level,held,L⟩ a n c,Ac.v ⟨ak,now,cost⟩] w (PostSB a n (doP ⟨4,l,d,b,cc,o⟩ ⟨at_,level,held,L⟩ ⟨ak,now,cost⟩) w):=by
 rw[show doP ⟨4,l,d,b,cc,o⟩ ⟨at_,level,held,L⟩ ⟨ak,now,cost⟩=doC ⟨4,l,d,b,cc,o⟩ ⟨at_,level,held,L⟩ ⟨ak,now,cost⟩ by unfold doP;simp]
 have hc:=fun w (hw:LogAt w a n c L)=>r7do_any ⟨4,l,d,b,cc,o⟩ ⟨at_,level,held,L⟩ a n c ⟨ak,now,cost⟩ w hw
 unfold PostSB at hc
 generalize doC ⟨4,l,d,b,cc,o⟩ ⟨at_,level,held,L⟩ ⟨ak,now,cost⟩=R at *
 obtain⟨⟨rat,rlv,rhd,rL⟩,rok⟩:=R
 have hl0:=log_lt hl
 unfold Ac.v St.v Pol.v at *
 (try dsimp only at *)
 have HC:=Go.Lib.hid hc
 clear hc
 have HL:=Go.Lib.hid hl
 clear hl
 go_enter Tryz.func28,Tryz.ntmps28
 go_wp2_with go_step3
 refine(HC.out _ (log_bl HL.out (bl_alloc (bl_alloc (bl_alloc (bl_alloc (bl_refl _) _) _) _) _))).mono ?_
 rintro e w1 ⟨a1,n1,c1,rfl,hl1,hs1,hb⟩
 have hx:Below w.heap.size w w1:=bl_then (bl_alloc (bl_alloc (bl_alloc (bl_alloc (bl_refl _) _) _) _) _) hb
 have hsz1:w.heap.size+4≤w1.heap.size:=szl hb
 have rR:=res_bl (b:=w.heap.size+1+1+1) (res_new _ _ _ _ _ _ (by simp)) hb
 have hB:Below w.heap.size w w1:=hx
 clear hb hx
 have hne1:=src_far (b:=w.heap.size+1+1+1) HL.out hs1 (by omega) (by simp)
 replace hs1:=src_out hs1 (show w.heap.size≤_ by simp;omega)
 obtain⟨f0,f1,f2,f3,u0,u1,u2,u3,i0,i1,i2,i3⟩:=res_all rR
 go_wp2_with go_step3
 (try simp only[Exit.inBlock,Exit.then,Exit.noGoto_ret])
 refine bodyPost_ret (results_state2 rfl _ _ (by rfl) (set4r rR)) rfl (sb_log (log_set4b hl1 hne1) hs1 (bl4 hB (by omega)))
theorem r8do_0 (k l d b cc:Int) (o:Bool) (at_ level held:Int) (L:List (Int × Int)) (a:Option Addr) (n c:Nat) (ak now cost:Int) (w:World) (hl:LogAt w a n c L) (k1:¬ k=1) (k2:¬ k=2) (k3:¬ k=3) (k4:¬ k=4):Calls Tryz.prog 28 #[Pol.v ⟨k,l,d,b,cc,o⟩,St.v ⟨at_,level,held,L⟩ a n c,Ac.v ⟨ak,now,cost⟩] w (PostSB a n (doP ⟨k,l,d,b,cc,o⟩ ⟨at_,level,held,L⟩ ⟨ak,now,cost⟩) w):=by
 rw[show doP ⟨k,l,d,b,cc,o⟩ ⟨at_,level,held,L⟩ ⟨ak,now,cost⟩=(St.none,false) by unfold doP doB rightB okB;simp[k1,k2,k3,k4]]
 refine Calls.mono (R:=fun e w'=>e=.returned (.tuple #[.agg #[.int .i64 0,.int .i64 0,.int .i64 0,.slice none 0 0],.bool false])∧Below w.heap.size w w') ?_ (fun e w' hh=>sb_none hh)
 unfold Ac.v St.v Pol.v at *
 (try unfold St.none at *)
 (try dsimp only at *)
 clear hl
 go_enter Tryz.func28,Tryz.ntmps28
 go_wp2_with go_step3
 (try simp only[Exit.inBlock,Exit.then,Exit.noGoto_ret])
 refine bodyPost_ret (v:=.tuple #[.agg #[.int .i64 0,.int .i64 0,.int .i64 0,.slice none 0 0],.bool false]) (by simp[results,Tryz.results28,go_sem]) rfl ⟨rfl,bl_alloc (bl_alloc (bl_alloc (bl_alloc (bl_refl _) _) _) _) _⟩
theorem r8do_any (p:Pol) (s:St) (a:Option Addr) (n c:Nat) (x:Ac) (w:World) (hl:LogAt w a n c s.log):Calls Tryz.prog 28 #[p.v,s.v a n c,x.v] w (PostSB a n (doP p s x) w):=by
 obtain⟨k,l,d,b,cc,o⟩:=p
 obtain⟨at_,level,held,L⟩:=s
 obtain⟨ak,now,cost⟩:=x
 by_cases k1:k=1
 ·subst k1;exact r8do_1 l d b cc o at_ level held L a n c ak now cost w hl
 by_cases k2:k=2
 ·subst k2;exact r8do_2 l d b cc o at_ level held L a n c ak now cost w hl
 by_cases k3:k=3
 ·subst k3;exact r8do_3 l d b cc o at_ level held L a n c ak now cost w hl
 by_cases k4:k=4
 ·subst k4;exact r8do_4 l d b cc o at_ level held L a n c ak now cost w hl
 exact r8do_0 k l d b cc o at_ level held L a n c ak now cost w hl k1 k2 k3 k4
theorem same_yes (s:St) (a1 a2:Option Addr) (n k1 k2:Nat) (w:World) (h1:LogAt w a1 n k1 s.log) (h2:LogAt w a2 n k2 s.log) :
  Calls Tryz.prog 17 #[s.v a1 n k1,s.v a2 n k2] w fun e w'=>e=.returned (.bool true)∧Below w.heap.size w w':=by
 obtain⟨at_,level,held,L⟩:=s
 unfold St.v
 dsimp only at *
 have H1:=Go.Lib.hid h1
 have H2:=Go.Lib.hid h2
 have hnm:(n:Int)≤9223372036854775807:=by have:=h1.2.1;have:=h1.2.2.1;omega
 have hneq:∀ (x y:Int) (w:World),(binOp .neq 82 (.agg #[.int .i64 x,.int .i64 y]) (.agg #[.int .i64 x,.int .i64 y])).run Tryz.prog w=.ok (.bool false) w:=by
  intro x y w
  simp[go_sem,Op.equal]
 clear h1 h2
 go_enter Tryz.func17,Tryz.ntmps17
 go_wp2_with fail
 refine wp_abs (S0:=fun w'=>S4 w' (w.heap.size) at_ level held a1 n k1 (S4 w' (w.heap.size+1) at_ level held a2 n k2 (Below w.heap.size w w'))) ⟨by go_simp,by go_simp,by go_simp,by go_simp,by go_simp,by go_simp,by go_simp,by go_simp,bl_alloc (bl_alloc (bl_refl _) _) _⟩ ?_
 rintro W ⟨c0,c1,c2,c3,c4,c5,c6,c7,hB⟩
 go_loopw [5] (fun s5 wr=>∃ j:Nat,s5=.int .i64 j∧j≤n∧Hid (Below W.heap.size W wr))
  (fun s5 _=>n - (intOf s5).toNat)
 case atStart=>exact⟨0,rfl,Nat.zero_le _,Below.refl _ _⟩
 case round =>
  obtain⟨j,rfl,hj,H⟩:=hrel
  have hb:=H.out
  have d0:=bl_cell hb c0
  have d1:=bl_cell hb c1
  have d2:=bl_cell hb c2
  have d3:=bl_cell hb c3
  have d4:=bl_cell hb c4
  have d5:=bl_cell hb c5
  have d6:=bl_cell hb c6
  have d7:=bl_cell hb c7
  have dB:Below w.heap.size w wr:=hB.trans (hb.mono hB.size)
  by_cases hjn:j<n
  ·obtain⟨b1,o1,rfl,p1,p2⟩:=H1.out.2.2.2 j hjn
   obtain⟨b2,o2,rfl,p3,p4⟩:=H2.out.2.2.2 j hjn
   have x1:=bl_cell dB p1
   have x2:=bl_cell dB p2
   have x3:=bl_cell dB p3
   have x4:=bl_cell dB p4
   generalize (L.getD j (0,0)).1=T at x1 x3
   generalize (L.getD j (0,0)).2=C at x2 x4
   have hk0:(0:Int)≤(j:Int):=by omega
   have hk1:(j:Int)<(n:Int):=by omega
   have hj1:j+1≤n:=hjn
   have hms:n - (j+1)<n - j:=by omega
   clear p1 p2 p3 p4 H hB c0 c1 c2 c3 c4 c5 c6 c7
   go_wp2_with fail
   refine wp_region_held_drew (S:=fun w'=>S4 w' (w.heap.size) at_ level held (some ⟨b1,o1,none⟩) n k1 (S4 w' (w.heap.size+1) at_ level held (some ⟨b2,o2,none⟩) n k2 (w'.cell? ⟨b1,o1+j*2,none⟩=some (.int .i64 T)∧w'.cell? ⟨b1,o1+j*2+1,none⟩=some (.int .i64 C)∧w'.cell? ⟨b2,o2+j*2,none⟩=some (.int .i64 T)∧w'.cell? ⟨b2,o2+j*2+1,none⟩=some (.int .i64 C)∧Below w.heap.size w w'))) (by kernel_rfl) ?_ (fun hHeld=>?_)
   ·exact⟨d0,d1,d2,d3,d4,d5,d6,d7,x1,x2,x3,x4,bl_drew dB⟩
   try simp only[Act.put,List.setIfInBounds_toArray,List.set_cons_zero,List.set_cons_succ]
   refine tkx 0 ?_
   refine tkx 1 ?_
   refine tkx 2 ?_
   refine tkx 3 ?_
   refine tkx 4 ?_
   refine tkx 5 ?_
   refine tkx 6 ?_
   refine tkx 7 ?_
   refine tkx 8 ?_
   refine tkx 9 ?_
   refine tkx 10 ?_
   refine wpAnyH_done (by kernel_rfl) ?_ _
   clear hHeld
   have hbd:Below W.heap.size W wr.drew:=hb.drew
   go_wp2_with fail
   go_roundw
   case rel=>exact⟨j+1,by go_num,hj1,hbd⟩
   case measure=>(simp[intOf];first|exact hms|omega)
  ·have hje:n=j:=by omega
   subst hje
   go_wp2_with fail
   go_ret
   exact⟨rfl,dB⟩
end Go.Proofs.YtmhikkbdhboodaaGreat

namespace Go.Proofs.YtmhikkbdhboodaaGreat
open Go.RowKit Go.Maps
set_option linter.unusedVariables false
set_option linter.unusedSimpArgs false

variable {w w':World} {p p':CsP} {room nx nx':Nat} {m m':List (Int × Value)} {I A B:List CI}
/-- The document's cells: room, and a row. -/
def TV (r:Int) (v:Value):Value:=.agg #[.int .i64 r,v]
theorem results_t {fn:Func} {x:Tmp} (h:fn.results = #[.cell x 55]) (tmps:Array Value) (w:World) {b:Nat} {v0 v1:Value} (hx:tmps.getD x undef=.pointer (some ⟨b,0,none⟩)) (i0:w.cell? ⟨b,0,none⟩=some v0) (i1:w.cell? ⟨b,1,none⟩=some v1) :
  (results fn tmps).run Tryz.prog w=.ok (.agg #[v0,v1]) w:=by
 have hx':tmps[x]?.getD undef=.pointer (some ⟨b,0,none⟩):=by simpa using hx
 unfold results
 simp[h,hx',go_sem,i0,i1]
theorem results_t2 {fn:Func} {x u:Tmp} (h:fn.results = #[.cell x 55,.tmp u]) (tmps:Array Value) (w:World) {b:Nat} {v0 v1:Value} (hx:tmps.getD x undef=.pointer (some ⟨b,0,none⟩)) (i0:w.cell? ⟨b,0,none⟩=some v0) (i1:w.cell? ⟨b,1,none⟩=some v1) :
  (results fn tmps).run Tryz.prog w=.ok (.tuple #[.agg #[v0,v1],tmps.getD u undef]) w:=by
 have hx':tmps[x]?.getD undef=.pointer (some ⟨b,0,none⟩):=by simpa using hx
 unfold results
 simp[h,hx',go_sem,i0,i1]
theorem take_all {α:Type} {P:α→Prop} {l:List α} {j:Nat} {x:α} (h:∀ i ∈ l.take j,P i) (hx:l[j]?=some x) (hp:P x):∀ i ∈ l.take (j+1),P i:=fun i hi=>by
 rw[(split_nth hx).2] at hi
 rcases List.mem_append.1 hi with hi|hi
 ·exact h i hi
 ·rw[List.mem_singleton.1 hi];exact hp
theorem rnew_any (room:Int) (w:World):Calls Tryz.prog 32 #[.int .i64 room] w fun e w'=>e=.returned (TV (roomOf room) (.slice none 0 0))∧Below w.heap.size w w':=by
 unfold TV
 go_enter Tryz.func32,Tryz.ntmps32
 go_wp2_with fail
 all_goals first|(rw[show((roomOf room:Nat):Int)=10000 by unfold roomOf;omega];exact bodyPost_ret (v:=.agg #[.int .i64 10000,.slice none 0 0]) (results_t rfl _ _ rfl (by go_simp) (by go_simp)) rfl ⟨rfl,bl_alloc (bl_refl w) _⟩)|(rw[show((roomOf room:Nat):Int)=room by unfold roomOf;omega];exact bodyPost_ret (v:=.agg #[.int .i64 room,.slice none 0 0]) (results_t rfl _ _ rfl (by go_simp) (by go_simp)) rfl ⟨rfl,bl_alloc (bl_refl w) _⟩)|(rw[show((roomOf room:Nat):Int)=0 by unfold roomOf;omega];exact bodyPost_ret (v:=.agg #[.int .i64 0,.slice none 0 0]) (results_t rfl _ _ rfl (by go_simp) (by go_simp)) rfl ⟨rfl,bl_alloc (bl_refl w) _⟩)
theorem rfresh_any (x:Cl) (a:Option Addr) (n c:Nat) (now:Int) (w:World) (hl:LogAt w a n c x.st.log) :
  Calls Tryz.prog 36 #[x.v a n c,.int .i64 now] w fun e w'=>e=.returned (.bool (cFresh now x))∧Below w.heap.size w w':=by
 have hkc:=fun W hW=>r8until_any x.pol x.st a n c now W hW
 unfold cFresh
 generalize untilP x.pol x.st now=R at *
 obtain⟨key,⟨k,l,d,b,cc,o⟩,⟨at_,level,held,L⟩⟩:=x
 dsimp only at *
 unfold Cl.v St.v Pol.v at *
 dsimp only at *
 generalize ktx key=KY
 have HL:=Go.Lib.hid hl
 clear hl
 have HKC:=Go.Lib.hid hkc
 clear hkc
 go_enter Tryz.func36,Tryz.ntmps36
 go_wp2_with fail
 refine(HKC.out _ (log_bl HL.out (bl_alloc (bl_refl _) _))).mono ?_
 rintro e w1 ⟨rfl,hb⟩
 go_wp2_with fail
 go_ret
 exact⟨by first|rfl|simp,bl_then (bl_alloc (bl_refl _) _) hb⟩
theorem rhas_any {base:Nat} {Js:List LC} (r:Int) (v:Value) (s:ByteArray) (w:World) (h:CRow w base v Js) (hN:Js.length≤100000) :
  Calls Tryz.prog 138 #[TV r v,.string s] w fun e w'=>e=.returned (.bool (cHas (Js.map (·.x)) s.data.toList))∧Below w.heap.size w w':=by
 obtain⟨ra,rc,rfl⟩:=cs_form h.1
 obtain⟨N,hNe⟩:∃ N,N=Js.length:=⟨_,rfl⟩
 unfold TV
 rw[← hNe] at hN ⊢
 have HROW:=Go.Lib.hid h
 have HN:=Go.Lib.hid hNe
 clear h hNe
 go_enter Tryz.func138,Tryz.ntmps138
 go_wp2_with fail
 have hB:=bl_alloc (bl_refl w) (.cells #[.int .i64 r,.slice ra N rc] 55)
 go_loopw [5] (fun s5 wr=>∃ j:Nat,s5=.int .i64 j∧j≤N∧(∀ i ∈ Js.take j,i.x.key≠s.data.toList)∧Hid (Below w.heap.size w wr∧wr.cell? ⟨w.heap.size,1,none⟩=some (.slice ra N rc))) (fun s5 _=>N - (intOf s5).toNat)
 case atStart=>exact⟨0,rfl,Nat.zero_le _,(fun i hi=>by cases hi),⟨hB,by go_simp⟩⟩
 case round =>
  clear hB
  obtain⟨j,rfl,hj,hno,H⟩:=hrel
  obtain⟨hB,tb1⟩:=H.out
  clear H
  have HNO:=Go.Lib.hid hno
  clear hno
  by_cases hjN:j<N
  ·obtain ⟨i,hij⟩:∃ i,Js[j]?=some i:=⟨Js[j]'(by rw[← HN.out];exact hjN),List.getElem?_eq_getElem _⟩
   obtain⟨g,cap,e,rc0,-⟩:=crow_at (crow_bl HROW.out hB) hij
   rw[← HN.out] at e
   injection e with e1 e2 e3
   subst e1 e3
   have k0:(0:Int)≤(j:Int):=by omega
   have k1:(j:Int)<(N:Int):=by omega
   have hkey:=ktx_eq i.x.key s
   have HIJ:=Go.Lib.hid hij
   clear hij
   by_cases he:i.x.key=s.data.toList
   ·rw [decide_eq_true he] at hkey
    have HE:=Go.Lib.hid he
    clear he
    go_wp2_with fail
    go_ret
    refine⟨?_,hB⟩
    have:cHas (Js.map (·.x)) s.data.toList=true:=by
     unfold cHas
     rw[List.any_eq_true]
     exact⟨i.x,List.mem_map.2 ⟨i,List.mem_of_getElem? HIJ.out,rfl⟩,by simpa using HE.out⟩
    rw[this]
    rfl
   ·rw[decide_eq_false he] at hkey
    have HE:=Go.Lib.hid he
    clear he
    go_wp2_with fail
    go_roundw
    case rel=>exact⟨j+1,by go_num,by omega,take_all HNO.out HIJ.out HE.out,⟨hB,tb1⟩⟩
    case measure=>simp[intOf];omega
  ·have hje:j=N:=by omega
   subst hje
   go_wp2_with fail
   go_ret
   refine⟨?_,hB⟩
   have:cHas (Js.map (·.x)) s.data.toList=false:=has_false.2 fun y hy=>by
    obtain⟨i,hi,rfl⟩:=List.mem_map.1 hy
    exact HNO.out i (by rw[List.take_of_length_le (by rw[← HN.out];exact Nat.le_refl _)];exact hi)
   rw[this]
   rfl
end Go.Proofs.YtmhikkbdhboodaaGreat

namespace Go.Proofs.YtmhikkbdhboodaaGreat
open Go.RowKit Go.Maps
set_option linter.unusedVariables false
set_option linter.unusedSimpArgs false

variable {w w':World} {p p':CsP} {room nx nx':Nat} {m m':List (Int × Value)} {I A B:List CI}
theorem lfind {M:List Cl} {f:Cl→Bool} {j:Nat} {x:Cl} (h:M[j]?=some x) (hA:∀ y ∈ M.take j,f y=false) (hx:f x=true):M.find? f=some x:=by
 rw[(split_nth h).1,List.find?_append,List.find?_eq_none.2 (fun y hy=>by simp[hA y hy]),List.find?_cons,hx]
 rfl
theorem lfind_none {M:List Cl} {f:Cl→Bool} (hA:∀ y ∈ M,f y=false):M.find? f=none:=List.find?_eq_none.2 (fun y hy=>by simp[hA y hy])
theorem map_take {P:Cl→Prop} {Js:List LC} {j:Nat} (h:∀ i ∈ Js.take j,P i.x):∀ y ∈ (Js.map (·.x)).take j,P y:=fun y hy=>by
 rw[← List.map_take] at hy
 obtain⟨i,hi,rfl⟩:=List.mem_map.1 hy
 exact h i hi
theorem take_whole {P:Cl→Prop} {Js:List LC} {N:Nat} (hN:N=Js.length) (h:∀ i ∈ Js.take N,P i.x):∀ y ∈ Js.map (·.x),P y:=fun y hy=>by
 obtain⟨i,hi,rfl⟩:=List.mem_map.1 hy
 exact h i (by rw[List.take_of_length_le (by rw[hN];exact Nat.le_refl _)];exact hi)
/-- Which one goes. -/
def VicP (Js:List LC) (now:Int) (e:Ending):Prop:=(∃ (j:Nat) (i:LC),Js[j]?=some i∧cVictim (Js.map (·.x)) now=some i.x∧e=.returned (.int .i64 j))∨(cVictim (Js.map (·.x)) now=none∧e=.returned (.int .i64 (-1)))
theorem rvictim_any {base:Nat} {Js:List LC} (r:Int) (v:Value) (now:Int) (w:World) (h:CRow w base v Js) (hN:Js.length≤100000) :
  Calls Tryz.prog 139 #[TV r v,.int .i64 now] w fun e w'=>VicP Js now e∧Below w.heap.size w w':=by
 obtain⟨ra,rc,rfl⟩:=cs_form h.1
 obtain⟨N,hNe⟩:∃ N,N=Js.length:=⟨_,rfl⟩
 unfold TV
 rw[← hNe] at hN ⊢
 have HROW:=Go.Lib.hid h
 have HN:=Go.Lib.hid hNe
 clear h hNe
 go_enter Tryz.func139,Tryz.ntmps139
 go_wp2_with fail
 have hB:=bl_alloc (bl_refl w) (.cells #[.int .i64 r,.slice ra N rc] 55)
 go_loopw [5] (fun s wr=>∃ j:Nat,s=.int .i64 j∧j≤N∧(∀ i ∈ Js.take j,cFresh now i.x=false)∧Hid (Below w.heap.size w wr∧wr.cell? ⟨w.heap.size,1,none⟩=some (.slice ra N rc))) (fun s _=>N - (intOf s).toNat)
 case atStart=>exact⟨0,rfl,Nat.zero_le _,(fun i hi=>by cases hi),⟨hB,by go_simp⟩⟩
 case round =>
  clear hB
  obtain⟨j,rfl,hj,hno,H⟩:=hrel
  obtain⟨hB,tb1⟩:=H.out
  clear H
  have HNO:=Go.Lib.hid hno
  clear hno
  by_cases hjN:j<N
  ·obtain ⟨i,hij⟩:∃ i,Js[j]?=some i:=⟨Js[j]'(by rw[← HN.out];exact hjN),List.getElem?_eq_getElem _⟩
   have hlog:=(crow_bl HROW.out hB).2 i (List.mem_of_getElem? hij)
   obtain⟨g,cap,e,rc0,rc1,rc2,rc3,rc4,rc5,rc6,rc7,rc8,rc9,rc10⟩:=crow_at (crow_bl HROW.out hB) hij
   rw[← HN.out] at e
   injection e with e1 e2 e3
   subst e1 e3
   have k0:(0:Int)≤(j:Int):=by omega
   have k1:(j:Int)<(N:Int):=by omega
   have HIJ:=Go.Lib.hid hij
   clear hij
   have hfr:=fun W hW=>rfresh_any i.x i.a i.n i.c now W hW
   obtain⟨R,hR⟩:∃ R,R=cFresh now i.x:=⟨_,rfl⟩
   rw[← hR] at hfr
   have HR:=Go.Lib.hid hR
   clear hR
   obtain⟨⟨key,⟨k,l,d,b,cc,o⟩,⟨at_,level,held,LG⟩⟩,a,n,c⟩:=i
   unfold Cl.v at hfr
   dsimp only at *
   generalize ktx key=KY at *
   have HFR:=Go.Lib.hid hfr
   clear hfr
   have HLOG:=Go.Lib.hid hlog
   clear hlog
   go_wp2_with fail
   refine(HFR.out _ HLOG.out).mono ?_
   rintro e w5 ⟨rfl,hb⟩
   have hB5:=bl_then hB hb
   replace tb1:=bl_cell hb tb1
   clear hb hB rc0 rc1 rc2 rc3 rc4 rc5 rc6 rc7 rc8 rc9 rc10
   cases R with
   | true =>
    go_wp2_with fail
    go_ret
    refine⟨.inl ⟨j,_,HIJ.out,?_,rfl⟩,hB5⟩
    unfold cVictim
    rw[lfind (f:=cFresh now) (by rw[List.getElem?_map,HIJ.out];rfl) (map_take HNO.out) HR.out.symm]
    rfl
   | false =>
    go_wp2_with fail
    go_roundw
    case rel=>exact⟨j+1,by go_num,by omega,take_all (P:=fun i:LC=>cFresh now i.x=false) HNO.out HIJ.out HR.out.symm,⟨hB5,tb1⟩⟩
    case measure=>simp[intOf];omega
  ·have hje:j=N:=by omega
   subst hje
   have HNO1:=Go.Lib.hid (take_whole (P:=fun x=>cFresh now x=false) HN.out HNO.out)
   clear HNO hj hjN
   go_wp2_with fail
   go_loopw [6] (fun s wr=>∃ q:Nat,s=.int .i64 q∧q≤j∧(∀ i ∈ Js.take q,cOpen i.x=false)∧Hid (Below w.heap.size w wr∧wr.cell? ⟨w.heap.size,1,none⟩=some (.slice ra j rc))) (fun s _=>j - (intOf s).toNat)
   case atStart=>exact⟨0,rfl,Nat.zero_le _,(fun i hi=>by cases hi),⟨hB,tb1⟩⟩
   case round =>
    clear hB tb1
    obtain⟨q,rfl,hj,hno,H⟩:=hrel
    obtain⟨hB,tb1⟩:=H.out
    clear H
    have HNO:=Go.Lib.hid hno
    clear hno
    by_cases hjN:q<j
    ·obtain ⟨i,hij⟩:∃ i,Js[q]?=some i:=⟨Js[q]'(by rw[← HN.out];exact hjN),List.getElem?_eq_getElem _⟩
     obtain⟨g,cap,e,rc0,rc1,rc2,rc3,rc4,rc5,rc6,rc7,rc8,rc9,rc10⟩:=crow_at (crow_bl HROW.out hB) hij
     rw[← HN.out] at e
     injection e with e1 e2 e3
     subst e1 e3
     have k0:(0:Int)≤(q:Int):=by omega
     have k1:(q:Int)<(j:Int):=by omega
     have HIJ:=Go.Lib.hid hij
     clear hij
     have HOP:Hid (cOpen i.x=(i.x.pol.opn && decide (i.x.st.held=0))):=Go.Lib.hid rfl
     obtain⟨⟨key,⟨k,l,d,b,cc,o⟩,⟨at_,level,held,LG⟩⟩,a,n,c⟩:=i
     dsimp only at *
     generalize ktx key=KY at *
     have hcase:(o=true∧held=0)∨o=false∨(o=true∧¬ held=0):=by cases o <;> by_cases hh:held=0 <;> simp[hh]
     rcases hcase with⟨rfl,rfl⟩|rfl|⟨rfl,hne⟩
     ·go_wp2_with fail
      go_ret
      refine⟨.inl ⟨q,_,HIJ.out,?_,rfl⟩,hB⟩
      unfold cVictim
      rw[lfind_none HNO1.out,lfind (f:=cOpen) (by rw[List.getElem?_map,HIJ.out];rfl) (map_take HNO.out) (by rw[HOP.out];rfl)]
      rfl
     ·go_wp2_with fail
      go_roundw
      case rel=>exact⟨q+1,by go_num,by omega,take_all (P:=fun i:LC=>cOpen i.x=false) HNO.out HIJ.out (by rw[HOP.out];rfl),⟨hB,tb1⟩⟩
      case measure=>simp[intOf];omega
     ·go_wp2_with fail
      go_roundw
      case rel=>exact⟨q+1,by go_num,by omega,take_all (P:=fun i:LC=>cOpen i.x=false) HNO.out HIJ.out (by rw[HOP.out];simp[hne]),⟨hB,tb1⟩⟩
      case measure=>simp[intOf];omega
    ·have hje:q=j:=by omega
     subst hje
     go_wp2_with fail
     go_ret
     refine⟨.inr ⟨?_,rfl⟩,hB⟩
     unfold cVictim
     rw[lfind_none HNO1.out,lfind_none (take_whole (P:=fun x=>cOpen x=false) HN.out HNO.out)]
     rfl
end Go.Proofs.YtmhikkbdhboodaaGreat

namespace Go.Proofs.YtmhikkbdhboodaaGreat
open Go.RowKit Go.Maps
set_option linter.unusedVariables false
set_option linter.unusedSimpArgs false

variable {w w':World} {p p':CsP} {room nx nx':Nat} {m m':List (Int × Value)} {I A B:List CI}
theorem row_set {w:World} {B e size n:Nat} {v:Value} {xs:List Value} (h:w.ownsRow B e size v n xs) {a:Addr} (ha:a.block<B) (u:Value):(w.setCell a u).ownsRow B e size v n xs :=
 row_frame h fun k hk=>by
  have:=(World.ownsRow.lt h k hk).1
  have hne:a.block≠k:=by omega
  simp[World.setCell,Array.getElem?_modify,hne]
theorem app_wp {P:Program} {Q:Exit→Act→World→Prop} {w:World} {a:Act} {ops:Array Oper} {o:Oper} {t:TypeId} {K:Act→World→Prop} {E:Prop} {v':Value} {w':World} (s x:Operand) (hw:Region.wanted o (yielded ops a.tmps)=true)
  (ho:o.op=.call { callee:=.builtin .append,args := #[s,x],argTypes := #[t,t] }) (hrun:(Builtin.append_ #[t,t] o.type #[a.eval s,a.eval x]).run P w=.ok v' w') (h:K (a.put o.dst v') w') :
  if Region.wanted o (yielded ops a.tmps)=true then Oper.wp P o a w K Q else E:=by
 rw[if_pos hw]
 unfold Oper.wp execOp
 simp only[ho,resolve,invoke,builtin,Sem.run_bind,Sem.run_pure,Result.andThen_ok,List.map_toArray,List.map_cons,List.map_nil,hrun]
 exact h
theorem rwithout_any {base:Nat} {Js:List LC} (r:Int) (v:Value) (s:ByteArray) (w:World) (h:CRow w base v Js) (hN:Js.length≤100000) :
  Calls Tryz.prog 137 #[TV r v,.string s] w fun e w'=>∃ (v':Value) (Fs:List LC),e=.returned (TV r v')∧CRow w' w.heap.size v' Fs∧Fs.map (·.x)=cWithout (Js.map (·.x)) s.data.toList∧(∀ i ∈ Fs,i ∈ Js)∧Below w.heap.size w w':=by
 obtain⟨ra,rc,rfl⟩:=cs_form h.1
 obtain⟨N,hNe⟩:∃ N,N=Js.length:=⟨_,rfl⟩
 unfold TV
 rw[← hNe] at hN ⊢
 have HROW:=Go.Lib.hid h
 have HN:=Go.Lib.hid hNe
 clear h hNe
 go_enter Tryz.func137,Tryz.ntmps137
 go_wp2_with fail
 have hB:=bl_alloc (bl_alloc (bl_alloc (bl_refl w) (.cells #[.int .i64 r,.slice ra N rc] 55)) (.cells #[.int .i64 0,.slice none 0 0] 55)) (.cells #[.int .i64 r,.slice none 0 0] 55)
 have hys0:∀ q,q<2→((((w.alloc (.cells #[.int .i64 r,.slice ra N rc] 55)).alloc (.cells #[.int .i64 0,.slice none 0 0] 55)).alloc (.cells #[.int .i64 r,.slice none 0 0] 55)).cell? ⟨w.heap.size+1,q,none⟩).isSome=true∧(((w.alloc (.cells #[.int .i64 r,.slice ra N rc] 55)).alloc (.cells #[.int .i64 0,.slice none 0 0] 55)).alloc (.cells #[.int .i64 r,.slice none 0 0] 55)).frozen? ⟨w.heap.size+1,q,none⟩=false:=fun q hq=>by
  have:q=0∨q=1:=by omega
  rcases this with rfl|rfl <;> exact⟨by go_simp,by go_simp⟩
 go_loopw [6] (fun s6 wr=>∃ (j:Nat) (Fs:List LC) (uv:Value),s6=.int .i64 j∧j≤N∧Fs=(Js.take j).filter (fun i:LC => !(i.x.key == s.data.toList))∧Hid (Below w.heap.size w wr∧wr.ownsRow (w.heap.size+3) 59 11 uv Fs.length (lcells Fs)∧w.heap.size+3≤wr.heap.size∧wr.cell? ⟨w.heap.size+2,1,none⟩=some uv∧wr.frozen? ⟨w.heap.size+2,1,none⟩=false∧wr.cell? ⟨w.heap.size+2,0,none⟩=some (.int .i64 r)∧(∀ q,q<2→(wr.cell? ⟨w.heap.size+1,q,none⟩).isSome=true∧wr.frozen? ⟨w.heap.size+1,q,none⟩=false)∧wr.cell? ⟨w.heap.size,1,none⟩=some (.slice ra N rc))) (fun s6 _=>N - (intOf s6).toNat)
 case atStart=>exact⟨0,[],.slice none 0 0,rfl,Nat.zero_le _,rfl,⟨hB,World.ownsRow_nil _ _ _ _,by simp,by go_simp,by go_simp,by go_simp,hys0,by go_simp⟩⟩
 case round =>
  clear hB
  obtain⟨j,Fs,uv,rfl,hj,hFs,H⟩:=hrel
  obtain⟨hB,ow,hbz,u1,uf,u0,hys,tb1⟩:=H.out
  clear H
  have HFS:=Go.Lib.hid hFs
  have hFl:Fs.length≤j:=by rw[hFs];refine Nat.le_trans (List.length_filter_le _ _) ?_;rw[List.length_take];omega
  clear hFs
  by_cases hjN:j<N
  ·obtain ⟨i,hij⟩:∃ i,Js[j]?=some i:=⟨Js[j]'(by rw[← HN.out];exact hjN),List.getElem?_eq_getElem _⟩
   have hlog:=(crow_bl HROW.out hB).2 i (List.mem_of_getElem? hij)
   obtain⟨g,cap,e,rc0,rc1,rc2,rc3,rc4,rc5,rc6,rc7,rc8,rc9,rc10⟩:=crow_at (crow_bl HROW.out hB) hij
   rw[← HN.out] at e
   injection e with e1 e2 e3
   subst e1 e3
   have k0:(0:Int)≤(j:Int):=by omega
   have k1:(j:Int)<(N:Int):=by omega
   have HIJ:=Go.Lib.hid hij
   clear hij
   skip
   have hfs2:=(split_nth HIJ.out).2
   have HT2:=Go.Lib.hid hfs2
   clear hfs2
   have hgw:g<w.heap.size:=by have:=(World.ownsRow.lt HROW.out.1 g rfl).2;exact this
   have hkey:=ktx_eq i.x.key s
   have HP:Hid ((fun i:LC => !(i.x.key == s.data.toList)) i = !(i.x.key == s.data.toList)):=Go.Lib.hid rfl
   have HLC:Hid (lcell i=[.string (ktx i.x.key),.int .i64 i.x.pol.kind,.int .i64 i.x.pol.limit,.int .i64 i.x.pol.period,.int .i64 i.x.pol.burst,.int .i64 i.x.pol.cap,.bool i.x.pol.opn,.int .i64 i.x.st.at_,.int .i64 i.x.st.level,.int .i64 i.x.st.held,.slice i.a i.n i.c]):=Go.Lib.hid rfl
   by_cases he:i.x.key=s.data.toList
   ·rw[decide_eq_true he] at hkey
    have HE:=Go.Lib.hid he
    clear he
    go_wp2_with fail
    go_roundw
    case rel=>exact⟨j+1,Fs,uv,by go_num,by omega,by rw[HT2.out,List.filter_append,← HFS.out];simp[HE.out],⟨hB,ow,hbz,u1,uf,u0,hys,tb1⟩⟩
    case measure=>simp[intOf];omega
   ·rw[decide_eq_false he] at hkey
    have HE:=Go.Lib.hid he
    clear he
    obtain⟨⟨key,⟨k,l,d,b,cc,o⟩,⟨at_,level,held,LG⟩⟩,a,n,c⟩:=i
    dsimp only at *
    generalize ktx key=KY at *
    go_wp2_with fail
    clear hlog
    refine wp_region_held_drew (S:=fun X=>X.cell? ⟨w.heap.size,1,none⟩=some (.slice (some ⟨g,0,none⟩) N rc)∧X.cell? ⟨g,j*11,none⟩=some (.string KY)∧X.cell? ⟨g,j*11+1,none⟩=some (.int .i64 k)∧X.cell? ⟨g,j*11+2,none⟩=some (.int .i64 l)∧X.cell? ⟨g,j*11+3,none⟩=some (.int .i64 d)∧X.cell? ⟨g,j*11+4,none⟩=some (.int .i64 b)∧X.cell? ⟨g,j*11+5,none⟩=some (.int .i64 cc)∧X.cell? ⟨g,j*11+6,none⟩=some (.bool o)∧X.cell? ⟨g,j*11+7,none⟩=some (.int .i64 at_)∧X.cell? ⟨g,j*11+8,none⟩=some (.int .i64 level)∧X.cell? ⟨g,j*11+9,none⟩=some (.int .i64 held)∧X.cell? ⟨g,j*11+10,none⟩=some (.slice a n c)) (by kernel_rfl) ?_ (fun hHeld=>?_)
    ·exact⟨tb1,rc0,rc1,rc2,rc3,rc4,rc5,rc6,rc7,rc8,rc9,rc10⟩
    try simp only[Act.put,List.setIfInBounds_toArray,List.set_cons_zero,List.set_cons_succ]
    refine wpAnyH_abs (F:=fun X=>Below w.heap.size w X∧X.ownsRow (w.heap.size+3) 59 11 uv Fs.length (lcells Fs)∧(w.heap.size+3)≤X.heap.size∧X.cell? ⟨w.heap.size+2,1,none⟩=some uv∧X.frozen? ⟨w.heap.size+2,1,none⟩=false∧X.cell? ⟨w.heap.size+2,0,none⟩=some (.int .i64 r)∧(∀ q,q<2→(X.cell? ⟨w.heap.size+1,q,none⟩).isSome=true∧X.frozen? ⟨w.heap.size+1,q,none⟩=false)) hHeld ⟨bl_drew hB,ow,hbz,u1,uf,u0,hys⟩ ?_
    clear hHeld hB ow u1 uf u0 hys hbz tb1 rc0 rc1 rc2 rc3 rc4 rc5 rc6 rc7 rc8 rc9 rc10
    rintro X0 hHeld ⟨hB,ow,hbz,u1,uf,u0,hys⟩
    obtain⟨tb1,rc0,rc1,rc2,rc3,rc4,rc5,rc6,rc7,rc8,rc9,rc10⟩:=(id hHeld)
    obtain⟨i0,hi,hz0,hz1,hz2⟩:=info_parts infoC
    obtain⟨v5,w5,hrun,hown5,hgrow5,-⟩:=run_append_own (P:=Tryz.prog) (X0.alloc (.cells #[.string KY,.int .i64 k,.int .i64 l,.int .i64 d,.int .i64 b,.int .i64 cc,.bool o,.int .i64 at_,.int .i64 level,.int .i64 held,.slice a n c] 59)) ((w.heap.size+3)) 53 53 59 i0 _ 11 112 undC hi hz0 hz1 hz2 rfl (by decide) uv Fs.length _ (row_bl ow (bl_alloc (bl_refl X0) _)) ⟨X0.heap.size,0,none⟩ 1 1 (lcell ⟨⟨key,⟨k,l,d,b,cc,o⟩,⟨at_,level,held,LG⟩⟩,a,n,c⟩) rfl (fun q u hq=>new_cells _ _ (by rw[HLC.out] at hq;exact hq)) (lcell_one _) (by simp only[maxLen];omega) (by omega) (by simp;omega)
    obtain⟨a5,c5,rfl⟩:=cs_form hown5
    clear hi hz0 hz1 hz2
    have hg5:∀ q,q<(w.heap.size+3)→w5.heap[q]?=X0.heap[q]?:=fun q hq=>(hgrow5.block q (by rw[World.size_alloc];omega) (fun e=>by have:=(World.ownsRow.lt ow q e.symm).1;omega)).trans ((bl_alloc (bl_refl X0) (.cells #[.string KY,.int .i64 k,.int .i64 l,.int .i64 d,.int .i64 b,.int .i64 cc,.bool o,.int .i64 at_,.int .i64 level,.int .i64 held,.slice a n c] 59)).block q (by omega))
    have hg6:∀ (q o:Nat) (u:Value),q<(w.heap.size+3)→X0.cell? ⟨q,o,none⟩=some u→w5.cell? ⟨q,o,none⟩=some u:=fun q o u hq hu=>by rw[World.cell?_of_block (hg5 q hq)];exact hu
    have hg7:∀ (q o:Nat) (u:Value),q<w.heap.size→X0.cell? ⟨q,o,none⟩=some u→w5.cell? ⟨q,o,none⟩=some u:=fun q o u hq hu=>hg6 q o u (by omega) hu
    have hS5:(fun X=>X.cell? ⟨w.heap.size,1,none⟩=some (.slice (some ⟨g,0,none⟩) N rc)∧X.cell? ⟨g,j*11,none⟩=some (.string KY)∧X.cell? ⟨g,j*11+1,none⟩=some (.int .i64 k)∧X.cell? ⟨g,j*11+2,none⟩=some (.int .i64 l)∧X.cell? ⟨g,j*11+3,none⟩=some (.int .i64 d)∧X.cell? ⟨g,j*11+4,none⟩=some (.int .i64 b)∧X.cell? ⟨g,j*11+5,none⟩=some (.int .i64 cc)∧X.cell? ⟨g,j*11+6,none⟩=some (.bool o)∧X.cell? ⟨g,j*11+7,none⟩=some (.int .i64 at_)∧X.cell? ⟨g,j*11+8,none⟩=some (.int .i64 level)∧X.cell? ⟨g,j*11+9,none⟩=some (.int .i64 held)∧X.cell? ⟨g,j*11+10,none⟩=some (.slice a n c)) w5:=⟨hg6 _ _ _ (by omega) tb1,hg6 _ _ _ (by omega) rc0,hg6 _ _ _ (by omega) rc1,hg6 _ _ _ (by omega) rc2,hg6 _ _ _ (by omega) rc3,hg6 _ _ _ (by omega) rc4,hg6 _ _ _ (by omega) rc5,hg6 _ _ _ (by omega) rc6,hg6 _ _ _ (by omega) rc7,hg6 _ _ _ (by omega) rc8,hg6 _ _ _ (by omega) rc9,hg6 _ _ _ (by omega) rc10⟩
    have hB5:Below w.heap.size w w5:=(bl_alloc hB _).grown hgrow5 (by simp;have:=hB.size;omega) (fun q hq=>by have:=(World.ownsRow.lt ow q hq).1;omega)
    have u15:=hg6 _ _ _ (by omega) u1
    have uf5:w5.frozen? ⟨w.heap.size+2,1,none⟩=false:=by rw[World.frozen?_of_block (hg5 _ (by dsimp only;omega))];exact uf
    have u05:=hg6 _ _ _ (by omega) u0
    have hys5:∀ q,q<2→(w5.cell? ⟨w.heap.size+1,q,none⟩).isSome=true∧w5.frozen? ⟨w.heap.size+1,q,none⟩=false:=fun q hq=>by rw[World.cell?_of_block (hg5 _ (by dsimp only;omega)),World.frozen?_of_block (hg5 _ (by dsimp only;omega))];exact hys q hq
    have hbz5:(w.heap.size+3)≤w5.heap.size:=by have:=hgrow5.size;rw[World.size_alloc] at this;omega
    have HS5:=Go.Lib.hid hS5
    have HO5:=Go.Lib.hid hown5
    have HB5:=Go.Lib.hid hB5
    have HY5:=Go.Lib.hid hys5
    have HSA:Hid ((fun X=>X.cell? ⟨w.heap.size,1,none⟩=some (.slice (some ⟨g,0,none⟩) N rc)∧X.cell? ⟨g,j*11,none⟩=some (.string KY)∧X.cell? ⟨g,j*11+1,none⟩=some (.int .i64 k)∧X.cell? ⟨g,j*11+2,none⟩=some (.int .i64 l)∧X.cell? ⟨g,j*11+3,none⟩=some (.int .i64 d)∧X.cell? ⟨g,j*11+4,none⟩=some (.int .i64 b)∧X.cell? ⟨g,j*11+5,none⟩=some (.int .i64 cc)∧X.cell? ⟨g,j*11+6,none⟩=some (.bool o)∧X.cell? ⟨g,j*11+7,none⟩=some (.int .i64 at_)∧X.cell? ⟨g,j*11+8,none⟩=some (.int .i64 level)∧X.cell? ⟨g,j*11+9,none⟩=some (.int .i64 held)∧X.cell? ⟨g,j*11+10,none⟩=some (.slice a n c)) (X0.alloc (.cells #[.string KY,.int .i64 k,.int .i64 l,.int .i64 d,.int .i64 b,.int .i64 cc,.bool o,.int .i64 at_,.int .i64 level,.int .i64 held,.slice a n c] 59))):=Go.Lib.hid ⟨bl_cell (bl_alloc (bl_refl X0) _) tb1,bl_cell (bl_alloc (bl_refl X0) _) rc0,bl_cell (bl_alloc (bl_refl X0) _) rc1,bl_cell (bl_alloc (bl_refl X0) _) rc2,bl_cell (bl_alloc (bl_refl X0) _) rc3,bl_cell (bl_alloc (bl_refl X0) _) rc4,bl_cell (bl_alloc (bl_refl X0) _) rc5,bl_cell (bl_alloc (bl_refl X0) _) rc6,bl_cell (bl_alloc (bl_refl X0) _) rc7,bl_cell (bl_alloc (bl_refl X0) _) rc8,bl_cell (bl_alloc (bl_refl X0) _) rc9,bl_cell (bl_alloc (bl_refl X0) _) rc10⟩
    have lb_o:=lbc u1
    clear hS5 hown5 hB5 hys5 hg5 hg6 hg7 hgrow5 ow hys hB hbz u0 tb1 rc0 rc1 rc2 rc3 rc4 rc5 rc6 rc7 rc8 rc9 rc10
    refine tkx 0 ?_
    refine tkx 2 ?_
    refine tkx 3 ?_
    refine tkx 4 ?_
    refine tkx 5 ?_
    refine tkx 6 ?_
    refine callC2 (i:=1) (j:=7) rfl rfl ?_ ?_
    case' refine_1=>(intro K hK;(go_simp;refine hK.out _ _ (id hHeld) (fun hHeld2=>?_);clear hHeld hK K;have hHeld:=hHeld2;clear hHeld2;try simp only[Act.put,List.setIfInBounds_toArray,List.set_cons_zero,List.set_cons_succ]);refine callC (i:=7) rfl (fun K hK=>?_);(go_simp;refine hK.out _ _ HSA.out (fun hHeld2=>?_);clear hHeld hK K;have hHeld:=hHeld2;clear hHeld2;try simp only[Act.put,List.setIfInBounds_toArray,List.set_cons_zero,List.set_cons_succ]))
    case' refine_2=>(intro K hK;(go_simp;refine hK.out _ _ HSA.out (fun hHeld2=>?_);clear hHeld hK K;have hHeld:=hHeld2;clear hHeld2;try simp only[Act.put,List.setIfInBounds_toArray,List.set_cons_zero,List.set_cons_succ]);refine callC (i:=1) rfl (fun K hK=>?_);(go_simp;refine hK.out _ _ (id hHeld) (fun hHeld2=>?_);clear hHeld hK K;have hHeld:=hHeld2;clear hHeld2;try simp only[Act.put,List.setIfInBounds_toArray,List.set_cons_zero,List.set_cons_succ]))
    all_goals(refine callC (i:=8) rfl (fun K hK=>?_);refine app_wp (Operand.tmp 26) (Operand.tmp 32) (by kernel_rfl) rfl hrun ?_;refine hK.out _ _ HS5.out (fun hHeld2=>?_);clear hHeld hK K;have hHeld:=hHeld2;clear hHeld2;try simp only[Act.put,List.setIfInBounds_toArray,List.set_cons_zero,List.set_cons_succ])
    all_goals refine tkx 9 ?_
    all_goals(refine callC (i:=10) rfl (fun K hK=>?_);go_simp;refine hK.out _ _ ?_ (fun hHeld2=>?_);(focus(obtain⟨tb1,rc0,rc1,rc2,rc3,rc4,rc5,rc6,rc7,rc8,rc9,rc10⟩:=HS5.out;exact⟨far_set (a:=⟨w.heap.size+2,1,none⟩) tb1 _ (by dsimp only;omega),far_set (a:=⟨w.heap.size+2,1,none⟩) rc0 _ (by dsimp only;omega),far_set (a:=⟨w.heap.size+2,1,none⟩) rc1 _ (by dsimp only;omega),far_set (a:=⟨w.heap.size+2,1,none⟩) rc2 _ (by dsimp only;omega),far_set (a:=⟨w.heap.size+2,1,none⟩) rc3 _ (by dsimp only;omega),far_set (a:=⟨w.heap.size+2,1,none⟩) rc4 _ (by dsimp only;omega),far_set (a:=⟨w.heap.size+2,1,none⟩) rc5 _ (by dsimp only;omega),far_set (a:=⟨w.heap.size+2,1,none⟩) rc6 _ (by dsimp only;omega),far_set (a:=⟨w.heap.size+2,1,none⟩) rc7 _ (by dsimp only;omega),far_set (a:=⟨w.heap.size+2,1,none⟩) rc8 _ (by dsimp only;omega),far_set (a:=⟨w.heap.size+2,1,none⟩) rc9 _ (by dsimp only;omega),far_set (a:=⟨w.heap.size+2,1,none⟩) rc10 _ (by dsimp only;omega)⟩));clear hHeld hK K;have hHeld:=hHeld2;clear hHeld2;try simp only[Act.put,List.setIfInBounds_toArray,List.set_cons_zero,List.set_cons_succ])
    all_goals refine wpAnyH_done (by kernel_rfl) ?_ _
    all_goals clear hHeld
    all_goals refine inb_abs (F:=fun X=>Below w.heap.size w X∧X.ownsRow (w.heap.size+3) 59 11 (.slice a5 (Fs.length+1) c5) (Fs.length+1) (lcells Fs ++ lcell ⟨⟨key,⟨k,l,d,b,cc,o⟩,⟨at_,level,held,LG⟩⟩,a,n,c⟩)∧(w.heap.size+3)≤X.heap.size∧X.cell? ⟨w.heap.size+2,1,none⟩=some (.slice a5 (Fs.length+1) c5)∧X.frozen? ⟨w.heap.size+2,1,none⟩=false∧X.cell? ⟨w.heap.size+2,0,none⟩=some (.int .i64 r)∧(∀ q,q<2→(X.cell? ⟨w.heap.size+1,q,none⟩).isSome=true∧X.frozen? ⟨w.heap.size+1,q,none⟩=false)∧X.cell? ⟨w.heap.size,1,none⟩=some (.slice (some ⟨g,0,none⟩) N rc)) ⟨bl_set HB5.out (a:=⟨w.heap.size+2,1,none⟩) (by dsimp only;omega) (.slice a5 (Fs.length+1) c5),row_set (a:=⟨w.heap.size+2,1,none⟩) HO5.out (by dsimp only;omega) (.slice a5 (Fs.length+1) c5),by rw[World.size_setCell];exact hbz5,by go_simp,by rw[World.frozen?_setCell];exact uf5,set_other (a:=⟨w.heap.size+2,1,none⟩) u05 (.slice a5 (Fs.length+1) c5) (by simp),(fun q hq=>⟨isSome_set (HY5.out q hq).1,by rw[World.frozen?_setCell];exact(HY5.out q hq).2⟩),far_set (a:=⟨w.heap.size+2,1,none⟩) (HS5.out.1) (.slice a5 (Fs.length+1) c5) (by dsimp only;omega)⟩ ?_
    all_goals clear u15 uf5 u05 HS5 HO5 HB5 HY5 HSA hrun u1 uf lb_o hbz5
    all_goals rintro Y0 ⟨hB,ow,hbz,u1,uf,u0,hys,tb1⟩
    all_goals go_wp2_with fail
    all_goals go_roundw
    all_goals first|(refine⟨j+1,Fs ++ [⟨⟨key,⟨k,l,d,b,cc,o⟩,⟨at_,level,held,LG⟩⟩,a,n,c⟩],.slice a5 (Fs.length+1) c5,by go_num,by omega,?_,⟨hB,?_,hbz,u1,uf,u0,hys,tb1⟩⟩;(focus(rw[HT2.out,List.filter_append,HFS.out];congr 1;simp[HE.out]));(rw[lcells_append,lcells_one,List.length_append];exact ow))|(simp[intOf];omega)
  ·have hje:j=N:=by omega
   subst hje
   obtain⟨⟨y0,yf0⟩,⟨y1,yf1⟩⟩:=And.intro (hys 0 (by omega)) (hys 1 (by omega))
   obtain⟨z0,hy0⟩:=Option.isSome_iff_exists.1 y0
   obtain⟨z1,hy1⟩:=Option.isSome_iff_exists.1 y1
   have lb_o:=lbc u1
   have HB:=Go.Lib.hid hB
   have HOW:=Go.Lib.hid ow
   clear hB ow hys y0 y1
   obtain⟨ua,uc,rfl⟩:=cs_form HOW.out
   go_wp2_with fail
   have hsub:∀ i ∈ Fs,i ∈ Js:=fun i hi=>by rw[HFS.out] at hi;exact List.mem_of_mem_take (List.mem_filter.1 hi).1
   have hmap:Fs.map (·.x)=cWithout (Js.map (·.x)) s.data.toList:=by
    rw[HFS.out,List.take_of_length_le (by rw[HN.out];exact Nat.le_refl _)]
    unfold cWithout
    rw[List.filter_map]
    rfl
   have hB2:=bl_set (bl_set HB.out (a:=⟨w.heap.size+1,0,none⟩) (by dsimp only;omega) (.int .i64 r)) (a:=⟨w.heap.size+1,1,none⟩) (by dsimp only;omega) (.slice ua Fs.length uc)
   have hR2:=row_set (a:=⟨w.heap.size+1,1,none⟩) (row_set (a:=⟨w.heap.size+1,0,none⟩) HOW.out (by dsimp only;omega) (.int .i64 r)) (by dsimp only;omega) (.slice ua Fs.length uc)
   refine bodyPost_ret (v:=.agg #[.int .i64 r,.slice ua Fs.length uc]) (results_t rfl _ _ rfl (by go_simp) (by go_simp)) rfl ⟨_,Fs,rfl,⟨row_base hR2 (by omega),fun i hi=>log_bl (HROW.out.2 i (hsub i hi)) hB2⟩,hmap,hsub,hB2⟩
end Go.Proofs.YtmhikkbdhboodaaGreat

namespace Go.Proofs.YtmhikkbdhboodaaGreat
open Go.RowKit Go.Maps
set_option linter.unusedVariables false
set_option linter.unusedSimpArgs false

variable {w w':World} {p p':CsP} {room nx nx':Nat} {m m':List (Int × Value)} {I A B:List CI}
theorem rsweep_any {base:Nat} {Js:List LC} (r:Int) (v:Value) (now:Int) (w:World) (h:CRow w base v Js) (hN:Js.length≤100000) :
  Calls Tryz.prog 73 #[TV r v,.int .i64 now] w fun e w'=>∃ (v':Value) (Fs:List LC),e=.returned (.tuple #[TV r v',.int .i64 ((Js.length:Int) - (Fs.length:Int))])∧CRow w' w.heap.size v' Fs∧Fs.map (·.x)=cKept (Js.map (·.x)) now∧(∀ i ∈ Fs,i ∈ Js)∧Below w.heap.size w w':=by
 obtain⟨ra,rc,rfl⟩:=cs_form h.1
 obtain⟨N,hNe⟩:∃ N,N=Js.length:=⟨_,rfl⟩
 unfold TV
 rw[← hNe] at hN ⊢
 have HROW:=Go.Lib.hid h
 have HN:=Go.Lib.hid hNe
 clear h hNe
 go_enter Tryz.func73,Tryz.ntmps73
 go_wp2_with fail
 have hB:=bl_alloc (bl_alloc (bl_alloc (bl_refl w) (.cells #[.int .i64 r,.slice ra N rc] 55)) (.cells #[.int .i64 0,.slice none 0 0] 55)) (.cells #[.int .i64 r,.slice none 0 0] 55)
 have hys0:∀ q,q<2→((((w.alloc (.cells #[.int .i64 r,.slice ra N rc] 55)).alloc (.cells #[.int .i64 0,.slice none 0 0] 55)).alloc (.cells #[.int .i64 r,.slice none 0 0] 55)).cell? ⟨w.heap.size+1,q,none⟩).isSome=true∧(((w.alloc (.cells #[.int .i64 r,.slice ra N rc] 55)).alloc (.cells #[.int .i64 0,.slice none 0 0] 55)).alloc (.cells #[.int .i64 r,.slice none 0 0] 55)).frozen? ⟨w.heap.size+1,q,none⟩=false:=fun q hq=>by
  have:q=0∨q=1:=by omega
  rcases this with rfl|rfl <;> exact⟨by go_simp,by go_simp⟩
 go_loopw [7] (fun s7 wr=>∃ (j:Nat) (Fs:List LC) (uv:Value),s7=.int .i64 j∧j≤N∧Fs=(Js.take j).filter (fun i:LC => !(cFresh now i.x))∧Hid (Below w.heap.size w wr∧wr.ownsRow (w.heap.size+3) 59 11 uv Fs.length (lcells Fs)∧w.heap.size+3≤wr.heap.size∧wr.cell? ⟨w.heap.size+2,1,none⟩=some uv∧wr.frozen? ⟨w.heap.size+2,1,none⟩=false∧wr.cell? ⟨w.heap.size+2,0,none⟩=some (.int .i64 r)∧(∀ q,q<2→(wr.cell? ⟨w.heap.size+1,q,none⟩).isSome=true∧wr.frozen? ⟨w.heap.size+1,q,none⟩=false)∧wr.cell? ⟨w.heap.size,1,none⟩=some (.slice ra N rc))) (fun s7 _=>N - (intOf s7).toNat)
 case atStart=>exact⟨0,[],.slice none 0 0,rfl,Nat.zero_le _,rfl,⟨hB,World.ownsRow_nil _ _ _ _,by simp,by go_simp,by go_simp,by go_simp,hys0,by go_simp⟩⟩
 case round =>
  clear hB
  obtain⟨j,Fs,uv,rfl,hj,hFs,H⟩:=hrel
  obtain⟨hB,ow,hbz,u1,uf,u0,hys,tb1⟩:=H.out
  clear H
  have HFS:=Go.Lib.hid hFs
  have hFl:Fs.length≤j:=by rw[hFs];refine Nat.le_trans (List.length_filter_le _ _) ?_;rw[List.length_take];omega
  clear hFs
  by_cases hjN:j<N
  ·obtain ⟨i,hij⟩:∃ i,Js[j]?=some i:=⟨Js[j]'(by rw[← HN.out];exact hjN),List.getElem?_eq_getElem _⟩
   have hlog:=(crow_bl HROW.out hB).2 i (List.mem_of_getElem? hij)
   obtain⟨g,cap,e,rc0,rc1,rc2,rc3,rc4,rc5,rc6,rc7,rc8,rc9,rc10⟩:=crow_at (crow_bl HROW.out hB) hij
   rw[← HN.out] at e
   injection e with e1 e2 e3
   subst e1 e3
   have k0:(0:Int)≤(j:Int):=by omega
   have k1:(j:Int)<(N:Int):=by omega
   have HIJ:=Go.Lib.hid hij
   clear hij
   skip
   have hfs2:=(split_nth HIJ.out).2
   have HT2:=Go.Lib.hid hfs2
   clear hfs2
   have hgw:g<w.heap.size:=by have:=(World.ownsRow.lt HROW.out.1 g rfl).2;exact this
   have hfr:=fun W hW=>rfresh_any i.x i.a i.n i.c now W hW
   obtain⟨R,hR⟩:∃ R,R=cFresh now i.x:=⟨_,rfl⟩
   rw[← hR] at hfr
   have HR:=Go.Lib.hid hR
   clear hR
   have HLC:Hid (lcell i=[.string (ktx i.x.key),.int .i64 i.x.pol.kind,.int .i64 i.x.pol.limit,.int .i64 i.x.pol.period,.int .i64 i.x.pol.burst,.int .i64 i.x.pol.cap,.bool i.x.pol.opn,.int .i64 i.x.st.at_,.int .i64 i.x.st.level,.int .i64 i.x.st.held,.slice i.a i.n i.c]):=Go.Lib.hid rfl
   obtain⟨⟨key,⟨k,l,d,b,cc,o⟩,⟨at_,level,held,LG⟩⟩,a,n,c⟩:=i
   unfold Cl.v at hfr
   dsimp only at *
   generalize ktx key=KY at *
   have HFR:=Go.Lib.hid hfr
   clear hfr
   have HLOG:=Go.Lib.hid hlog
   clear hlog
   go_wp2_with fail
   refine(HFR.out _ HLOG.out).mono ?_
   rintro e w4 ⟨rfl,hb⟩
   have hlt4:=hb.size
   replace hB:=bl_then hB hb
   replace ow:=row_bl ow hb
   replace uf:w4.frozen? ⟨w.heap.size+2,1,none⟩=false:=by rw[hb.frozen (p:=⟨w.heap.size+2,1,none⟩) (World.block_lt_of_cell? _ _ u1)];exact uf
   replace u1:=bl_cell hb u1
   replace u0:=bl_cell hb u0
   replace hys:∀ q,q<2→(w4.cell? ⟨w.heap.size+1,q,none⟩).isSome=true∧w4.frozen? ⟨w.heap.size+1,q,none⟩=false:=fun q hq=>by rw[hb.cell (p:=⟨w.heap.size+1,q,none⟩) (by dsimp only;omega),hb.frozen (p:=⟨w.heap.size+1,q,none⟩) (by dsimp only;omega)];exact hys q hq
   replace tb1:=bl_cell hb tb1
   replace hbz:w.heap.size+3≤w4.heap.size:=by omega
   replace rc0:=bl_cell hb rc0
   replace rc1:=bl_cell hb rc1
   replace rc2:=bl_cell hb rc2
   replace rc3:=bl_cell hb rc3
   replace rc4:=bl_cell hb rc4
   replace rc5:=bl_cell hb rc5
   replace rc6:=bl_cell hb rc6
   replace rc7:=bl_cell hb rc7
   replace rc8:=bl_cell hb rc8
   replace rc9:=bl_cell hb rc9
   replace rc10:=bl_cell hb rc10
   clear hb hlt4
   cases R with
   | true =>
    go_wp2_with fail
    go_roundw
    case rel=>exact⟨j+1,Fs,uv,by go_num,by omega,by rw[HT2.out,List.filter_append,← HFS.out];simp[HR.out.symm],⟨hB,ow,hbz,u1,uf,u0,hys,tb1⟩⟩
    case measure=>simp[intOf];omega
   | false =>
    go_wp2_with fail
    skip
    refine wp_region_held_drew (S:=fun X=>X.cell? ⟨w.heap.size,1,none⟩=some (.slice (some ⟨g,0,none⟩) N rc)∧X.cell? ⟨g,j*11,none⟩=some (.string KY)∧X.cell? ⟨g,j*11+1,none⟩=some (.int .i64 k)∧X.cell? ⟨g,j*11+2,none⟩=some (.int .i64 l)∧X.cell? ⟨g,j*11+3,none⟩=some (.int .i64 d)∧X.cell? ⟨g,j*11+4,none⟩=some (.int .i64 b)∧X.cell? ⟨g,j*11+5,none⟩=some (.int .i64 cc)∧X.cell? ⟨g,j*11+6,none⟩=some (.bool o)∧X.cell? ⟨g,j*11+7,none⟩=some (.int .i64 at_)∧X.cell? ⟨g,j*11+8,none⟩=some (.int .i64 level)∧X.cell? ⟨g,j*11+9,none⟩=some (.int .i64 held)∧X.cell? ⟨g,j*11+10,none⟩=some (.slice a n c)) (by kernel_rfl) ?_ (fun hHeld=>?_)
    ·exact⟨tb1,rc0,rc1,rc2,rc3,rc4,rc5,rc6,rc7,rc8,rc9,rc10⟩
    try simp only[Act.put,List.setIfInBounds_toArray,List.set_cons_zero,List.set_cons_succ]
    refine wpAnyH_abs (F:=fun X=>Below w.heap.size w X∧X.ownsRow (w.heap.size+3) 59 11 uv Fs.length (lcells Fs)∧(w.heap.size+3)≤X.heap.size∧X.cell? ⟨w.heap.size+2,1,none⟩=some uv∧X.frozen? ⟨w.heap.size+2,1,none⟩=false∧X.cell? ⟨w.heap.size+2,0,none⟩=some (.int .i64 r)∧(∀ q,q<2→(X.cell? ⟨w.heap.size+1,q,none⟩).isSome=true∧X.frozen? ⟨w.heap.size+1,q,none⟩=false)) hHeld ⟨bl_drew hB,ow,hbz,u1,uf,u0,hys⟩ ?_
    clear hHeld hB ow u1 uf u0 hys hbz tb1 rc0 rc1 rc2 rc3 rc4 rc5 rc6 rc7 rc8 rc9 rc10
    rintro X0 hHeld ⟨hB,ow,hbz,u1,uf,u0,hys⟩
    obtain⟨tb1,rc0,rc1,rc2,rc3,rc4,rc5,rc6,rc7,rc8,rc9,rc10⟩:=(id hHeld)
    obtain⟨i0,hi,hz0,hz1,hz2⟩:=info_parts infoC
    obtain⟨v5,w5,hrun,hown5,hgrow5,-⟩:=run_append_own (P:=Tryz.prog) (X0.alloc (.cells #[.string KY,.int .i64 k,.int .i64 l,.int .i64 d,.int .i64 b,.int .i64 cc,.bool o,.int .i64 at_,.int .i64 level,.int .i64 held,.slice a n c] 59)) ((w.heap.size+3)) 53 53 59 i0 _ 11 112 undC hi hz0 hz1 hz2 rfl (by decide) uv Fs.length _ (row_bl ow (bl_alloc (bl_refl X0) _)) ⟨X0.heap.size,0,none⟩ 1 1 (lcell ⟨⟨key,⟨k,l,d,b,cc,o⟩,⟨at_,level,held,LG⟩⟩,a,n,c⟩) rfl (fun q u hq=>new_cells _ _ (by rw[HLC.out] at hq;exact hq)) (lcell_one _) (by simp only[maxLen];omega) (by omega) (by simp;omega)
    obtain⟨a5,c5,rfl⟩:=cs_form hown5
    clear hi hz0 hz1 hz2
    have hg5:∀ q,q<(w.heap.size+3)→w5.heap[q]?=X0.heap[q]?:=fun q hq=>(hgrow5.block q (by rw[World.size_alloc];omega) (fun e=>by have:=(World.ownsRow.lt ow q e.symm).1;omega)).trans ((bl_alloc (bl_refl X0) (.cells #[.string KY,.int .i64 k,.int .i64 l,.int .i64 d,.int .i64 b,.int .i64 cc,.bool o,.int .i64 at_,.int .i64 level,.int .i64 held,.slice a n c] 59)).block q (by omega))
    have hg6:∀ (q o:Nat) (u:Value),q<(w.heap.size+3)→X0.cell? ⟨q,o,none⟩=some u→w5.cell? ⟨q,o,none⟩=some u:=fun q o u hq hu=>by rw[World.cell?_of_block (hg5 q hq)];exact hu
    have hg7:∀ (q o:Nat) (u:Value),q<w.heap.size→X0.cell? ⟨q,o,none⟩=some u→w5.cell? ⟨q,o,none⟩=some u:=fun q o u hq hu=>hg6 q o u (by omega) hu
    have hS5:(fun X=>X.cell? ⟨w.heap.size,1,none⟩=some (.slice (some ⟨g,0,none⟩) N rc)∧X.cell? ⟨g,j*11,none⟩=some (.string KY)∧X.cell? ⟨g,j*11+1,none⟩=some (.int .i64 k)∧X.cell? ⟨g,j*11+2,none⟩=some (.int .i64 l)∧X.cell? ⟨g,j*11+3,none⟩=some (.int .i64 d)∧X.cell? ⟨g,j*11+4,none⟩=some (.int .i64 b)∧X.cell? ⟨g,j*11+5,none⟩=some (.int .i64 cc)∧X.cell? ⟨g,j*11+6,none⟩=some (.bool o)∧X.cell? ⟨g,j*11+7,none⟩=some (.int .i64 at_)∧X.cell? ⟨g,j*11+8,none⟩=some (.int .i64 level)∧X.cell? ⟨g,j*11+9,none⟩=some (.int .i64 held)∧X.cell? ⟨g,j*11+10,none⟩=some (.slice a n c)) w5:=⟨hg6 _ _ _ (by omega) tb1,hg6 _ _ _ (by omega) rc0,hg6 _ _ _ (by omega) rc1,hg6 _ _ _ (by omega) rc2,hg6 _ _ _ (by omega) rc3,hg6 _ _ _ (by omega) rc4,hg6 _ _ _ (by omega) rc5,hg6 _ _ _ (by omega) rc6,hg6 _ _ _ (by omega) rc7,hg6 _ _ _ (by omega) rc8,hg6 _ _ _ (by omega) rc9,hg6 _ _ _ (by omega) rc10⟩
    have hB5:Below w.heap.size w w5:=(bl_alloc hB _).grown hgrow5 (by simp;have:=hB.size;omega) (fun q hq=>by have:=(World.ownsRow.lt ow q hq).1;omega)
    have u15:=hg6 _ _ _ (by omega) u1
    have uf5:w5.frozen? ⟨w.heap.size+2,1,none⟩=false:=by rw[World.frozen?_of_block (hg5 _ (by dsimp only;omega))];exact uf
    have u05:=hg6 _ _ _ (by omega) u0
    have hys5:∀ q,q<2→(w5.cell? ⟨w.heap.size+1,q,none⟩).isSome=true∧w5.frozen? ⟨w.heap.size+1,q,none⟩=false:=fun q hq=>by rw[World.cell?_of_block (hg5 _ (by dsimp only;omega)),World.frozen?_of_block (hg5 _ (by dsimp only;omega))];exact hys q hq
    have hbz5:(w.heap.size+3)≤w5.heap.size:=by have:=hgrow5.size;rw[World.size_alloc] at this;omega
    have HS5:=Go.Lib.hid hS5
    have HO5:=Go.Lib.hid hown5
    have HB5:=Go.Lib.hid hB5
    have HY5:=Go.Lib.hid hys5
    have HSA:Hid ((fun X=>X.cell? ⟨w.heap.size,1,none⟩=some (.slice (some ⟨g,0,none⟩) N rc)∧X.cell? ⟨g,j*11,none⟩=some (.string KY)∧X.cell? ⟨g,j*11+1,none⟩=some (.int .i64 k)∧X.cell? ⟨g,j*11+2,none⟩=some (.int .i64 l)∧X.cell? ⟨g,j*11+3,none⟩=some (.int .i64 d)∧X.cell? ⟨g,j*11+4,none⟩=some (.int .i64 b)∧X.cell? ⟨g,j*11+5,none⟩=some (.int .i64 cc)∧X.cell? ⟨g,j*11+6,none⟩=some (.bool o)∧X.cell? ⟨g,j*11+7,none⟩=some (.int .i64 at_)∧X.cell? ⟨g,j*11+8,none⟩=some (.int .i64 level)∧X.cell? ⟨g,j*11+9,none⟩=some (.int .i64 held)∧X.cell? ⟨g,j*11+10,none⟩=some (.slice a n c)) (X0.alloc (.cells #[.string KY,.int .i64 k,.int .i64 l,.int .i64 d,.int .i64 b,.int .i64 cc,.bool o,.int .i64 at_,.int .i64 level,.int .i64 held,.slice a n c] 59))):=Go.Lib.hid ⟨bl_cell (bl_alloc (bl_refl X0) _) tb1,bl_cell (bl_alloc (bl_refl X0) _) rc0,bl_cell (bl_alloc (bl_refl X0) _) rc1,bl_cell (bl_alloc (bl_refl X0) _) rc2,bl_cell (bl_alloc (bl_refl X0) _) rc3,bl_cell (bl_alloc (bl_refl X0) _) rc4,bl_cell (bl_alloc (bl_refl X0) _) rc5,bl_cell (bl_alloc (bl_refl X0) _) rc6,bl_cell (bl_alloc (bl_refl X0) _) rc7,bl_cell (bl_alloc (bl_refl X0) _) rc8,bl_cell (bl_alloc (bl_refl X0) _) rc9,bl_cell (bl_alloc (bl_refl X0) _) rc10⟩
    have lb_o:=lbc u1
    clear hS5 hown5 hB5 hys5 hg5 hg6 hg7 hgrow5 ow hys hB hbz u0 tb1 rc0 rc1 rc2 rc3 rc4 rc5 rc6 rc7 rc8 rc9 rc10
    refine tkx 0 ?_
    refine tkx 2 ?_
    refine tkx 3 ?_
    refine tkx 4 ?_
    refine tkx 5 ?_
    refine tkx 6 ?_
    refine callC2 (i:=1) (j:=7) rfl rfl ?_ ?_
    case' refine_1=>(intro K hK;(go_simp;refine hK.out _ _ (id hHeld) (fun hHeld2=>?_);clear hHeld hK K;have hHeld:=hHeld2;clear hHeld2;try simp only[Act.put,List.setIfInBounds_toArray,List.set_cons_zero,List.set_cons_succ]);refine callC (i:=7) rfl (fun K hK=>?_);(go_simp;refine hK.out _ _ HSA.out (fun hHeld2=>?_);clear hHeld hK K;have hHeld:=hHeld2;clear hHeld2;try simp only[Act.put,List.setIfInBounds_toArray,List.set_cons_zero,List.set_cons_succ]))
    case' refine_2=>(intro K hK;(go_simp;refine hK.out _ _ HSA.out (fun hHeld2=>?_);clear hHeld hK K;have hHeld:=hHeld2;clear hHeld2;try simp only[Act.put,List.setIfInBounds_toArray,List.set_cons_zero,List.set_cons_succ]);refine callC (i:=1) rfl (fun K hK=>?_);(go_simp;refine hK.out _ _ (id hHeld) (fun hHeld2=>?_);clear hHeld hK K;have hHeld:=hHeld2;clear hHeld2;try simp only[Act.put,List.setIfInBounds_toArray,List.set_cons_zero,List.set_cons_succ]))
    all_goals(refine callC (i:=8) rfl (fun K hK=>?_);refine app_wp (Operand.tmp 27) (Operand.tmp 33) (by kernel_rfl) rfl hrun ?_;refine hK.out _ _ HS5.out (fun hHeld2=>?_);clear hHeld hK K;have hHeld:=hHeld2;clear hHeld2;try simp only[Act.put,List.setIfInBounds_toArray,List.set_cons_zero,List.set_cons_succ])
    all_goals refine tkx 9 ?_
    all_goals(refine callC (i:=10) rfl (fun K hK=>?_);go_simp;refine hK.out _ _ ?_ (fun hHeld2=>?_);(focus(obtain⟨tb1,rc0,rc1,rc2,rc3,rc4,rc5,rc6,rc7,rc8,rc9,rc10⟩:=HS5.out;exact⟨far_set (a:=⟨w.heap.size+2,1,none⟩) tb1 _ (by dsimp only;omega),far_set (a:=⟨w.heap.size+2,1,none⟩) rc0 _ (by dsimp only;omega),far_set (a:=⟨w.heap.size+2,1,none⟩) rc1 _ (by dsimp only;omega),far_set (a:=⟨w.heap.size+2,1,none⟩) rc2 _ (by dsimp only;omega),far_set (a:=⟨w.heap.size+2,1,none⟩) rc3 _ (by dsimp only;omega),far_set (a:=⟨w.heap.size+2,1,none⟩) rc4 _ (by dsimp only;omega),far_set (a:=⟨w.heap.size+2,1,none⟩) rc5 _ (by dsimp only;omega),far_set (a:=⟨w.heap.size+2,1,none⟩) rc6 _ (by dsimp only;omega),far_set (a:=⟨w.heap.size+2,1,none⟩) rc7 _ (by dsimp only;omega),far_set (a:=⟨w.heap.size+2,1,none⟩) rc8 _ (by dsimp only;omega),far_set (a:=⟨w.heap.size+2,1,none⟩) rc9 _ (by dsimp only;omega),far_set (a:=⟨w.heap.size+2,1,none⟩) rc10 _ (by dsimp only;omega)⟩));clear hHeld hK K;have hHeld:=hHeld2;clear hHeld2;try simp only[Act.put,List.setIfInBounds_toArray,List.set_cons_zero,List.set_cons_succ])
    all_goals refine wpAnyH_done (by kernel_rfl) ?_ _
    all_goals clear hHeld
    all_goals refine inb_abs (F:=fun X=>Below w.heap.size w X∧X.ownsRow (w.heap.size+3) 59 11 (.slice a5 (Fs.length+1) c5) (Fs.length+1) (lcells Fs ++ lcell ⟨⟨key,⟨k,l,d,b,cc,o⟩,⟨at_,level,held,LG⟩⟩,a,n,c⟩)∧(w.heap.size+3)≤X.heap.size∧X.cell? ⟨w.heap.size+2,1,none⟩=some (.slice a5 (Fs.length+1) c5)∧X.frozen? ⟨w.heap.size+2,1,none⟩=false∧X.cell? ⟨w.heap.size+2,0,none⟩=some (.int .i64 r)∧(∀ q,q<2→(X.cell? ⟨w.heap.size+1,q,none⟩).isSome=true∧X.frozen? ⟨w.heap.size+1,q,none⟩=false)∧X.cell? ⟨w.heap.size,1,none⟩=some (.slice (some ⟨g,0,none⟩) N rc)) ⟨bl_set HB5.out (a:=⟨w.heap.size+2,1,none⟩) (by dsimp only;omega) (.slice a5 (Fs.length+1) c5),row_set (a:=⟨w.heap.size+2,1,none⟩) HO5.out (by dsimp only;omega) (.slice a5 (Fs.length+1) c5),by rw[World.size_setCell];exact hbz5,by go_simp,by rw[World.frozen?_setCell];exact uf5,set_other (a:=⟨w.heap.size+2,1,none⟩) u05 (.slice a5 (Fs.length+1) c5) (by simp),(fun q hq=>⟨isSome_set (HY5.out q hq).1,by rw[World.frozen?_setCell];exact(HY5.out q hq).2⟩),far_set (a:=⟨w.heap.size+2,1,none⟩) (HS5.out.1) (.slice a5 (Fs.length+1) c5) (by dsimp only;omega)⟩ ?_
    all_goals clear u15 uf5 u05 HS5 HO5 HB5 HY5 HSA hrun u1 uf lb_o hbz5
    all_goals rintro Y0 ⟨hB,ow,hbz,u1,uf,u0,hys,tb1⟩
    all_goals go_wp2_with fail
    all_goals go_roundw
    all_goals first|(refine⟨j+1,Fs ++ [⟨⟨key,⟨k,l,d,b,cc,o⟩,⟨at_,level,held,LG⟩⟩,a,n,c⟩],.slice a5 (Fs.length+1) c5,by go_num,by omega,?_,⟨hB,?_,hbz,u1,uf,u0,hys,tb1⟩⟩;(focus(rw[HT2.out,List.filter_append,HFS.out];congr 1;simp[HR.out.symm]));(rw[lcells_append,lcells_one,List.length_append];exact ow))|(simp[intOf];omega)
  ·have hje:j=N:=by omega
   subst hje
   obtain⟨⟨y0,yf0⟩,⟨y1,yf1⟩⟩:=And.intro (hys 0 (by omega)) (hys 1 (by omega))
   obtain⟨z0,hy0⟩:=Option.isSome_iff_exists.1 y0
   obtain⟨z1,hy1⟩:=Option.isSome_iff_exists.1 y1
   have lb_o:=lbc u1
   have HB:=Go.Lib.hid hB
   have HOW:=Go.Lib.hid ow
   clear hB ow hys y0 y1
   obtain⟨ua,uc,rfl⟩:=cs_form HOW.out
   go_wp2_with fail
   have hw:=IntWalk.i64_in ((j:Int) - (Fs.length:Int)) (by omega)
   refine wp_region_held_drew (S:=fun X=>X.cell? ⟨w.heap.size+2,0,none⟩=some (.int .i64 r)∧X.cell? ⟨w.heap.size+2,1,none⟩=some (.slice ua Fs.length uc)∧X.cell? ⟨w.heap.size,1,none⟩=some (.slice ra j rc)) (by kernel_rfl) ?_ (fun hHeld=>?_)
   ·exact⟨u0,u1,tb1⟩
   try simp only[Act.put,List.setIfInBounds_toArray,List.set_cons_zero,List.set_cons_succ]
   refine wpAnyH_abs (F:=fun X=>Below w.heap.size w X∧X.ownsRow (w.heap.size+3) 59 11 (.slice ua Fs.length uc) Fs.length (lcells Fs)∧X.cell? ⟨w.heap.size+1,0,none⟩=some z0∧X.cell? ⟨w.heap.size+1,1,none⟩=some z1∧X.frozen? ⟨w.heap.size+1,0,none⟩=false∧X.frozen? ⟨w.heap.size+1,1,none⟩=false) hHeld ⟨bl_drew HB.out,HOW.out,hy0,hy1,yf0,yf1⟩ ?_
   clear hHeld HB HOW hy0 hy1 yf0 yf1 u0 u1 tb1 uf
   rintro X0 hHeld ⟨hB,how,hy0,hy1,yf0,yf1⟩
   have HB:=Go.Lib.hid hB
   have HOW:=Go.Lib.hid how
   clear hB how
   refine tkx 0 ?_
   refine tkx 1 ?_
   refine tkx 2 ?_
   refine tkx 3 ?_
   refine tkx 4 ?_
   refine tkx 5 ?_
   refine tkx 6 ?_
   refine tkx 7 ?_
   refine callC (i:=8) rfl (fun K hK=>?_)
   obtain⟨u0,u1,tb1⟩:=(id hHeld)
   go_simp
   refine hK.out _ _ ?_ (fun hHeld2=>?_)
   ·exact⟨far_set (far_set u0 _ _ (by dsimp only;omega)) _ _ (by dsimp only;omega),far_set (far_set u1 _ _ (by dsimp only;omega)) _ _ (by dsimp only;omega),far_set (far_set tb1 _ _ (by dsimp only;omega)) _ _ (by dsimp only;omega)⟩
   clear hHeld hK K u0 u1 tb1
   have hHeld:=hHeld2
   clear hHeld2
   try simp only[Act.put,List.setIfInBounds_toArray,List.set_cons_zero,List.set_cons_succ]
   refine tkx 9 ?_
   refine wpAnyH_done (by kernel_rfl) ?_ _
   go_wp2_with fail
   have hsub:∀ i ∈ Fs,i ∈ Js:=fun i hi=>by rw[HFS.out] at hi;exact List.mem_of_mem_take (List.mem_filter.1 hi).1
   have hmap:Fs.map (·.x)=cKept (Js.map (·.x)) now:=by
    rw[HFS.out,List.take_of_length_le (by rw[HN.out];exact Nat.le_refl _)]
    unfold cKept
    rw[List.filter_map]
    rfl
   have hB2:=bl_set (bl_set HB.out (a:=⟨w.heap.size+1,0,none⟩) (by dsimp only;omega) (.int .i64 r)) (a:=⟨w.heap.size+1,1,none⟩) (by dsimp only;omega) (.slice ua Fs.length uc)
   have hR2:=row_set (a:=⟨w.heap.size+1,1,none⟩) (row_set (a:=⟨w.heap.size+1,0,none⟩) HOW.out (by dsimp only;omega) (.int .i64 r)) (by dsimp only;omega) (.slice ua Fs.length uc)
   refine bodyPost_ret (v:=_) (results_t2 (b:=w.heap.size+1) (v0:=.int .i64 r) (v1:=.slice ua Fs.length uc) rfl _ _ rfl ?q0 ?q1) rfl ⟨_,Fs,rfl,⟨row_base hR2 (by omega),fun i hi=>log_bl (HROW.out.2 i (hsub i hi)) hB2⟩,hmap,hsub,hB2⟩
   case q0=>go_simp
   case q1=>go_simp
end Go.Proofs.YtmhikkbdhboodaaGreat

namespace Go.Proofs.YtmhikkbdhboodaaGreat
open Go.RowKit Go.Maps
set_option linter.unusedVariables false
set_option linter.unusedSimpArgs false

variable {w w':World} {p p':CsP} {room nx nx':Nat} {m m':List (Int × Value)} {I A B:List CI}
theorem rlook_any {base:Nat} {Js:List LC} (r:Int) (v:Value) (s:ByteArray) (q:Pol) (now:Int) (w:World) (h:CRow w base v Js) (hN:Js.length≤100000) :
  Calls Tryz.prog 42 #[TV r v,.string s,q.v,.int .i64 now] w fun e w'=>∃ (a':Option Addr) (n' c':Nat),e=.returned ((cLook (Js.map (·.x)) s.data.toList q now).v a' n' c')∧LogAt w' a' n' c' (cLook (Js.map (·.x)) s.data.toList q now).log∧(∀ ad,a'=some ad→n'≠0→∃ i ∈ Js,i.a=some ad∧i.n≠0)∧Below w.heap.size w w':=by
 obtain⟨ra,rc,rfl⟩:=cs_form h.1
 obtain⟨N,hNe⟩:∃ N,N=Js.length:=⟨_,rfl⟩
 unfold TV
 rw[← hNe] at hN ⊢
 have HROW:=Go.Lib.hid h
 have HN:=Go.Lib.hid hNe
 clear h hNe
 have hnw:=fun W=>r8new_any q now W
 have heq:=fun(i:LC) W=>pol_eql i.x.pol q W
 have hnl:=newP_log q now
 obtain⟨LKS,hLK⟩:∃ z,z=cLook (Js.map (·.x)) s.data.toList q now:=⟨_,rfl⟩
 rw[← hLK]
 have HLK:=Go.Lib.hid hLK
 clear hLK
 obtain⟨f,hf⟩:∃ f:Cl→Bool,f=fun x=>x.key == s.data.toList && polE x.pol q:=⟨_,rfl⟩
 have HF:=Go.Lib.hid hf
 obtain⟨PE,hPE⟩:∃ PE:Pol→Bool,PE=fun p=>polE p q:=⟨_,rfl⟩
 have HPE:=Go.Lib.hid hPE
 have hPE2:∀ p,polE p q=PE p:=fun p=>by rw[hPE]
 simp only[hPE2] at heq
 clear hPE2
 obtain⟨NW,hNW⟩:∃ z,z=newP q now:=⟨_,rfl⟩
 rw[← hNW] at hnw hnl
 have HNW:=Go.Lib.hid hNW
 have HNL:=Go.Lib.hid hnl
 obtain⟨nat,nlev,nheld,nlog⟩:=NW
 obtain⟨k2,l2,d2,b2,cc2,o2⟩:=q
 unfold Pol.v St.v at *
 dsimp only at *
 have HEQ:=Go.Lib.hid heq
 clear hf hPE hNW hnl heq
 have HNWC:=Go.Lib.hid hnw
 clear hnw
 go_enter Tryz.func42,Tryz.ntmps42
 go_wp2_with fail
 skip
 refine wp_abs (S0:=fun X=>(fun w'=>w'.cell? ⟨w.heap.size,0,none⟩=some (.int .i64 r)∧w'.cell? ⟨w.heap.size,1,none⟩=some (.slice ra N rc)∧P6 w' (w.heap.size+1) k2 l2 d2 b2 cc2 o2 (S4 w' (w.heap.size+1+1) 0 0 0 none 0 0 (ResB w' (w.heap.size+1+1)∧Below w.heap.size w w'))) X∧w.heap.size+3≤X.heap.size) ⟨⟨by go_simp,by go_simp,by go_simp,by go_simp,by go_simp,by go_simp,by go_simp,by go_simp,by go_simp,by go_simp,by go_simp,by go_simp,res_new _ _ _ _ _ _ (by simp),bl_alloc (bl_alloc (bl_alloc (bl_refl _) _) _) _⟩,by simp⟩ ?_
 rintro w1 ⟨⟨tb0,tb1,pb0,pb1,pb2,pb3,pb4,pb5,rs0,rs1,rs2,rs3,rsR,hB⟩,hsz1⟩
 have lb_tb:=lbc tb0
 have lb_pb:=lbc pb0
 have lb_rs:=lbc rs0
 go_loopw [9] (fun s9 wr=>∃ j:Nat,s9=.int .i64 j∧j≤N∧(∀ i ∈ Js.take j,f i.x=false)∧Hid (Below w.heap.size w wr∧wr.cell? ⟨w.heap.size,1,none⟩=some (.slice ra N rc)∧P6 wr (w.heap.size+1) k2 l2 d2 b2 cc2 o2 (S4 wr (w.heap.size+1+1) 0 0 0 none 0 0 (ResB wr (w.heap.size+1+1))))) (fun s9 _=>N - (intOf s9).toNat)
 case atStart=>exact⟨0,rfl,Nat.zero_le _,(fun i hi=>by cases hi),⟨hB,tb1,pb0,pb1,pb2,pb3,pb4,pb5,rs0,rs1,rs2,rs3,rsR⟩⟩
 case round =>
  clear hB tb0 tb1 pb0 pb1 pb2 pb3 pb4 pb5 rs0 rs1 rs2 rs3 rsR
  obtain⟨j,rfl,hj,hno,H⟩:=hrel
  obtain⟨hB,tb1,pb0,pb1,pb2,pb3,pb4,pb5,rs0,rs1,rs2,rs3,rsR⟩:=H.out
  clear H
  have HNO:=Go.Lib.hid hno
  have lb_s:=lbc rs0
  clear hno
  by_cases hjN:j<N
  ·obtain ⟨i,hij⟩:∃ i,Js[j]?=some i:=⟨Js[j]'(by rw[← HN.out];exact hjN),List.getElem?_eq_getElem _⟩
   have hlog:=(crow_bl HROW.out hB).2 i (List.mem_of_getElem? hij)
   obtain⟨g,cap,e,rc0,rc1,rc2,rc3,rc4,rc5,rc6,rc7,rc8,rc9,rc10⟩:=crow_at (crow_bl HROW.out hB) hij
   rw[← HN.out] at e
   injection e with e1 e2 e3
   subst e1 e3
   have k0:(0:Int)≤(j:Int):=by omega
   have k1:(j:Int)<(N:Int):=by omega
   have HIJ:=Go.Lib.hid hij
   clear hij
   have heqi:=HEQ.out i
   have hkey:=ktx_eq i.x.key s
   have HFI:Hid (f i.x=(i.x.key == s.data.toList && PE i.x.pol)):=Go.Lib.hid (by rw[HF.out,HPE.out])
   obtain⟨P,hP⟩:∃ P,P=PE i.x.pol:=⟨_,rfl⟩
   rw[← hP] at heqi
   have HP:=Go.Lib.hid hP
   have HLOG:=Go.Lib.hid hlog
   clear hP hlog
   obtain⟨⟨key,⟨k,l,d,b,cc,o⟩,⟨at_,level,held,LG⟩⟩,a,n,c⟩:=i
   dsimp only at *
   have hgw:g<wr.heap.size:=by have h1:=World.block_lt_of_cell? _ _ rc0;exact h1
   have hcase:(key=s.data.toList∧P=true)∨(key=s.data.toList∧P=false)∨¬ key=s.data.toList:=by by_cases hh:key=s.data.toList <;> cases P <;> simp[hh]
   rcases hcase with⟨he,hp⟩|⟨he,hp⟩|he
   ·rw [decide_eq_true he] at hkey
    subst hp
    have HE:=Go.Lib.hid he
    clear he
    generalize ktx key=KY at *
    go_wp2_with fail
    refine wp_region_held_drew (S:=fun w'=>P6 w' (w.heap.size+1) k2 l2 d2 b2 cc2 o2 (S4 w' (w.heap.size+1+1) 0 0 0 none 0 0 (ResB w' (w.heap.size+1+1)∧w'.cell? ⟨w.heap.size,1,none⟩=some (.slice (some ⟨g,0,none⟩) N rc)∧w'.cell? ⟨g,j*11,none⟩=some (.string KY)∧w'.cell? ⟨g,j*11+1,none⟩=some (.int .i64 k)∧w'.cell? ⟨g,j*11+2,none⟩=some (.int .i64 l)∧w'.cell? ⟨g,j*11+3,none⟩=some (.int .i64 d)∧w'.cell? ⟨g,j*11+4,none⟩=some (.int .i64 b)∧w'.cell? ⟨g,j*11+5,none⟩=some (.int .i64 cc)∧w'.cell? ⟨g,j*11+6,none⟩=some (.bool o)∧w'.cell? ⟨g,j*11+7,none⟩=some (.int .i64 at_)∧w'.cell? ⟨g,j*11+8,none⟩=some (.int .i64 level)∧w'.cell? ⟨g,j*11+9,none⟩=some (.int .i64 held)∧w'.cell? ⟨g,j*11+10,none⟩=some (.slice a n c)∧Below w.heap.size w w'))) (by kernel_rfl) ?_ (fun hHeld=>?_)
    ·exact⟨pb0,pb1,pb2,pb3,pb4,pb5,rs0,rs1,rs2,rs3,rsR,tb1,rc0,rc1,rc2,rc3,rc4,rc5,rc6,rc7,rc8,rc9,rc10,bl_drew hB⟩
    try simp only[Act.put,List.setIfInBounds_toArray,List.set_cons_zero,List.set_cons_succ]
    refine tkx 0 ?_
    refine tkx 1 ?_
    refine tkx 2 ?_
    refine tkx 3 ?_
    refine tkx 4 ?_
    refine tkx 5 ?_
    refine tkx 6 ?_
    refine tkx 7 ?_
    refine tkx 8 ?_
    first|refine tqx 9 ?_|refine tkx 9 ?_
    first|refine tqx 10 ?_|refine tkx 10 ?_
    first|refine tqx 11 ?_|refine tkx 11 ?_
    first|refine tqx 12 ?_|refine tkx 12 ?_
    first|refine tqx 13 ?_|refine tkx 13 ?_
    first|refine tqx 14 ?_|refine tkx 14 ?_
    first|refine tqx 15 ?_|refine tkx 15 ?_
    first|refine tqx 16 ?_|refine tkx 16 ?_
    refine tkx 17 ?_
    refine wpAnyH_done (by kernel_rfl) ?_ _
    refine then_abs (F:=fun w'=>P6 w' (w.heap.size+1) k2 l2 d2 b2 cc2 o2 (S4 w' (w.heap.size+1+1) 0 0 0 none 0 0 (ResB w' (w.heap.size+1+1)∧w'.cell? ⟨w.heap.size,1,none⟩=some (.slice (some ⟨g,0,none⟩) N rc)∧w'.cell? ⟨g,j*11,none⟩=some (.string KY)∧w'.cell? ⟨g,j*11+1,none⟩=some (.int .i64 k)∧w'.cell? ⟨g,j*11+2,none⟩=some (.int .i64 l)∧w'.cell? ⟨g,j*11+3,none⟩=some (.int .i64 d)∧w'.cell? ⟨g,j*11+4,none⟩=some (.int .i64 b)∧w'.cell? ⟨g,j*11+5,none⟩=some (.int .i64 cc)∧w'.cell? ⟨g,j*11+6,none⟩=some (.bool o)∧w'.cell? ⟨g,j*11+7,none⟩=some (.int .i64 at_)∧w'.cell? ⟨g,j*11+8,none⟩=some (.int .i64 level)∧w'.cell? ⟨g,j*11+9,none⟩=some (.int .i64 held)∧w'.cell? ⟨g,j*11+10,none⟩=some (.slice a n c)∧Below w.heap.size w w'))) hHeld ?_
    clear hHeld hB pb0 pb1 pb2 pb3 pb4 pb5 rs0 rs1 rs2 rs3 rsR tb1 rc0 rc1 rc2 rc3 rc4 rc5 rc6 rc7 rc8 rc9 rc10
    rintro w21 ⟨pb0,pb1,pb2,pb3,pb4,pb5,rs0,rs1,rs2,rs3,rsR,tb1,rc0,rc1,rc2,rc3,rc4,rc5,rc6,rc7,rc8,rc9,rc10,hB⟩
    have lb_pb:=lbc pb0
    have lb_rs:=lbc rs0
    have lb_rc:=lbc rc0
    have lb_rc1:=lbc rc10
    have lb_s2:=lbc rs0
    obtain⟨fr0,fr1,fr2,fr3,-⟩:=res_all rsR
    go_wp2_with fail
    have hgn:g<w.heap.size:=by have:=(World.ownsRow.lt HROW.out.1 g rfl).2;exact this
    have hB2:=bl4 (b:=w.heap.size+1+1) (v0:=.int .i64 at_) (v1:=.int .i64 level) (v2:=.int .i64 held) (v3:=.slice a n c) hB (by omega)
    obtain⟨z0,z1,z2,z3⟩:=set4r (b:=w.heap.size+1+1) (v0:=.int .i64 at_) (v1:=.int .i64 level) (v2:=.int .i64 held) (v3:=.slice a n c) rsR
    have hlk:LKS=⟨at_,level,held,LG⟩:=by
     rw[HLK.out]
     unfold cLook
     have h1:=lfind (M:=Js.map (·.x)) (f:=f) (by rw[List.getElem?_map,HIJ.out];rfl) (map_take HNO.out) (by rw[HFI.out,← HP.out];simpa using HE.out)
     rw[HF.out] at h1
     rw[h1]
    subst hlk
    refine bodyPost_ret (v:=.agg #[.int .i64 at_,.int .i64 level,.int .i64 held,.slice a n c]) (results_state rfl _ _ rfl ⟨z0,z1,z2,z3⟩) rfl ⟨a,n,c,rfl,?_,?_,hB2⟩
    ·have h2:=log_bl (HROW.out.2 _ (List.mem_of_getElem? HIJ.out)) hB2
     exact h2
    ·exact fun ad e hn=>⟨_,List.mem_of_getElem? HIJ.out,e,hn⟩
   ·rw[decide_eq_true he] at hkey
    subst hp
    have HE:=Go.Lib.hid he
    clear he
    generalize ktx key=KY at *
    go_wp2_with fail
    refine wp_region_held_drew (S:=fun w'=>P6 w' (w.heap.size+1) k2 l2 d2 b2 cc2 o2 (S4 w' (w.heap.size+1+1) 0 0 0 none 0 0 (ResB w' (w.heap.size+1+1)∧w'.cell? ⟨w.heap.size,1,none⟩=some (.slice (some ⟨g,0,none⟩) N rc)∧w'.cell? ⟨g,j*11,none⟩=some (.string KY)∧w'.cell? ⟨g,j*11+1,none⟩=some (.int .i64 k)∧w'.cell? ⟨g,j*11+2,none⟩=some (.int .i64 l)∧w'.cell? ⟨g,j*11+3,none⟩=some (.int .i64 d)∧w'.cell? ⟨g,j*11+4,none⟩=some (.int .i64 b)∧w'.cell? ⟨g,j*11+5,none⟩=some (.int .i64 cc)∧w'.cell? ⟨g,j*11+6,none⟩=some (.bool o)∧w'.cell? ⟨g,j*11+7,none⟩=some (.int .i64 at_)∧w'.cell? ⟨g,j*11+8,none⟩=some (.int .i64 level)∧w'.cell? ⟨g,j*11+9,none⟩=some (.int .i64 held)∧w'.cell? ⟨g,j*11+10,none⟩=some (.slice a n c)∧Below w.heap.size w w'))) (by kernel_rfl) ?_ (fun hHeld=>?_)
    ·exact⟨pb0,pb1,pb2,pb3,pb4,pb5,rs0,rs1,rs2,rs3,rsR,tb1,rc0,rc1,rc2,rc3,rc4,rc5,rc6,rc7,rc8,rc9,rc10,bl_drew hB⟩
    try simp only[Act.put,List.setIfInBounds_toArray,List.set_cons_zero,List.set_cons_succ]
    refine tkx 0 ?_
    refine tkx 1 ?_
    refine tkx 2 ?_
    refine tkx 3 ?_
    refine tkx 4 ?_
    refine tkx 5 ?_
    refine tkx 6 ?_
    refine tkx 7 ?_
    refine tkx 8 ?_
    first|refine tqx 9 ?_|refine tkx 9 ?_
    first|refine tqx 10 ?_|refine tkx 10 ?_
    first|refine tqx 11 ?_|refine tkx 11 ?_
    first|refine tqx 12 ?_|refine tkx 12 ?_
    first|refine tqx 13 ?_|refine tkx 13 ?_
    first|refine tqx 14 ?_|refine tkx 14 ?_
    first|refine tqx 15 ?_|refine tkx 15 ?_
    first|refine tqx 16 ?_|refine tkx 16 ?_
    refine tkx 17 ?_
    refine wpAnyH_done (by kernel_rfl) ?_ _
    refine then_abs (F:=fun w'=>P6 w' (w.heap.size+1) k2 l2 d2 b2 cc2 o2 (S4 w' (w.heap.size+1+1) 0 0 0 none 0 0 (ResB w' (w.heap.size+1+1)∧w'.cell? ⟨w.heap.size,1,none⟩=some (.slice (some ⟨g,0,none⟩) N rc)∧w'.cell? ⟨g,j*11,none⟩=some (.string KY)∧w'.cell? ⟨g,j*11+1,none⟩=some (.int .i64 k)∧w'.cell? ⟨g,j*11+2,none⟩=some (.int .i64 l)∧w'.cell? ⟨g,j*11+3,none⟩=some (.int .i64 d)∧w'.cell? ⟨g,j*11+4,none⟩=some (.int .i64 b)∧w'.cell? ⟨g,j*11+5,none⟩=some (.int .i64 cc)∧w'.cell? ⟨g,j*11+6,none⟩=some (.bool o)∧w'.cell? ⟨g,j*11+7,none⟩=some (.int .i64 at_)∧w'.cell? ⟨g,j*11+8,none⟩=some (.int .i64 level)∧w'.cell? ⟨g,j*11+9,none⟩=some (.int .i64 held)∧w'.cell? ⟨g,j*11+10,none⟩=some (.slice a n c)∧Below w.heap.size w w'))) hHeld ?_
    clear hHeld hB pb0 pb1 pb2 pb3 pb4 pb5 rs0 rs1 rs2 rs3 rsR tb1 rc0 rc1 rc2 rc3 rc4 rc5 rc6 rc7 rc8 rc9 rc10
    rintro w22 ⟨pb0,pb1,pb2,pb3,pb4,pb5,rs0,rs1,rs2,rs3,rsR,tb1,rc0,rc1,rc2,rc3,rc4,rc5,rc6,rc7,rc8,rc9,rc10,hB⟩
    have lb_pb:=lbc pb0
    have lb_rs:=lbc rs0
    have lb_rc:=lbc rc0
    have lb_rc1:=lbc rc10
    go_wp2_with fail
    go_roundw
    case rel=>exact⟨j+1,by go_num,by omega,take_all (P:=fun i:LC=>f i.x=false) HNO.out HIJ.out (by rw[HFI.out,← HP.out];simp),⟨hB,tb1,pb0,pb1,pb2,pb3,pb4,pb5,rs0,rs1,rs2,rs3,rsR⟩⟩
    case measure=>simp[intOf];omega
   ·rw[decide_eq_false he] at hkey
    have HE:=Go.Lib.hid he
    clear he
    generalize ktx key=KY at *
    go_wp2_with fail
    refine wp_region_held_drew (S:=fun w'=>P6 w' (w.heap.size+1) k2 l2 d2 b2 cc2 o2 (S4 w' (w.heap.size+1+1) 0 0 0 none 0 0 (ResB w' (w.heap.size+1+1)∧w'.cell? ⟨w.heap.size,1,none⟩=some (.slice (some ⟨g,0,none⟩) N rc)∧w'.cell? ⟨g,j*11,none⟩=some (.string KY)∧w'.cell? ⟨g,j*11+1,none⟩=some (.int .i64 k)∧w'.cell? ⟨g,j*11+2,none⟩=some (.int .i64 l)∧w'.cell? ⟨g,j*11+3,none⟩=some (.int .i64 d)∧w'.cell? ⟨g,j*11+4,none⟩=some (.int .i64 b)∧w'.cell? ⟨g,j*11+5,none⟩=some (.int .i64 cc)∧w'.cell? ⟨g,j*11+6,none⟩=some (.bool o)∧w'.cell? ⟨g,j*11+7,none⟩=some (.int .i64 at_)∧w'.cell? ⟨g,j*11+8,none⟩=some (.int .i64 level)∧w'.cell? ⟨g,j*11+9,none⟩=some (.int .i64 held)∧w'.cell? ⟨g,j*11+10,none⟩=some (.slice a n c)∧Below w.heap.size w w'))) (by kernel_rfl) ?_ (fun hHeld=>?_)
    ·exact⟨pb0,pb1,pb2,pb3,pb4,pb5,rs0,rs1,rs2,rs3,rsR,tb1,rc0,rc1,rc2,rc3,rc4,rc5,rc6,rc7,rc8,rc9,rc10,bl_drew hB⟩
    try simp only[Act.put,List.setIfInBounds_toArray,List.set_cons_zero,List.set_cons_succ]
    refine tkx 0 ?_
    refine tkx 1 ?_
    refine tkx 2 ?_
    refine tkx 3 ?_
    refine tkx 4 ?_
    refine tkx 5 ?_
    refine tkx 6 ?_
    refine tkx 7 ?_
    refine tkx 8 ?_
    first|refine tqx 9 ?_|refine tkx 9 ?_
    first|refine tqx 10 ?_|refine tkx 10 ?_
    first|refine tqx 11 ?_|refine tkx 11 ?_
    first|refine tqx 12 ?_|refine tkx 12 ?_
    first|refine tqx 13 ?_|refine tkx 13 ?_
    first|refine tqx 14 ?_|refine tkx 14 ?_
    first|refine tqx 15 ?_|refine tkx 15 ?_
    first|refine tqx 16 ?_|refine tkx 16 ?_
    refine tkx 17 ?_
    refine wpAnyH_done (by kernel_rfl) ?_ _
    refine then_abs (F:=fun w'=>P6 w' (w.heap.size+1) k2 l2 d2 b2 cc2 o2 (S4 w' (w.heap.size+1+1) 0 0 0 none 0 0 (ResB w' (w.heap.size+1+1)∧w'.cell? ⟨w.heap.size,1,none⟩=some (.slice (some ⟨g,0,none⟩) N rc)∧w'.cell? ⟨g,j*11,none⟩=some (.string KY)∧w'.cell? ⟨g,j*11+1,none⟩=some (.int .i64 k)∧w'.cell? ⟨g,j*11+2,none⟩=some (.int .i64 l)∧w'.cell? ⟨g,j*11+3,none⟩=some (.int .i64 d)∧w'.cell? ⟨g,j*11+4,none⟩=some (.int .i64 b)∧w'.cell? ⟨g,j*11+5,none⟩=some (.int .i64 cc)∧w'.cell? ⟨g,j*11+6,none⟩=some (.bool o)∧w'.cell? ⟨g,j*11+7,none⟩=some (.int .i64 at_)∧w'.cell? ⟨g,j*11+8,none⟩=some (.int .i64 level)∧w'.cell? ⟨g,j*11+9,none⟩=some (.int .i64 held)∧w'.cell? ⟨g,j*11+10,none⟩=some (.slice a n c)∧Below w.heap.size w w'))) hHeld ?_
    clear hHeld hB pb0 pb1 pb2 pb3 pb4 pb5 rs0 rs1 rs2 rs3 rsR tb1 rc0 rc1 rc2 rc3 rc4 rc5 rc6 rc7 rc8 rc9 rc10
    rintro w23 ⟨pb0,pb1,pb2,pb3,pb4,pb5,rs0,rs1,rs2,rs3,rsR,tb1,rc0,rc1,rc2,rc3,rc4,rc5,rc6,rc7,rc8,rc9,rc10,hB⟩
    have lb_pb:=lbc pb0
    have lb_rs:=lbc rs0
    have lb_rc:=lbc rc0
    have lb_rc1:=lbc rc10
    go_wp2_with fail
    go_roundw
    case rel=>exact⟨j+1,by go_num,by omega,take_all (P:=fun i:LC=>f i.x=false) HNO.out HIJ.out (by rw[HFI.out,← HP.out];simp[HE.out]),⟨hB,tb1,pb0,pb1,pb2,pb3,pb4,pb5,rs0,rs1,rs2,rs3,rsR⟩⟩
    case measure=>simp[intOf];omega
  ·have hje:j=N:=by omega
   subst hje
   go_wp2_with fail
   refine(HNWC.out _).mono ?_
   rintro e w9 ⟨rfl,hb⟩
   replace rsR:=res_bl rsR hb
   replace rs0:=bl_cell hb rs0
   replace rs1:=bl_cell hb rs1
   replace rs2:=bl_cell hb rs2
   replace rs3:=bl_cell hb rs3
   replace hB:=bl_then hB hb
   clear hb
   obtain⟨fr0,fr1,fr2,fr3,-⟩:=res_all rsR
   have lb_s2:=lbc rs0
   go_wp2_with fail
   have hB2:=bl4 (b:=w.heap.size+1+1) (v0:=.int .i64 nat) (v1:=.int .i64 nlev) (v2:=.int .i64 nheld) (v3:=.slice none 0 0) hB (by omega)
   obtain⟨z0,z1,z2,z3⟩:=set4r (b:=w.heap.size+1+1) (v0:=.int .i64 nat) (v1:=.int .i64 nlev) (v2:=.int .i64 nheld) (v3:=.slice none 0 0) rsR
   have hlk:LKS=⟨nat,nlev,nheld,nlog⟩:=by
    rw[HLK.out,HNW.out]
    unfold cLook
    have h1:=lfind_none (M:=Js.map (·.x)) (f:=f) (take_whole (P:=fun x=>f x=false) HN.out HNO.out)
    rw[HF.out] at h1
    rw[h1]
   subst hlk
   refine bodyPost_ret (v:=.agg #[.int .i64 nat,.int .i64 nlev,.int .i64 nheld,.slice none 0 0]) (results_state rfl _ _ rfl ⟨z0,z1,z2,z3⟩) rfl ⟨none,0,0,rfl,by rw[HNL.out];exact log_nil _ _ _ (by omega),(fun ad e hn=>by cases e),hB2⟩
end Go.Proofs.YtmhikkbdhboodaaGreat

namespace Go.Proofs.YtmhikkbdhboodaaGreat
open Go.RowKit Go.Maps
set_option linter.unusedVariables false
set_option linter.unusedSimpArgs false

variable {w w':World} {p p':CsP} {room nx nx':Nat} {m m':List (Int × Value)} {I A B:List CI}
theorem calls_abs {P:Program} {f:FuncId} {args:Array Value} {R:Ending→World→Prop} {w:World} {S0:World→Prop} (h:S0 w) (k:∀ W,S0 W→Calls P f args W R):Calls P f args w R:=k w h
/-- Cells that may be written. -/
def FB (w:World) (b n:Nat):Prop:=∀ q,q<n→(w.cell? ⟨b,q,none⟩).isSome=true∧w.frozen? ⟨b,q,none⟩=false
theorem fb_bl {b n:Nat} (h:FB w b n) (hb:Below w.heap.size w w'):FB w' b n:=fun q hq=>by
 obtain⟨u,hu⟩:=Option.isSome_iff_exists.1 (h q hq).1
 have hlt:=World.block_lt_of_cell? w _ hu
 exact⟨by rw[hb.cell (p:=⟨b,q,none⟩) hlt];exact(h q hq).1,by rw[hb.frozen (p:=⟨b,q,none⟩) hlt];exact(h q hq).2⟩
theorem fb_new (cs:Array Value) (ty:TypeId) {b:Nat} (hb:b=w.heap.size):FB (w.alloc (.cells cs ty)) b cs.size:=fun q hq=>by
 subst hb
 have e:=World.alloc_heap_new w (.cells cs ty)
 simp only[World.cell?,World.frozen?,e]
 simp[hq]
theorem fb_set {b n:Nat} (h:FB w b n) (a:Addr) (u:Value):FB (w.setCell a u) b n:=fun q hq=>⟨isSome_set (h q hq).1,by rw[World.frozen?_setCell];exact(h q hq).2⟩
theorem crow_set {base:Nat} {v:Value} {Js:List LC} (h:CRow w base v Js) {a:Addr} (ha:a.block<base) (hl:∀ i ∈ Js,∀ ad,i.a=some ad→i.n≠0→ad.block≠a.block) (u:Value):CRow (w.setCell a u) base v Js :=
 ⟨row_set h.1 ha u,fun i hi=>log_only (h.2 i hi) (Only.set (F:=fun q=>q=a.block) (Only.of_below (bl_refl w)) rfl u) fun ad e hn hq=>hl i hi ad e hn hq⟩
/-- A row that is the old one, or new. -/
def OldB (w:World) (v v':Value):Prop:=∀ k,v'.ownBlock=some k→v.ownBlock=some k∨w.heap.size≤k
/-- What Set leaves: a row whose cells are of the old ones, or the new one. -/
def RsetP (w:World) (v:Value) (room:Nat) (Js:List LC) (y:LC) (now:Int) (e:Ending) (w':World):Prop :=
 ∃ (v':Value) (Fs:List LC),e=.returned (.tuple #[TV room v',.int .i64 (cSet room (Js.map (·.x)) y.x now).2])∧CRow w' 0 v' Fs∧OldB w v v'∧Fs.map (·.x)=(cSet room (Js.map (·.x)) y.x now).1∧(∀ i ∈ Fs,i ∈ Js∨i=y)∧Below w.heap.size w w'
theorem rset_arg {Js:List LC} (room:Nat) (v:Value) (x:Cl) (a:Option Addr) (n c:Nat) (now:Int) (w:World) (h:CRow w 0 v Js) (hl:LogAt w a n c x.st.log) (hN:Js.length≤10000) (hr:rightP x.pol x.st=false) :
  Calls Tryz.prog 74 #[TV room v,x.v a n c,.int .i64 now] w (RsetP w v room Js ⟨x,a,n,c⟩ now):=by
 obtain⟨ra,rc,rfl⟩:=cs_form h.1
 obtain⟨N,hNe⟩:∃ N,N=Js.length:=⟨_,rfl⟩
 have hN':=hN
 have hrt:=fun W hW=>r8right_any x.pol x.st a n c W hW
 rw[hr] at hrt
 have hpu:cSet room (Js.map (·.x)) x now=(Js.map (·.x),2):=by unfold cSet;rw[if_pos hr]
 have hkl:=ktx_list x.key
 unfold RsetP TV
 rw[← hNe] at hN ⊢
 obtain⟨key,⟨k,l,d,b,cc,o⟩,⟨at_,level,held,LG⟩⟩:=x
 unfold Cl.v at *
 unfold Pol.v St.v at *
 dsimp only at *
 generalize hKT:ktx key=KY at *
 have HKT:=Go.Lib.hid hKT
 clear hKT
 have HKL:=Go.Lib.hid hkl
 have HROW:=Go.Lib.hid (show CRow w 0 (.slice ra N rc) Js by rw[hNe];exact h)
 have HN:=Go.Lib.hid hNe
 have HLG:=Go.Lib.hid hl
 have HPU:=Go.Lib.hid hpu
 clear h hl hNe hr hkl hpu
 have HRT:=Go.Lib.hid hrt
 clear hrt
 go_enter Tryz.func74,Tryz.ntmps74
 go_wp2_with fail
 skip
 refine calls_abs (S0:=fun X=>(fun w'=>w'.cell? ⟨w.heap.size,0,none⟩=some (.int .i64 (room:Int))∧w'.cell? ⟨w.heap.size,1,none⟩=some (.slice ra N rc)∧FB w' (w.heap.size) 2∧w'.cell? ⟨w.heap.size+1,0,none⟩=some (.string KY)∧w'.cell? ⟨w.heap.size+1,1,none⟩=some (.int .i64 k)∧w'.cell? ⟨w.heap.size+1,2,none⟩=some (.int .i64 l)∧w'.cell? ⟨w.heap.size+1,3,none⟩=some (.int .i64 d)∧w'.cell? ⟨w.heap.size+1,4,none⟩=some (.int .i64 b)∧w'.cell? ⟨w.heap.size+1,5,none⟩=some (.int .i64 cc)∧w'.cell? ⟨w.heap.size+1,6,none⟩=some (.bool o)∧w'.cell? ⟨w.heap.size+1,7,none⟩=some (.int .i64 at_)∧w'.cell? ⟨w.heap.size+1,8,none⟩=some (.int .i64 level)∧w'.cell? ⟨w.heap.size+1,9,none⟩=some (.int .i64 held)∧w'.cell? ⟨w.heap.size+1,10,none⟩=some (.slice a n c)∧w'.cell? ⟨w.heap.size+1+1,0,none⟩=some (.int .i64 0)∧w'.cell? ⟨w.heap.size+1+1,1,none⟩=some (.slice none 0 0)∧FB w' (w.heap.size+1+1) 2∧Below w.heap.size w w') X∧w.heap.size+3≤X.heap.size) ⟨⟨by go_simp,by go_simp,fb_bl (fb_bl (fb_new #[.int .i64 (room:Int),.slice ra N rc] _ (by simp)) k1) k1,by go_simp,by go_simp,by go_simp,by go_simp,by go_simp,by go_simp,by go_simp,by go_simp,by go_simp,by go_simp,by go_simp,by go_simp,by go_simp,fb_new #[.int .i64 0,.slice none 0 0] _ (by simp),k3⟩,by simp⟩ ?_
 rintro w1 ⟨⟨tb0,tb1,tbR,xb0,xb1,xb2,xb3,xb4,xb5,xb6,xb7,xb8,xb9,xb10,rs0,rs1,rsR,hB⟩,hsz1⟩
 have lb_tb:=lbc tb0
 have lb_xb:=lbc xb0
 have lb_xb1:=lbc xb10
 have lb_rs:=lbc rs0
 refine(HRT.out _ (log_bl HLG.out hB)).mono ?_
 rintro e w2 ⟨rfl,hb⟩
 have hsz2:w1.heap.size+0≤w2.heap.size:=szl hb
 replace tb0:=bl_cell hb tb0
 replace tb1:=bl_cell hb tb1
 replace tbR:=fb_bl tbR hb
 replace xb0:=bl_cell hb xb0
 replace xb1:=bl_cell hb xb1
 replace xb2:=bl_cell hb xb2
 replace xb3:=bl_cell hb xb3
 replace xb4:=bl_cell hb xb4
 replace xb5:=bl_cell hb xb5
 replace xb6:=bl_cell hb xb6
 replace xb7:=bl_cell hb xb7
 replace xb8:=bl_cell hb xb8
 replace xb9:=bl_cell hb xb9
 replace xb10:=bl_cell hb xb10
 replace rs0:=bl_cell hb rs0
 replace rs1:=bl_cell hb rs1
 replace rsR:=fb_bl rsR hb
 replace hB:Below w.heap.size w w2:=bl_then hB hb
 replace lb_tb:=lbc tb0
 replace lb_xb:=lbc xb0
 replace lb_xb1:=lbc xb10
 replace lb_rs:=lbc rs0
 clear hb
 obtain⟨⟨y0,yf0⟩,⟨y1,yf1⟩⟩:=And.intro (rsR 0 (by omega)) (rsR 1 (by omega))
 go_wp2_with fail
 have hB2:=bl_set (bl_set hB (a:=⟨w.heap.size+2,0,none⟩) (by dsimp only;omega) (.int .i64 (room:Int))) (a:=⟨w.heap.size+2,1,none⟩) (by dsimp only;omega) (.slice ra N rc)
 have hres:=fun(tm:Array Value) (W:World) (hx:tm.getD 6 undef=.pointer (some ⟨w.heap.size+2,0,none⟩)) i0 i1=>results_t2 (v0:=.int .i64 (room:Int)) (v1:=.slice ra N rc) (fn:=Tryz.f74) rfl tm W hx i0 i1
 refine bodyPost_ret (hres _ _ rfl ?q0 ?q1) rfl ?_
 case q0=>go_simp
 case q1=>go_simp
 rw[HPU.out]
 exact⟨_,Js,rfl,crow_bl HROW.out hB2,(fun k hk => .inl hk),rfl,fun i hi => .inl hi,hB2⟩
theorem rset_fresh {Js:List LC} (room:Nat) (v:Value) (x:Cl) (a:Option Addr) (n c:Nat) (now:Int) (w:World) (h:CRow w 0 v Js) (hl:LogAt w a n c x.st.log) (hN:Js.length≤10000) (hr:rightP x.pol x.st=true) (hf:cFresh now x=true) :
  Calls Tryz.prog 74 #[TV room v,x.v a n c,.int .i64 now] w (RsetP w v room Js ⟨x,a,n,c⟩ now):=by
 obtain⟨ra,rc,rfl⟩:=cs_form h.1
 obtain⟨N,hNe⟩:∃ N,N=Js.length:=⟨_,rfl⟩
 have hN':=hN
 have hrt:=fun W hW=>r8right_any x.pol x.st a n c W hW
 rw[hr] at hrt
 have hfr:=fun W hW=>rfresh_any x a n c now W hW
 rw[hf] at hfr
 have hpu:cSet room (Js.map (·.x)) x now=(cWithout (Js.map (·.x)) x.key,0):=by unfold cSet;rw[if_neg (by simp[hr]),if_pos hf]
 have hkl:=ktx_list x.key
 unfold RsetP TV
 rw[← hNe] at hN ⊢
 obtain⟨key,⟨k,l,d,b,cc,o⟩,⟨at_,level,held,LG⟩⟩:=x
 unfold Cl.v at *
 unfold Pol.v St.v at *
 dsimp only at *
 generalize hKT:ktx key=KY at *
 have HKT:=Go.Lib.hid hKT
 clear hKT
 have HKL:=Go.Lib.hid hkl
 have HROW:=Go.Lib.hid (show CRow w 0 (.slice ra N rc) Js by rw[hNe];exact h)
 have HN:=Go.Lib.hid hNe
 have HLG:=Go.Lib.hid hl
 have HPU:=Go.Lib.hid hpu
 clear h hl hNe hr hkl hf hpu
 have HRT:=Go.Lib.hid hrt
 have HFR:=Go.Lib.hid hfr
 clear hrt hfr
 go_enter Tryz.func74,Tryz.ntmps74
 go_wp2_with fail
 skip
 refine calls_abs (S0:=fun X=>(fun w'=>w'.cell? ⟨w.heap.size,0,none⟩=some (.int .i64 (room:Int))∧w'.cell? ⟨w.heap.size,1,none⟩=some (.slice ra N rc)∧FB w' (w.heap.size) 2∧w'.cell? ⟨w.heap.size+1,0,none⟩=some (.string KY)∧w'.cell? ⟨w.heap.size+1,1,none⟩=some (.int .i64 k)∧w'.cell? ⟨w.heap.size+1,2,none⟩=some (.int .i64 l)∧w'.cell? ⟨w.heap.size+1,3,none⟩=some (.int .i64 d)∧w'.cell? ⟨w.heap.size+1,4,none⟩=some (.int .i64 b)∧w'.cell? ⟨w.heap.size+1,5,none⟩=some (.int .i64 cc)∧w'.cell? ⟨w.heap.size+1,6,none⟩=some (.bool o)∧w'.cell? ⟨w.heap.size+1,7,none⟩=some (.int .i64 at_)∧w'.cell? ⟨w.heap.size+1,8,none⟩=some (.int .i64 level)∧w'.cell? ⟨w.heap.size+1,9,none⟩=some (.int .i64 held)∧w'.cell? ⟨w.heap.size+1,10,none⟩=some (.slice a n c)∧w'.cell? ⟨w.heap.size+1+1,0,none⟩=some (.int .i64 0)∧w'.cell? ⟨w.heap.size+1+1,1,none⟩=some (.slice none 0 0)∧FB w' (w.heap.size+1+1) 2∧Below w.heap.size w w') X∧w.heap.size+3≤X.heap.size) ⟨⟨by go_simp,by go_simp,fb_bl (fb_bl (fb_new #[.int .i64 (room:Int),.slice ra N rc] _ (by simp)) k1) k1,by go_simp,by go_simp,by go_simp,by go_simp,by go_simp,by go_simp,by go_simp,by go_simp,by go_simp,by go_simp,by go_simp,by go_simp,by go_simp,fb_new #[.int .i64 0,.slice none 0 0] _ (by simp),k3⟩,by simp⟩ ?_
 rintro w1 ⟨⟨tb0,tb1,tbR,xb0,xb1,xb2,xb3,xb4,xb5,xb6,xb7,xb8,xb9,xb10,rs0,rs1,rsR,hB⟩,hsz1⟩
 have lb_tb:=lbc tb0
 have lb_xb:=lbc xb0
 have lb_xb1:=lbc xb10
 have lb_rs:=lbc rs0
 refine(HRT.out _ (log_bl HLG.out hB)).mono ?_
 rintro e w2 ⟨rfl,hb⟩
 have hsz2:w1.heap.size+0≤w2.heap.size:=szl hb
 replace tb0:=bl_cell hb tb0
 replace tb1:=bl_cell hb tb1
 replace tbR:=fb_bl tbR hb
 replace xb0:=bl_cell hb xb0
 replace xb1:=bl_cell hb xb1
 replace xb2:=bl_cell hb xb2
 replace xb3:=bl_cell hb xb3
 replace xb4:=bl_cell hb xb4
 replace xb5:=bl_cell hb xb5
 replace xb6:=bl_cell hb xb6
 replace xb7:=bl_cell hb xb7
 replace xb8:=bl_cell hb xb8
 replace xb9:=bl_cell hb xb9
 replace xb10:=bl_cell hb xb10
 replace rs0:=bl_cell hb rs0
 replace rs1:=bl_cell hb rs1
 replace rsR:=fb_bl rsR hb
 replace hB:Below w.heap.size w w2:=bl_then hB hb
 replace lb_tb:=lbc tb0
 replace lb_xb:=lbc xb0
 replace lb_xb1:=lbc xb10
 replace lb_rs:=lbc rs0
 clear hb
 go_wp2_with fail
 refine(HFR.out _ (log_bl HLG.out hB)).mono ?_
 rintro e w3 ⟨rfl,hb⟩
 have hsz3:w2.heap.size+0≤w3.heap.size:=szl hb
 replace tb0:=bl_cell hb tb0
 replace tb1:=bl_cell hb tb1
 replace tbR:=fb_bl tbR hb
 replace xb0:=bl_cell hb xb0
 replace xb1:=bl_cell hb xb1
 replace xb2:=bl_cell hb xb2
 replace xb3:=bl_cell hb xb3
 replace xb4:=bl_cell hb xb4
 replace xb5:=bl_cell hb xb5
 replace xb6:=bl_cell hb xb6
 replace xb7:=bl_cell hb xb7
 replace xb8:=bl_cell hb xb8
 replace xb9:=bl_cell hb xb9
 replace xb10:=bl_cell hb xb10
 replace rs0:=bl_cell hb rs0
 replace rs1:=bl_cell hb rs1
 replace rsR:=fb_bl rsR hb
 replace hB:Below w.heap.size w w3:=bl_then hB hb
 replace lb_tb:=lbc tb0
 replace lb_xb:=lbc xb0
 replace lb_xb1:=lbc xb10
 replace lb_rs:=lbc rs0
 clear hb
 go_wp2_with fail
 refine(rwithout_any (Js:=Js) (base:=0) (room:Int) (.slice ra N rc) KY _ (crow_bl HROW.out hB) (by omega)).mono ?_
 rintro e w8 ⟨v8,Fs,rfl,hrow8,hmap8,hsub8,hb8⟩
 unfold TV
 obtain⟨a8,c8,rfl⟩:=cs_form hrow8.1
 have rs8:=fb_bl rsR hb8
 replace rs0:=bl_cell hb8 rs0
 replace rs1:=bl_cell hb8 rs1
 have hB8:=bl_then hB hb8
 have hsz8:=hb8.size
 have lbx:=World.block_lt_of_cell? _ _ rs0
 dsimp only at lbx
 have HR8:=Go.Lib.hid hrow8
 have HB8:=Go.Lib.hid hB8
 have HM8:=Go.Lib.hid hmap8
 have HS8:=Go.Lib.hid hsub8
 clear hrow8 hmap8 hsub8 hb8 hB8 hB
 obtain⟨⟨y0,yf0⟩,⟨y1,yf1⟩⟩:=And.intro (rs8 0 (by omega)) (rs8 1 (by omega))
 go_wp2_with fail
 have hB:=HB8.out
 have hB2:=bl_set (bl_set hB (a:=⟨w.heap.size+2,0,none⟩) (by dsimp only;omega) (.int .i64 (room:Int))) (a:=⟨w.heap.size+2,1,none⟩) (by dsimp only;omega) (.slice a8 Fs.length c8)
 have hlf:∀ i ∈ Fs,∀ ad,i.a=some ad→i.n≠0→ad.block≠w.heap.size+2:=fun i hi ad e hn=>by have:=clog_lt (HROW.out.2 i (HS8.out i hi)) ad e hn;omega
 have HCR:=Go.Lib.hid (crow_base (crow_set (a:=⟨w.heap.size+2,1,none⟩) (crow_set (a:=⟨w.heap.size+2,0,none⟩) HR8.out (by dsimp only;omega) hlf (.int .i64 (room:Int))) (by dsimp only;omega) hlf (.slice a8 Fs.length c8)) (Nat.zero_le _))
 have hres:=fun(tm:Array Value) (W:World) (hx:tm.getD 6 undef=.pointer (some ⟨w.heap.size+2,0,none⟩)) i0 i1=>results_t2 (v0:=.int .i64 (room:Int)) (v1:=.slice a8 Fs.length c8) (fn:=Tryz.f74) rfl tm W hx i0 i1
 refine bodyPost_ret (hres _ _ rfl ?q0 ?q1) rfl ?_
 case q0=>go_simp
 case q1=>go_simp
 rw[HPU.out]
 exact⟨_,Fs,rfl,HCR.out,(fun k hk => .inr (by have:=(World.ownsRow.lt HR8.out.1 k hk).1;omega)),by rw[HM8.out,HKL.out],fun i hi => .inl (HS8.out i hi),hB2⟩
end Go.Proofs.YtmhikkbdhboodaaGreat

namespace Go.Proofs.YtmhikkbdhboodaaGreat
open Go.RowKit Go.Maps
set_option linter.unusedVariables false
set_option linter.unusedSimpArgs false

variable {w w':World} {p p':CsP} {room nx nx':Nat} {m m':List (Int × Value)} {I A B:List CI}
/-- Something that is done: 1 set, 2 swept, 3 taken; its cell's log. -/
structure CD where
 kind:Int
 x:Cl
 a:Option Addr
 n:Nat
 c:Nat
 now:Int
 cost:Int
def CD.v (d:CD):Value:=.agg #[.int .i64 d.kind,.string (ktx d.x.key),.int .i64 d.x.pol.kind,.int .i64 d.x.pol.limit,.int .i64 d.x.pol.period,.int .i64 d.x.pol.burst,.int .i64 d.x.pol.cap,.bool d.x.pol.opn,.int .i64 d.x.st.at_,.int .i64 d.x.st.level,.int .i64 d.x.st.held,.slice d.a d.n d.c,.int .i64 d.now,.int .i64 d.cost]
/-- The cell that is set. -/
def cOf (L:List Cl) (d:CD):Cl:=if d.kind=3 then⟨d.x.key,d.x.pol,(doP d.x.pol (cLook L d.x.key d.x.pol d.now) ⟨1,d.now,d.cost⟩).1⟩ else d.x
theorem cOf_key (L:List Cl) (d:CD):(cOf L d).key=d.x.key:=by unfold cOf;split <;> rfl
def cStep (room:Nat) (L:List Cl) (d:CD):List Cl × Int:=if d.kind=2 then cSweep L d.now else cSet room L (cOf L d) d.now
/-- Where a cell's log comes from: the element's, a row's, or new. -/
def OfSrc (w:World) (d:CD) (Js:List LC) (a:Option Addr) (n:Nat):Prop:=∀ ad,a=some ad→n≠0→(d.a=some ad∧d.n≠0)∨(∃ i ∈ Js,i.a=some ad∧i.n≠0)∨w.heap.size≤ad.block
theorem build_cell (s:ByteArray) (v1 v2 v3 v4 v5 v6 v7 v8 v9 v10:Value) (w:World):(Instr.build 59 #[(0,.string s),(1,.agg #[v1,v2,v3,v4,v5,v6]),(2,.agg #[v7,v8,v9,v10])]).run Tryz.prog w=.ok (.agg #[.string s,v1,v2,v3,v4,v5,v6,v7,v8,v9,v10]) w:=by kernel_rfl
theorem wpList_store {P:Program} {ops:Array Oper} {rest:List Oper} {o:Oper} {a:Act} {Q:Exit→Act→World→Prop} {w w':World} (hg:o.guard=none) (t:TypeId) (x y:Operand) (hop:o.op=.store t x y) (hst:(Instr.storeAt t (a.eval x) (a.eval y)).run P w=.ok () w')
  (h:wpList P ops Q rest (a.put o.dst undef) w'):wpList P ops Q (o :: rest) a w:=by
 refine wpList_plain hg fun K hK=>?_
 unfold Oper.wp
 simp[execOp,hop,hst,Result.andThen]
 exact hK _ _ h
theorem bl_then2 {F:Nat→Prop} {B:Nat} {a b c:World} (h:Below B a b) (k:Only F b c) (hF:∀ q,F q→B≤q) (hB:B≤a.heap.size:=by omega):Below B a c:=h.trans (k.below (Nat.le_trans hB h.size) hF)
theorem store11 {W:World} {bb:Nat} (h:FB W bb 11) (KY:ByteArray) (k l d b cc:Int) (o:Bool) (at_ level held:Int) (a:Option Addr) (n c:Nat) :
  ∃ W',(Instr.storeAt 59 (.pointer (some ⟨bb,0,none⟩)) (.agg #[.string KY,.int .i64 k,.int .i64 l,.int .i64 d,.int .i64 b,.int .i64 cc,.bool o,.int .i64 at_,.int .i64 level,.int .i64 held,.slice a n c])).run Tryz.prog W=.ok () W'∧(W'.cell? ⟨bb,0,none⟩=some (.string KY)∧W'.cell? ⟨bb,1,none⟩=some (.int .i64 k)∧W'.cell? ⟨bb,2,none⟩=some (.int .i64 l)∧W'.cell? ⟨bb,3,none⟩=some (.int .i64 d)∧W'.cell? ⟨bb,4,none⟩=some (.int .i64 b)∧W'.cell? ⟨bb,5,none⟩=some (.int .i64 cc)∧W'.cell? ⟨bb,6,none⟩=some (.bool o)∧W'.cell? ⟨bb,7,none⟩=some (.int .i64 at_)∧W'.cell? ⟨bb,8,none⟩=some (.int .i64 level)∧W'.cell? ⟨bb,9,none⟩=some (.int .i64 held)∧W'.cell? ⟨bb,10,none⟩=some (.slice a n c))∧Only (fun q=>q=bb) W W':=by
 obtain⟨hs0,f0⟩:=h 0 (by omega)
 obtain⟨u0,i0⟩:=Option.isSome_iff_exists.1 hs0
 obtain⟨hs1,f1⟩:=h 1 (by omega)
 obtain⟨u1,i1⟩:=Option.isSome_iff_exists.1 hs1
 obtain⟨hs2,f2⟩:=h 2 (by omega)
 obtain⟨u2,i2⟩:=Option.isSome_iff_exists.1 hs2
 obtain⟨hs3,f3⟩:=h 3 (by omega)
 obtain⟨u3,i3⟩:=Option.isSome_iff_exists.1 hs3
 obtain⟨hs4,f4⟩:=h 4 (by omega)
 obtain⟨u4,i4⟩:=Option.isSome_iff_exists.1 hs4
 obtain⟨hs5,f5⟩:=h 5 (by omega)
 obtain⟨u5,i5⟩:=Option.isSome_iff_exists.1 hs5
 obtain⟨hs6,f6⟩:=h 6 (by omega)
 obtain⟨u6,i6⟩:=Option.isSome_iff_exists.1 hs6
 obtain⟨hs7,f7⟩:=h 7 (by omega)
 obtain⟨u7,i7⟩:=Option.isSome_iff_exists.1 hs7
 obtain⟨hs8,f8⟩:=h 8 (by omega)
 obtain⟨u8,i8⟩:=Option.isSome_iff_exists.1 hs8
 obtain⟨hs9,f9⟩:=h 9 (by omega)
 obtain⟨u9,i9⟩:=Option.isSome_iff_exists.1 hs9
 obtain⟨hs10,f10⟩:=h 10 (by omega)
 obtain⟨u10,i10⟩:=Option.isSome_iff_exists.1 hs10
 refine⟨(((((((((((W.setCell ⟨bb,0,none⟩ (.string KY)).setCell ⟨bb,1,none⟩ (.int .i64 k)).setCell ⟨bb,2,none⟩ (.int .i64 l)).setCell ⟨bb,3,none⟩ (.int .i64 d)).setCell ⟨bb,4,none⟩ (.int .i64 b)).setCell ⟨bb,5,none⟩ (.int .i64 cc)).setCell ⟨bb,6,none⟩ (.bool o)).setCell ⟨bb,7,none⟩ (.int .i64 at_)).setCell ⟨bb,8,none⟩ (.int .i64 level)).setCell ⟨bb,9,none⟩ (.int .i64 held)).setCell ⟨bb,10,none⟩ (.slice a n c)),by go_simp,⟨by go_simp,by go_simp,by go_simp,by go_simp,by go_simp,by go_simp,by go_simp,by go_simp,by go_simp,by go_simp,by go_simp⟩,(((((((((((Only.of_below (F:=fun q=>q=bb) (bl_refl W)).set (a:=⟨bb,0,none⟩) rfl (.string KY)).set (a:=⟨bb,1,none⟩) rfl (.int .i64 k)).set (a:=⟨bb,2,none⟩) rfl (.int .i64 l)).set (a:=⟨bb,3,none⟩) rfl (.int .i64 d)).set (a:=⟨bb,4,none⟩) rfl (.int .i64 b)).set (a:=⟨bb,5,none⟩) rfl (.int .i64 cc)).set (a:=⟨bb,6,none⟩) rfl (.bool o)).set (a:=⟨bb,7,none⟩) rfl (.int .i64 at_)).set (a:=⟨bb,8,none⟩) rfl (.int .i64 level)).set (a:=⟨bb,9,none⟩) rfl (.int .i64 held)).set (a:=⟨bb,10,none⟩) rfl (.slice a n c)⟩
theorem rof_plain {base:Nat} {Js:List LC} (r:Int) (v:Value) (d:CD) (w:World) (h:CRow w base v Js) (hl:LogAt w d.a d.n d.c d.x.st.log) (hN:Js.length≤100000) (hs:d.x.key.length≤maxLen) (hd:¬ d.kind=3) :
  Calls Tryz.prog 43 #[TV r v,d.v] w fun e w'=>∃ (a':Option Addr) (n' c':Nat),e=.returned ((cOf (Js.map (·.x)) d).v a' n' c')∧LogAt w' a' n' c' (cOf (Js.map (·.x)) d).st.log∧OfSrc w d Js a' n'∧Below w.heap.size w w':=by
 obtain⟨ra,rc,rfl⟩:=cs_form h.1
 obtain⟨N,hNe⟩:∃ N,N=Js.length:=⟨_,rfl⟩
 have HROW:=Go.Lib.hid (show CRow w base (.slice ra N rc) Js by rw[hNe];exact h)
 rw[← hNe]
 unfold TV
 have hof:cOf (Js.map (·.x)) d=d.x:=by unfold cOf;rw[if_neg hd]
 rw[hof]
 clear hof
 obtain⟨dk,⟨key,⟨k,l,d,b,cc,o⟩,⟨at_,level,held,LG⟩⟩,a,n,c,dnow,dcost⟩:=d
 unfold OfSrc CD.v Cl.v at *
 dsimp only at *
 generalize ktx key=KY at *
 have HLG:=Go.Lib.hid hl
 clear h hl hNe
 go_enter Tryz.func43,Tryz.ntmps43
 go_wp2_with fail
 have hB:=bl_alloc (bl_alloc (bl_alloc (bl_refl w) (.cells #[.int .i64 r,.slice ra N rc] 55)) (.cells #[.int .i64 dk,.string KY,.int .i64 k,.int .i64 l,.int .i64 d,.int .i64 b,.int .i64 cc,.bool o,.int .i64 at_,.int .i64 level,.int .i64 held,.slice a n c,.int .i64 dnow,.int .i64 dcost] 61)) (.cells #[.string KY,.int .i64 k,.int .i64 l,.int .i64 d,.int .i64 b,.int .i64 cc,.bool o,.int .i64 at_,.int .i64 level,.int .i64 held,.slice a n c] 59)
 exact bodyPost_ret (v:=.agg #[.string KY,.int .i64 k,.int .i64 l,.int .i64 d,.int .i64 b,.int .i64 cc,.bool o,.int .i64 at_,.int .i64 level,.int .i64 held,.slice a n c]) (results_cell rfl _ _ rfl (by go_simp) (by go_simp) (by go_simp) (by go_simp) (by go_simp) (by go_simp) (by go_simp) (by go_simp) (by go_simp) (by go_simp) (by go_simp)) rfl ⟨a,n,c,rfl,log_bl HLG.out hB,(fun ad e hn => .inl ⟨e,hn⟩),hB⟩
theorem rof_take {base:Nat} {Js:List LC} (r:Int) (v:Value) (d:CD) (w:World) (h:CRow w base v Js) (hl:LogAt w d.a d.n d.c d.x.st.log) (hN:Js.length≤100000) (hs:d.x.key.length≤maxLen) (hd:d.kind=3) :
  Calls Tryz.prog 43 #[TV r v,d.v] w fun e w'=>∃ (a':Option Addr) (n' c':Nat),e=.returned ((cOf (Js.map (·.x)) d).v a' n' c')∧LogAt w' a' n' c' (cOf (Js.map (·.x)) d).st.log∧OfSrc w d Js a' n'∧Below w.heap.size w w':=by
 obtain⟨ra,rc,rfl⟩:=cs_form h.1
 obtain⟨N,hNe⟩:∃ N,N=Js.length:=⟨_,rfl⟩
 have HROW:=Go.Lib.hid (show CRow w base (.slice ra N rc) Js by rw[hNe];exact h)
 rw[← hNe]
 unfold TV
 obtain⟨ST,hST⟩:∃ s,s=cLook (Js.map (·.x)) d.x.key d.x.pol d.now:=⟨_,rfl⟩
 have hof:cOf (Js.map (·.x)) d=⟨d.x.key,d.x.pol,(doP d.x.pol ST ⟨1,d.now,d.cost⟩).1⟩:=by unfold cOf;rw[if_pos hd,hST]
 rw[hof]
 have hlook:=fun W (hW:CRow W base (.slice ra N rc) Js)=>rlook_any r (.slice ra N rc) (ktx d.x.key) d.x.pol d.now W hW hN
 simp only[ktx_list,← hST] at hlook
 have hdo:=fun(a1:Option Addr) (n1 c1:Nat) W hW=>r8do_any d.x.pol ST a1 n1 c1 ⟨1,d.now,d.cost⟩ W hW
 obtain⟨U,hU⟩:∃ z,z=doP d.x.pol ST ⟨1,d.now,d.cost⟩:=⟨_,rfl⟩
 rw[← hU] at hdo ⊢
 clear hof hST hU
 obtain⟨dk,⟨key,⟨k,l,d,b,cc,o⟩,⟨at_,level,held,LG⟩⟩,a,n,c,dnow,dcost⟩:=d
 unfold OfSrc CD.v Cl.v at *
 dsimp only at *
 generalize ktx key=KY at *
 subst hd
 obtain⟨⟨uat,ulev,uheld,ulog⟩,ub⟩:=U
 obtain⟨sat,slev,sheld,slog⟩:=ST
 unfold PostSB Pol.v St.v Ac.v at *
 dsimp only at *
 have HLOOK:=Go.Lib.hid hlook
 have HDO:=Go.Lib.hid hdo
 clear hlook hdo
 have HLG:=Go.Lib.hid hl
 clear h hl hNe
 go_enter Tryz.func43,Tryz.ntmps43
 go_wp2_with fail
 skip
 refine calls_abs (S0:=fun X=>(fun w'=>w'.cell? ⟨w.heap.size,0,none⟩=some (.int .i64 r)∧w'.cell? ⟨w.heap.size,1,none⟩=some (.slice ra N rc)∧w'.cell? ⟨w.heap.size+1,0,none⟩=some (.int .i64 3)∧w'.cell? ⟨w.heap.size+1,1,none⟩=some (.string KY)∧w'.cell? ⟨w.heap.size+1,2,none⟩=some (.int .i64 k)∧w'.cell? ⟨w.heap.size+1,3,none⟩=some (.int .i64 l)∧w'.cell? ⟨w.heap.size+1,4,none⟩=some (.int .i64 d)∧w'.cell? ⟨w.heap.size+1,5,none⟩=some (.int .i64 b)∧w'.cell? ⟨w.heap.size+1,6,none⟩=some (.int .i64 cc)∧w'.cell? ⟨w.heap.size+1,7,none⟩=some (.bool o)∧w'.cell? ⟨w.heap.size+1,8,none⟩=some (.int .i64 at_)∧w'.cell? ⟨w.heap.size+1,9,none⟩=some (.int .i64 level)∧w'.cell? ⟨w.heap.size+1,10,none⟩=some (.int .i64 held)∧w'.cell? ⟨w.heap.size+1,11,none⟩=some (.slice a n c)∧w'.cell? ⟨w.heap.size+1,12,none⟩=some (.int .i64 dnow)∧w'.cell? ⟨w.heap.size+1,13,none⟩=some (.int .i64 dcost)∧w'.cell? ⟨w.heap.size+1+1,0,none⟩=some (.string { data := #[] })∧w'.cell? ⟨w.heap.size+1+1,1,none⟩=some (.int .i64 0)∧w'.cell? ⟨w.heap.size+1+1,2,none⟩=some (.int .i64 0)∧w'.cell? ⟨w.heap.size+1+1,3,none⟩=some (.int .i64 0)∧w'.cell? ⟨w.heap.size+1+1,4,none⟩=some (.int .i64 0)∧w'.cell? ⟨w.heap.size+1+1,5,none⟩=some (.int .i64 0)∧w'.cell? ⟨w.heap.size+1+1,6,none⟩=some (.bool false)∧w'.cell? ⟨w.heap.size+1+1,7,none⟩=some (.int .i64 0)∧w'.cell? ⟨w.heap.size+1+1,8,none⟩=some (.int .i64 0)∧w'.cell? ⟨w.heap.size+1+1,9,none⟩=some (.int .i64 0)∧w'.cell? ⟨w.heap.size+1+1,10,none⟩=some (.slice none 0 0)∧FB w' (w.heap.size+1+1) 11∧Below w.heap.size w w') X∧w.heap.size+3≤X.heap.size) ⟨⟨by go_simp,by go_simp,by go_simp,by go_simp,by go_simp,by go_simp,by go_simp,by go_simp,by go_simp,by go_simp,by go_simp,by go_simp,by go_simp,by go_simp,by go_simp,by go_simp,by go_simp,by go_simp,by go_simp,by go_simp,by go_simp,by go_simp,by go_simp,by go_simp,by go_simp,by go_simp,by go_simp,fb_new #[.string { data := #[] },.int .i64 0,.int .i64 0,.int .i64 0,.int .i64 0,.int .i64 0,.bool false,.int .i64 0,.int .i64 0,.int .i64 0,.slice none 0 0] _ (by simp),k3⟩,by simp⟩ ?_
 rintro w1 ⟨⟨tb0,tb1,db0,db1,db2,db3,db4,db5,db6,db7,db8,db9,db10,db11,db12,db13,xb0,xb1,xb2,xb3,xb4,xb5,xb6,xb7,xb8,xb9,xb10,xbR,hB⟩,hsz1⟩
 have lb_tb:=lbc tb0
 have lb_db:=lbc db0
 have lb_db1:=lbc db10
 have lb_xb:=lbc xb0
 have lb_xb1:=lbc xb10
 refine(HLOOK.out _ (crow_bl HROW.out hB)).mono ?_
 rintro e w2 ⟨a1,n1,c1,rfl,hlk,hsrc,hb⟩
 have hsz2:w1.heap.size+0≤w2.heap.size:=szl hb
 replace tb0:=bl_cell hb tb0
 replace tb1:=bl_cell hb tb1
 replace db0:=bl_cell hb db0
 replace db1:=bl_cell hb db1
 replace db2:=bl_cell hb db2
 replace db3:=bl_cell hb db3
 replace db4:=bl_cell hb db4
 replace db5:=bl_cell hb db5
 replace db6:=bl_cell hb db6
 replace db7:=bl_cell hb db7
 replace db8:=bl_cell hb db8
 replace db9:=bl_cell hb db9
 replace db10:=bl_cell hb db10
 replace db11:=bl_cell hb db11
 replace db12:=bl_cell hb db12
 replace db13:=bl_cell hb db13
 replace xb0:=bl_cell hb xb0
 replace xb1:=bl_cell hb xb1
 replace xb2:=bl_cell hb xb2
 replace xb3:=bl_cell hb xb3
 replace xb4:=bl_cell hb xb4
 replace xb5:=bl_cell hb xb5
 replace xb6:=bl_cell hb xb6
 replace xb7:=bl_cell hb xb7
 replace xb8:=bl_cell hb xb8
 replace xb9:=bl_cell hb xb9
 replace xb10:=bl_cell hb xb10
 replace xbR:=fb_bl xbR hb
 replace hB:Below w.heap.size w w2:=bl_then hB hb
 replace lb_tb:=lbc tb0
 replace lb_db:=lbc db0
 replace lb_db1:=lbc db10
 replace lb_xb:=lbc xb0
 replace lb_xb1:=lbc xb10
 clear hb
 have HLK1:=Go.Lib.hid hlk
 have HS1:=Go.Lib.hid hsrc
 clear hlk hsrc
 have hsA:=hB.size
 go_wp2_with fail
 refine(HDO.out a1 n1 c1 _ (log_bl HLK1.out k1)).mono ?_
 rintro e w3 ⟨a2,n2,c2,rfl,hul,husrc,hb⟩
 have hx:Below w2.heap.size w2 w3:=bl_then k1 hb
 have hsz3:w2.heap.size+1≤w3.heap.size:=szl hb
 replace tb0:=bl_cell hx tb0
 replace tb1:=bl_cell hx tb1
 replace db0:=bl_cell hx db0
 replace db1:=bl_cell hx db1
 replace db2:=bl_cell hx db2
 replace db3:=bl_cell hx db3
 replace db4:=bl_cell hx db4
 replace db5:=bl_cell hx db5
 replace db6:=bl_cell hx db6
 replace db7:=bl_cell hx db7
 replace db8:=bl_cell hx db8
 replace db9:=bl_cell hx db9
 replace db10:=bl_cell hx db10
 replace db11:=bl_cell hx db11
 replace db12:=bl_cell hx db12
 replace db13:=bl_cell hx db13
 replace xb0:=bl_cell hx xb0
 replace xb1:=bl_cell hx xb1
 replace xb2:=bl_cell hx xb2
 replace xb3:=bl_cell hx xb3
 replace xb4:=bl_cell hx xb4
 replace xb5:=bl_cell hx xb5
 replace xb6:=bl_cell hx xb6
 replace xb7:=bl_cell hx xb7
 replace xb8:=bl_cell hx xb8
 replace xb9:=bl_cell hx xb9
 replace xb10:=bl_cell hx xb10
 replace xbR:=fb_bl xbR hx
 obtain⟨sb0,sb1,sb2,sb3⟩:=b4 (w2.heap.size) sat slev sheld a1 n1 c1 hb
 replace hB:Below w.heap.size w w3:=bl_then hB hx
 replace lb_tb:=lbc tb0
 replace lb_db:=lbc db0
 replace lb_db1:=lbc db10
 replace lb_xb:=lbc xb0
 replace lb_xb1:=lbc xb10
 have lb_sb:=lbc sb0
 clear hb hx
 have HUL:=Go.Lib.hid hul
 have HUS:=Go.Lib.hid husrc
 clear hul husrc
 obtain⟨-,fr0⟩:=xbR 0 (by omega)
 obtain⟨-,fr1⟩:=xbR 1 (by omega)
 obtain⟨-,fr2⟩:=xbR 2 (by omega)
 obtain⟨-,fr3⟩:=xbR 3 (by omega)
 obtain⟨-,fr4⟩:=xbR 4 (by omega)
 obtain⟨-,fr5⟩:=xbR 5 (by omega)
 obtain⟨-,fr6⟩:=xbR 6 (by omega)
 obtain⟨-,fr7⟩:=xbR 7 (by omega)
 obtain⟨-,fr8⟩:=xbR 8 (by omega)
 obtain⟨-,fr9⟩:=xbR 9 (by omega)
 obtain⟨-,fr10⟩:=xbR 10 (by omega)
 have XBR:=Go.Lib.hid xbR
 have HSZ:Hid (w.heap.size+3≤w2.heap.size):=Go.Lib.hid (by omega)
 have HBZ:=Go.Lib.hid hB
 have lb_z:=lbc xb0
 clear hB xbR tb0 tb1 sb0 sb1 sb2 sb3 lb_tb lb_sb lb_xb hsz1 hsz2 hsz3 hsA db0 db8 db9 db10 db11 db12 db13
 have hbc := @build_cell
 have hfbW:=fb_bl XBR.out (bl_alloc (bl_refl w3) (.cells #[.int .i64 uat,.int .i64 ulev,.int .i64 uheld,.slice a2 n2 c2] 26))
 obtain⟨W5,hst,⟨p0,p1,p2,p3,p4,p5,p6,p7,p8,p9,p10⟩,hO5⟩:=store11 hfbW KY k l d b cc o uat ulev uheld a2 n2 c2
 have HO5:=Go.Lib.hid hO5
 clear hfbW hO5 fr0 fr1 fr2 fr3 fr4 fr5 fr6 fr7 fr8 fr9 fr10 xb0 xb1 xb2 xb3 xb4 xb5 xb6 xb7 xb8 xb9 xb10
 go_wp2_with (refine wpList_store rfl 59 (Operand.tmp 4) (Operand.tmp 43) rfl hst ?_)
 have hBa:=bl_alloc HBZ.out (.cells #[.int .i64 uat,.int .i64 ulev,.int .i64 uheld,.slice a2 n2 c2] 26)
 have hB2:Below w.heap.size w W5:=bl_then2 hBa HO5.out (fun q hq=>by subst hq;omega)
 have hul2:=log_bl HUL.out (bl_alloc (bl_refl _) (.cells #[.int .i64 uat,.int .i64 ulev,.int .i64 uheld,.slice a2 n2 c2] 26))
 have hsrc2:∀ ad,a2=some ad→n2≠0→(∃ i ∈ Js,i.a=some ad∧i.n≠0)∨w.heap.size+3≤ad.block:=fun ad e hn=>by
  rcases HUS.out with h|⟨rfl,rfl⟩|h
  ·exact absurd h hn
  ·exact .inl (HS1.out ad e hn)
  ·right;have h1:=h ad e;simp at h1;have:=HSZ.out;omega
 have hlg2:LogAt W5 a2 n2 c2 ulog:=log_only hul2 HO5.out (fun ad e hn hq=>by
  rcases hsrc2 ad e hn with⟨i,hi,e1,e2⟩|h
  ·have:=clog_lt (HROW.out.2 i hi) ad e1 e2;omega
  ·omega)
 exact bodyPost_ret (v:=.agg #[.string KY,.int .i64 k,.int .i64 l,.int .i64 d,.int .i64 b,.int .i64 cc,.bool o,.int .i64 uat,.int .i64 ulev,.int .i64 uheld,.slice a2 n2 c2]) (results_cell rfl _ _ rfl p0 p1 p2 p3 p4 p5 p6 p7 p8 p9 p10) rfl ⟨a2,n2,c2,rfl,hlg2,(fun ad e hn=>(hsrc2 ad e hn).elim (fun h => .inr (.inl h)) (fun h => .inr (.inr (by omega)))),hB2⟩
end Go.Proofs.YtmhikkbdhboodaaGreat
