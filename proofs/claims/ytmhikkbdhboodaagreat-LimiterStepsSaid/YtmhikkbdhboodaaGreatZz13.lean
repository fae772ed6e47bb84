/-
  What tapsterref08.New, Right, Advance, Room, Do, Until and Retry answer.
  tapsterref04.Same: of states that are the same.
  tapsterlaw08.same: of states that are the same it answers true.
  What limiter.Run answers.
  What tapsterlaw08.known answers: true.
  No condition.
-/
import Derived.Test.YtmhikkbdhboodaaGreatZz1
import Derived.Test.YtmhikkbdhboodaaGreatZz5
import Derived.Test.YtmhikkbdhboodaaGreatZz6
import Derived.Test.YtmhikkbdhboodaaGreatZz7
import Derived.Test.YtmhikkbdhboodaaGreatZz8
import Derived.Test.YtmhikkbdhboodaaGreatZz9
import Derived.Test.YtmhikkbdhboodaaGreatZz11
import Derived.Test.YtmhikkbdhboodaaGreatZz12
set_option maxHeartbeats 8000000
set_option maxRecDepth 100000
namespace Go.Proofs.YtmhikkbdhboodaaGreat
open Go.RowKit
set_option linter.unusedVariables false
set_option linter.unusedSimpArgs false

theorem s_log {w w':World} {a0:Option Addr} {n0:Nat} {t l h:Int} {lg:List (Int × Int)} {a1:Option Addr} {n1 c1:Nat} (hl:LogAt w' a1 n1 c1 lg) (hs:Src a0 n0 w a1 n1) (hb:Below w.heap.size w w') :
    PostS a0 n0 ⟨t,l,h,lg⟩ w (.returned (.agg #[.int .i64 t,.int .i64 l,.int .i64 h,.slice a1 n1 c1])) w':=⟨a1,n1,c1,rfl,hl,hs,hb⟩
theorem r8right_1 (l d b cc:Int) (o:Bool) (at_ level held:Int) (L:List (Int × Int)) (a:Option Addr) (n c:Nat)  (w:World) (hl:LogAt w a n c L):Calls Tryz.prog 44 #[Pol.v ⟨1,l,d,b,cc,o⟩,St.v ⟨at_,level,held,L⟩ a n c] w (fun e w'=>e=.returned (.bool (rightP ⟨1,l,d,b,cc,o⟩ ⟨at_,level,held,L⟩))∧Below w.heap.size w w'):=by
  rw[show rightP ⟨1,l,d,b,cc,o⟩ ⟨at_,level,held,L⟩=decide (rightB ⟨1,l,d,b,cc,o⟩ ⟨at_,level,held,L⟩) by unfold rightP;simp]
  have hc:=fun w (hw:LogAt w a n c L)=>r4right_any ⟨1,l,d,b,cc,o⟩ ⟨at_,level,held,L⟩ a n c hw.1 w
  generalize decide (rightB ⟨1,l,d,b,cc,o⟩ ⟨at_,level,held,L⟩)=R at *
  have hl0:=log_lt hl
  unfold St.v Pol.v at *
  (try dsimp only at *)
  have HC:=Go.Lib.hid hc
  clear hc
  have HL:=Go.Lib.hid hl
  clear hl
  go_enter Tryz.func44,Tryz.ntmps44
  go_wp2_with go_step3
  refine(HC.out _ (log_bl HL.out (bl_alloc (bl_alloc (bl_refl _) _) _))).mono ?_
  rintro e w1 ⟨rfl,hb⟩
  have hx:Below w.heap.size w w1:=bl_then (bl_alloc (bl_alloc (bl_refl _) _) _) hb
  have hsz1:w.heap.size+2≤w1.heap.size:=szl hb
  have hB:Below w.heap.size w w1:=hx
  clear hb hx
  go_wp2_with go_step3
  go_ret
  exact⟨rfl,hB⟩
theorem r8right_2 (l d b cc:Int) (o:Bool) (at_ level held:Int) (L:List (Int × Int)) (a:Option Addr) (n c:Nat)  (w:World) (hl:LogAt w a n c L):Calls Tryz.prog 44 #[Pol.v ⟨2,l,d,b,cc,o⟩,St.v ⟨at_,level,held,L⟩ a n c] w (fun e w'=>e=.returned (.bool (rightP ⟨2,l,d,b,cc,o⟩ ⟨at_,level,held,L⟩))∧Below w.heap.size w w'):=by
  rw[show rightP ⟨2,l,d,b,cc,o⟩ ⟨at_,level,held,L⟩=decide (rightG ⟨2,l,d,b,cc,o⟩ ⟨at_,level,held,L⟩) by unfold rightP;simp]
  have hc:=fun w (hw:LogAt w a n c L)=>r5right_any ⟨2,l,d,b,cc,o⟩ ⟨at_,level,held,L⟩ a n c hw.1 w
  generalize decide (rightG ⟨2,l,d,b,cc,o⟩ ⟨at_,level,held,L⟩)=R at *
  have hl0:=log_lt hl
  unfold St.v Pol.v at *
  (try dsimp only at *)
  have HC:=Go.Lib.hid hc
  clear hc
  have HL:=Go.Lib.hid hl
  clear hl
  go_enter Tryz.func44,Tryz.ntmps44
  go_wp2_with go_step3
  refine(HC.out _ (log_bl HL.out (bl_alloc (bl_alloc (bl_refl _) _) _))).mono ?_
  rintro e w1 ⟨rfl,hb⟩
  have hx:Below w.heap.size w w1:=bl_then (bl_alloc (bl_alloc (bl_refl _) _) _) hb
  have hsz1:w.heap.size+2≤w1.heap.size:=szl hb
  have hB:Below w.heap.size w w1:=hx
  clear hb hx
  go_wp2_with go_step3
  go_ret
  exact⟨rfl,hB⟩
theorem r8right_3 (l d b cc:Int) (o:Bool) (at_ level held:Int) (L:List (Int × Int)) (a:Option Addr) (n c:Nat)  (w:World) (hl:LogAt w a n c L):Calls Tryz.prog 44 #[Pol.v ⟨3,l,d,b,cc,o⟩,St.v ⟨at_,level,held,L⟩ a n c] w (fun e w'=>e=.returned (.bool (rightP ⟨3,l,d,b,cc,o⟩ ⟨at_,level,held,L⟩))∧Below w.heap.size w w'):=by
  rw[show rightP ⟨3,l,d,b,cc,o⟩ ⟨at_,level,held,L⟩=decide (rightL ⟨3,l,d,b,cc,o⟩ ⟨at_,level,held,L⟩) by unfold rightP;simp]
  have hc:=fun w (hw:LogAt w a n c L)=>r6right_any ⟨3,l,d,b,cc,o⟩ ⟨at_,level,held,L⟩ a n c w hw
  generalize decide (rightL ⟨3,l,d,b,cc,o⟩ ⟨at_,level,held,L⟩)=R at *
  have hl0:=log_lt hl
  unfold St.v Pol.v at *
  (try dsimp only at *)
  have HC:=Go.Lib.hid hc
  clear hc
  have HL:=Go.Lib.hid hl
  clear hl
  go_enter Tryz.func44,Tryz.ntmps44
  go_wp2_with go_step3
  refine(HC.out _ (log_bl HL.out (bl_alloc (bl_alloc (bl_refl _) _) _))).mono ?_
  rintro e w1 ⟨rfl,hb⟩
  have hx:Below w.heap.size w w1:=bl_then (bl_alloc (bl_alloc (bl_refl _) _) _) hb
  have hsz1:w.heap.size+2≤w1.heap.size:=szl hb
  have hB:Below w.heap.size w w1:=hx
  clear hb hx
  go_wp2_with go_step3
  go_ret
  exact⟨rfl,hB⟩
theorem r8right_4 (l d b cc:Int) (o:Bool) (at_ level held:Int) (L:List (Int × Int)) (a:Option Addr) (n c:Nat)  (w:World) (hl:LogAt w a n c L):Calls Tryz.prog 44 #[Pol.v ⟨4,l,d,b,cc,o⟩,St.v ⟨at_,level,held,L⟩ a n c] w (fun e w'=>e=.returned (.bool (rightP ⟨4,l,d,b,cc,o⟩ ⟨at_,level,held,L⟩))∧Below w.heap.size w w'):=by
  rw[show rightP ⟨4,l,d,b,cc,o⟩ ⟨at_,level,held,L⟩=decide (rightC ⟨4,l,d,b,cc,o⟩ ⟨at_,level,held,L⟩) by unfold rightP;simp]
  have hc:=fun w (hw:LogAt w a n c L)=>r7right_any ⟨4,l,d,b,cc,o⟩ ⟨at_,level,held,L⟩ a n c hw.1 w
  generalize decide (rightC ⟨4,l,d,b,cc,o⟩ ⟨at_,level,held,L⟩)=R at *
  have hl0:=log_lt hl
  unfold St.v Pol.v at *
  (try dsimp only at *)
  have HC:=Go.Lib.hid hc
  clear hc
  have HL:=Go.Lib.hid hl
  clear hl
  go_enter Tryz.func44,Tryz.ntmps44
  go_wp2_with go_step3
  refine(HC.out _ (log_bl HL.out (bl_alloc (bl_alloc (bl_refl _) _) _))).mono ?_
  rintro e w1 ⟨rfl,hb⟩
  have hx:Below w.heap.size w w1:=bl_then (bl_alloc (bl_alloc (bl_refl _) _) _) hb
  have hsz1:w.heap.size+2≤w1.heap.size:=szl hb
  have hB:Below w.heap.size w w1:=hx
  clear hb hx
  go_wp2_with go_step3
  go_ret
  exact⟨rfl,hB⟩
theorem r8right_0 (k l d b cc:Int) (o:Bool) (at_ level held:Int) (L:List (Int × Int)) (a:Option Addr) (n c:Nat)  (w:World) (hl:LogAt w a n c L) (k1:¬ k=1) (k2:¬ k=2) (k3:¬ k=3) (k4:¬ k=4):Calls Tryz.prog 44 #[Pol.v ⟨k,l,d,b,cc,o⟩,St.v ⟨at_,level,held,L⟩ a n c] w (fun e w'=>e=.returned (.bool (rightP ⟨k,l,d,b,cc,o⟩ ⟨at_,level,held,L⟩))∧Below w.heap.size w w'):=by
  rw[show rightP ⟨k,l,d,b,cc,o⟩ ⟨at_,level,held,L⟩=false by unfold rightP rightB okB;simp[k1,k2,k3,k4]]
  unfold St.v Pol.v at *
  (try unfold St.none at *)
  (try dsimp only at *)
  clear hl
  go_enter Tryz.func44,Tryz.ntmps44
  go_wp2_with go_step3
  go_ret
  exact⟨rfl,bl_alloc (bl_alloc (bl_refl _) _) _⟩
theorem r8right_any (p:Pol) (s:St) (a:Option Addr) (n c:Nat)  (w:World) (hl:LogAt w a n c s.log):Calls Tryz.prog 44 #[p.v,s.v a n c] w (fun e w'=>e=.returned (.bool (rightP p s))∧Below w.heap.size w w'):=by
  obtain⟨k,l,d,b,cc,o⟩:=p
  obtain⟨at_,level,held,L⟩:=s
  by_cases k1:k=1
  · subst k1;exact r8right_1 l d b cc o at_ level held L a n c  w hl
  by_cases k2:k=2
  · subst k2;exact r8right_2 l d b cc o at_ level held L a n c  w hl
  by_cases k3:k=3
  · subst k3;exact r8right_3 l d b cc o at_ level held L a n c  w hl
  by_cases k4:k=4
  · subst k4;exact r8right_4 l d b cc o at_ level held L a n c  w hl
  exact r8right_0 k l d b cc o at_ level held L a n c  w hl k1 k2 k3 k4
theorem r8new_1 (l d b cc:Int) (o:Bool) (now:Int) (w:World):Calls Tryz.prog 25 #[Pol.v ⟨1,l,d,b,cc,o⟩,.int .i64 now] w (fun e w'=>e=.returned ((newP ⟨1,l,d,b,cc,o⟩ now).v none 0 0)∧Below w.heap.size w w'):=by
  rw[show newP ⟨1,l,d,b,cc,o⟩ now=newB ⟨1,l,d,b,cc,o⟩ now by unfold newP;simp]
  have hc:=r4new ⟨1,l,d,b,cc,o⟩ now
  generalize newB ⟨1,l,d,b,cc,o⟩ now=R at *
  obtain⟨rat,rlv,rhd,rL⟩:=R
  unfold St.v Pol.v at *
  (try dsimp only at *)
  have HC:=Go.Lib.hid hc
  clear hc
  go_enter Tryz.func25,Tryz.ntmps25
  go_wp2_with go_step3
  refine(HC.out _).mono ?_
  rintro e w1 ⟨rfl,hb⟩
  have hx:Below w.heap.size w w1:=bl_then (bl_alloc (bl_alloc (bl_refl _) _) _) hb
  have hsz1:w.heap.size+2≤w1.heap.size:=szl hb
  have rR:=res_bl (b:=w.heap.size+1) (res_new _ _ _ _ _ _ (by simp)) hb
  have hB:Below w.heap.size w w1:=hx
  clear hb hx
  obtain⟨f0,f1,f2,f3,u0,u1,u2,u3,i0,i1,i2,i3⟩:=res_all rR
  go_wp2_with go_step3
  (try simp only[Exit.inBlock,Exit.then,Exit.noGoto_ret])
  refine bodyPost_ret (results_state rfl _ _ (by rfl) (set4r (rR))) rfl ⟨rfl,bl4 (hB) (by omega)⟩
theorem r8new_2 (l d b cc:Int) (o:Bool) (now:Int) (w:World):Calls Tryz.prog 25 #[Pol.v ⟨2,l,d,b,cc,o⟩,.int .i64 now] w (fun e w'=>e=.returned ((newP ⟨2,l,d,b,cc,o⟩ now).v none 0 0)∧Below w.heap.size w w'):=by
  rw[show newP ⟨2,l,d,b,cc,o⟩ now=newG ⟨2,l,d,b,cc,o⟩ now by unfold newP;simp]
  have hc:=r5new ⟨2,l,d,b,cc,o⟩ now
  generalize newG ⟨2,l,d,b,cc,o⟩ now=R at *
  obtain⟨rat,rlv,rhd,rL⟩:=R
  unfold St.v Pol.v at *
  (try dsimp only at *)
  have HC:=Go.Lib.hid hc
  clear hc
  go_enter Tryz.func25,Tryz.ntmps25
  go_wp2_with go_step3
  refine(HC.out _).mono ?_
  rintro e w1 ⟨rfl,hb⟩
  have hx:Below w.heap.size w w1:=bl_then (bl_alloc (bl_alloc (bl_refl _) _) _) hb
  have hsz1:w.heap.size+2≤w1.heap.size:=szl hb
  have rR:=res_bl (b:=w.heap.size+1) (res_new _ _ _ _ _ _ (by simp)) hb
  have hB:Below w.heap.size w w1:=hx
  clear hb hx
  obtain⟨f0,f1,f2,f3,u0,u1,u2,u3,i0,i1,i2,i3⟩:=res_all rR
  go_wp2_with go_step3
  (try simp only[Exit.inBlock,Exit.then,Exit.noGoto_ret])
  refine bodyPost_ret (results_state rfl _ _ (by rfl) (set4r (rR))) rfl ⟨rfl,bl4 (hB) (by omega)⟩
theorem r8new_3 (l d b cc:Int) (o:Bool) (now:Int) (w:World):Calls Tryz.prog 25 #[Pol.v ⟨3,l,d,b,cc,o⟩,.int .i64 now] w (fun e w'=>e=.returned ((newP ⟨3,l,d,b,cc,o⟩ now).v none 0 0)∧Below w.heap.size w w'):=by
  rw[show newP ⟨3,l,d,b,cc,o⟩ now=newL ⟨3,l,d,b,cc,o⟩ now by unfold newP;simp]
  have hc:=r6new ⟨3,l,d,b,cc,o⟩ now
  generalize newL ⟨3,l,d,b,cc,o⟩ now=R at *
  obtain⟨rat,rlv,rhd,rL⟩:=R
  unfold St.v Pol.v at *
  (try dsimp only at *)
  have HC:=Go.Lib.hid hc
  clear hc
  go_enter Tryz.func25,Tryz.ntmps25
  go_wp2_with go_step3
  refine(HC.out _).mono ?_
  rintro e w1 ⟨rfl,hb⟩
  have hx:Below w.heap.size w w1:=bl_then (bl_alloc (bl_alloc (bl_refl _) _) _) hb
  have hsz1:w.heap.size+2≤w1.heap.size:=szl hb
  have rR:=res_bl (b:=w.heap.size+1) (res_new _ _ _ _ _ _ (by simp)) hb
  have hB:Below w.heap.size w w1:=hx
  clear hb hx
  obtain⟨f0,f1,f2,f3,u0,u1,u2,u3,i0,i1,i2,i3⟩:=res_all rR
  go_wp2_with go_step3
  (try simp only[Exit.inBlock,Exit.then,Exit.noGoto_ret])
  refine bodyPost_ret (results_state rfl _ _ (by rfl) (set4r (rR))) rfl ⟨rfl,bl4 (hB) (by omega)⟩
theorem r8new_4 (l d b cc:Int) (o:Bool) (now:Int) (w:World):Calls Tryz.prog 25 #[Pol.v ⟨4,l,d,b,cc,o⟩,.int .i64 now] w (fun e w'=>e=.returned ((newP ⟨4,l,d,b,cc,o⟩ now).v none 0 0)∧Below w.heap.size w w'):=by
  rw[show newP ⟨4,l,d,b,cc,o⟩ now=newC ⟨4,l,d,b,cc,o⟩ now by unfold newP;simp]
  have hc:=r7new ⟨4,l,d,b,cc,o⟩ now
  generalize newC ⟨4,l,d,b,cc,o⟩ now=R at *
  obtain⟨rat,rlv,rhd,rL⟩:=R
  unfold St.v Pol.v at *
  (try dsimp only at *)
  have HC:=Go.Lib.hid hc
  clear hc
  go_enter Tryz.func25,Tryz.ntmps25
  go_wp2_with go_step3
  refine(HC.out _).mono ?_
  rintro e w1 ⟨rfl,hb⟩
  have hx:Below w.heap.size w w1:=bl_then (bl_alloc (bl_alloc (bl_refl _) _) _) hb
  have hsz1:w.heap.size+2≤w1.heap.size:=szl hb
  have rR:=res_bl (b:=w.heap.size+1) (res_new _ _ _ _ _ _ (by simp)) hb
  have hB:Below w.heap.size w w1:=hx
  clear hb hx
  obtain⟨f0,f1,f2,f3,u0,u1,u2,u3,i0,i1,i2,i3⟩:=res_all rR
  go_wp2_with go_step3
  (try simp only[Exit.inBlock,Exit.then,Exit.noGoto_ret])
  refine bodyPost_ret (results_state rfl _ _ (by rfl) (set4r (rR))) rfl ⟨rfl,bl4 (hB) (by omega)⟩
theorem r8new_0 (k l d b cc:Int) (o:Bool) (now:Int) (w:World) (k1:¬ k=1) (k2:¬ k=2) (k3:¬ k=3) (k4:¬ k=4):Calls Tryz.prog 25 #[Pol.v ⟨k,l,d,b,cc,o⟩,.int .i64 now] w (fun e w'=>e=.returned ((newP ⟨k,l,d,b,cc,o⟩ now).v none 0 0)∧Below w.heap.size w w'):=by
  rw[show newP ⟨k,l,d,b,cc,o⟩ now=St.none by unfold newP newB okB;simp[k1,k2,k3,k4]]
  unfold St.v Pol.v at *
  (try unfold St.none at *)
  (try dsimp only at *)
  go_enter Tryz.func25,Tryz.ntmps25
  go_wp2_with go_step3
  (try simp only[Exit.inBlock,Exit.then,Exit.noGoto_ret])
  refine bodyPost_ret (v:=.agg #[.int .i64 0,.int .i64 0,.int .i64 0,.slice none 0 0]) (by simp[results,Tryz.results25,go_sem]) rfl ⟨rfl,bl_alloc (bl_alloc (bl_refl _) _) _⟩
theorem r8new_any (p:Pol) (now:Int) (w:World):Calls Tryz.prog 25 #[p.v,.int .i64 now] w (fun e w'=>e=.returned ((newP p now).v none 0 0)∧Below w.heap.size w w'):=by
  obtain⟨k,l,d,b,cc,o⟩:=p
  by_cases k1:k=1
  · subst k1;exact r8new_1 l d b cc o now w
  by_cases k2:k=2
  · subst k2;exact r8new_2 l d b cc o now w
  by_cases k3:k=3
  · subst k3;exact r8new_3 l d b cc o now w
  by_cases k4:k=4
  · subst k4;exact r8new_4 l d b cc o now w
  exact r8new_0 k l d b cc o now w k1 k2 k3 k4
theorem r8adv_1 (l d b cc:Int) (o:Bool) (at_ level held:Int) (L:List (Int × Int)) (a:Option Addr) (n c:Nat) (now:Int) (w:World) (hl:LogAt w a n c L):Calls Tryz.prog 64 #[Pol.v ⟨1,l,d,b,cc,o⟩,St.v ⟨at_,level,held,L⟩ a n c,.int .i64 now] w (PostS a n (advP ⟨1,l,d,b,cc,o⟩ ⟨at_,level,held,L⟩ now) w):=by
  rw[show advP ⟨1,l,d,b,cc,o⟩ ⟨at_,level,held,L⟩ now=advB ⟨1,l,d,b,cc,o⟩ ⟨at_,level,held,L⟩ now by unfold advP;simp]
  have hc:=fun w (hw:LogAt w a n c L)=>r4adv_any ⟨1,l,d,b,cc,o⟩ ⟨at_,level,held,L⟩ a n c now w hw
  unfold PostS at hc
  generalize advB ⟨1,l,d,b,cc,o⟩ ⟨at_,level,held,L⟩ now=R at *
  obtain⟨rat,rlv,rhd,rL⟩:=R
  have hl0:=log_lt hl
  unfold St.v Pol.v at *
  (try dsimp only at *)
  have HC:=Go.Lib.hid hc
  clear hc
  have HL:=Go.Lib.hid hl
  clear hl
  go_enter Tryz.func64,Tryz.ntmps64
  go_wp2_with go_step3
  refine(HC.out _ (log_bl HL.out (bl_alloc (bl_alloc (bl_alloc (bl_refl _) _) _) _))).mono ?_
  rintro e w1 ⟨a1,n1,c1,rfl,hl1,hs1,hb⟩
  have hx:Below w.heap.size w w1:=bl_then (bl_alloc (bl_alloc (bl_alloc (bl_refl _) _) _) _) hb
  have hsz1:w.heap.size+3≤w1.heap.size:=szl hb
  have rR:=res_bl (b:=w.heap.size+1+1) (res_new _ _ _ _ _ _ (by simp)) hb
  have hB:Below w.heap.size w w1:=hx
  clear hb hx
  have hne1:=src_far (b:=w.heap.size+1+1) HL.out hs1 (by omega) (by simp)
  replace hs1:=src_out hs1 (show w.heap.size≤_ by simp;omega)
  obtain⟨f0,f1,f2,f3,u0,u1,u2,u3,i0,i1,i2,i3⟩:=res_all rR
  go_wp2_with go_step3
  (try simp only[Exit.inBlock,Exit.then,Exit.noGoto_ret])
  refine bodyPost_ret (results_state rfl _ _ (by rfl) (set4r rR)) rfl (s_log (log_set4b hl1 hne1) hs1 (bl4 hB (by omega)))
theorem r8adv_2 (l d b cc:Int) (o:Bool) (at_ level held:Int) (L:List (Int × Int)) (a:Option Addr) (n c:Nat) (now:Int) (w:World) (hl:LogAt w a n c L):Calls Tryz.prog 64 #[Pol.v ⟨2,l,d,b,cc,o⟩,St.v ⟨at_,level,held,L⟩ a n c,.int .i64 now] w (PostS a n (advP ⟨2,l,d,b,cc,o⟩ ⟨at_,level,held,L⟩ now) w):=by
  rw[show advP ⟨2,l,d,b,cc,o⟩ ⟨at_,level,held,L⟩ now=advG ⟨2,l,d,b,cc,o⟩ ⟨at_,level,held,L⟩ now by unfold advP;simp]
  have hc:=fun w (hw:LogAt w a n c L)=>r5adv_any ⟨2,l,d,b,cc,o⟩ ⟨at_,level,held,L⟩ a n c now w hw
  unfold PostS at hc
  generalize advG ⟨2,l,d,b,cc,o⟩ ⟨at_,level,held,L⟩ now=R at *
  obtain⟨rat,rlv,rhd,rL⟩:=R
  have hl0:=log_lt hl
  unfold St.v Pol.v at *
  (try dsimp only at *)
  have HC:=Go.Lib.hid hc
  clear hc
  have HL:=Go.Lib.hid hl
  clear hl
  go_enter Tryz.func64,Tryz.ntmps64
  go_wp2_with go_step3
  refine(HC.out _ (log_bl HL.out (bl_alloc (bl_alloc (bl_alloc (bl_refl _) _) _) _))).mono ?_
  rintro e w1 ⟨a1,n1,c1,rfl,hl1,hs1,hb⟩
  have hx:Below w.heap.size w w1:=bl_then (bl_alloc (bl_alloc (bl_alloc (bl_refl _) _) _) _) hb
  have hsz1:w.heap.size+3≤w1.heap.size:=szl hb
  have rR:=res_bl (b:=w.heap.size+1+1) (res_new _ _ _ _ _ _ (by simp)) hb
  have hB:Below w.heap.size w w1:=hx
  clear hb hx
  have hne1:=src_far (b:=w.heap.size+1+1) HL.out hs1 (by omega) (by simp)
  replace hs1:=src_out hs1 (show w.heap.size≤_ by simp;omega)
  obtain⟨f0,f1,f2,f3,u0,u1,u2,u3,i0,i1,i2,i3⟩:=res_all rR
  go_wp2_with go_step3
  (try simp only[Exit.inBlock,Exit.then,Exit.noGoto_ret])
  refine bodyPost_ret (results_state rfl _ _ (by rfl) (set4r rR)) rfl (s_log (log_set4b hl1 hne1) hs1 (bl4 hB (by omega)))
theorem r8adv_3 (l d b cc:Int) (o:Bool) (at_ level held:Int) (L:List (Int × Int)) (a:Option Addr) (n c:Nat) (now:Int) (w:World) (hl:LogAt w a n c L):Calls Tryz.prog 64 #[Pol.v ⟨3,l,d,b,cc,o⟩,St.v ⟨at_,level,held,L⟩ a n c,.int .i64 now] w (PostS a n (advP ⟨3,l,d,b,cc,o⟩ ⟨at_,level,held,L⟩ now) w):=by
  rw[show advP ⟨3,l,d,b,cc,o⟩ ⟨at_,level,held,L⟩ now=advL ⟨3,l,d,b,cc,o⟩ ⟨at_,level,held,L⟩ now by unfold advP;simp]
  have hc:=fun w (hw:LogAt w a n c L)=>r6adv_any ⟨3,l,d,b,cc,o⟩ ⟨at_,level,held,L⟩ a n c now w hw
  unfold PostS at hc
  generalize advL ⟨3,l,d,b,cc,o⟩ ⟨at_,level,held,L⟩ now=R at *
  obtain⟨rat,rlv,rhd,rL⟩:=R
  have hl0:=log_lt hl
  unfold St.v Pol.v at *
  (try dsimp only at *)
  have HC:=Go.Lib.hid hc
  clear hc
  have HL:=Go.Lib.hid hl
  clear hl
  go_enter Tryz.func64,Tryz.ntmps64
  go_wp2_with go_step3
  refine(HC.out _ (log_bl HL.out (bl_alloc (bl_alloc (bl_alloc (bl_refl _) _) _) _))).mono ?_
  rintro e w1 ⟨a1,n1,c1,rfl,hl1,hs1,hb⟩
  have hx:Below w.heap.size w w1:=bl_then (bl_alloc (bl_alloc (bl_alloc (bl_refl _) _) _) _) hb
  have hsz1:w.heap.size+3≤w1.heap.size:=szl hb
  have rR:=res_bl (b:=w.heap.size+1+1) (res_new _ _ _ _ _ _ (by simp)) hb
  have hB:Below w.heap.size w w1:=hx
  clear hb hx
  have hne1:=src_far (b:=w.heap.size+1+1) HL.out hs1 (by omega) (by simp)
  replace hs1:=src_out hs1 (show w.heap.size≤_ by simp;omega)
  obtain⟨f0,f1,f2,f3,u0,u1,u2,u3,i0,i1,i2,i3⟩:=res_all rR
  go_wp2_with go_step3
  (try simp only[Exit.inBlock,Exit.then,Exit.noGoto_ret])
  refine bodyPost_ret (results_state rfl _ _ (by rfl) (set4r rR)) rfl (s_log (log_set4b hl1 hne1) hs1 (bl4 hB (by omega)))
theorem r8adv_4 (l d b cc:Int) (o:Bool) (at_ level held:Int) (L:List (Int × Int)) (a:Option Addr) (n c:Nat) (now:Int) (w:World) (hl:LogAt w a n c L):Calls Tryz.prog 64 #[Pol.v ⟨4,l,d,b,cc,o⟩,St.v ⟨at_,level,held,L⟩ a n c,.int .i64 now] w (PostS a n (advP ⟨4,l,d,b,cc,o⟩ ⟨at_,level,held,L⟩ now) w):=by
  rw[show advP ⟨4,l,d,b,cc,o⟩ ⟨at_,level,held,L⟩ now=advC ⟨4,l,d,b,cc,o⟩ ⟨at_,level,held,L⟩ now by unfold advP;simp]
  have hc:=fun w (hw:LogAt w a n c L)=>r7adv_any ⟨4,l,d,b,cc,o⟩ ⟨at_,level,held,L⟩ a n c now w hw
  unfold PostS at hc
  generalize advC ⟨4,l,d,b,cc,o⟩ ⟨at_,level,held,L⟩ now=R at *
  obtain⟨rat,rlv,rhd,rL⟩:=R
  have hl0:=log_lt hl
  unfold St.v Pol.v at *
  (try dsimp only at *)
  have HC:=Go.Lib.hid hc
  clear hc
  have HL:=Go.Lib.hid hl
  clear hl
  go_enter Tryz.func64,Tryz.ntmps64
  go_wp2_with go_step3
  refine(HC.out _ (log_bl HL.out (bl_alloc (bl_alloc (bl_alloc (bl_refl _) _) _) _))).mono ?_
  rintro e w1 ⟨a1,n1,c1,rfl,hl1,hs1,hb⟩
  have hx:Below w.heap.size w w1:=bl_then (bl_alloc (bl_alloc (bl_alloc (bl_refl _) _) _) _) hb
  have hsz1:w.heap.size+3≤w1.heap.size:=szl hb
  have rR:=res_bl (b:=w.heap.size+1+1) (res_new _ _ _ _ _ _ (by simp)) hb
  have hB:Below w.heap.size w w1:=hx
  clear hb hx
  have hne1:=src_far (b:=w.heap.size+1+1) HL.out hs1 (by omega) (by simp)
  replace hs1:=src_out hs1 (show w.heap.size≤_ by simp;omega)
  obtain⟨f0,f1,f2,f3,u0,u1,u2,u3,i0,i1,i2,i3⟩:=res_all rR
  go_wp2_with go_step3
  (try simp only[Exit.inBlock,Exit.then,Exit.noGoto_ret])
  refine bodyPost_ret (results_state rfl _ _ (by rfl) (set4r rR)) rfl (s_log (log_set4b hl1 hne1) hs1 (bl4 hB (by omega)))
theorem r8adv_0 (k l d b cc:Int) (o:Bool) (at_ level held:Int) (L:List (Int × Int)) (a:Option Addr) (n c:Nat) (now:Int) (w:World) (hl:LogAt w a n c L) (k1:¬ k=1) (k2:¬ k=2) (k3:¬ k=3) (k4:¬ k=4):Calls Tryz.prog 64 #[Pol.v ⟨k,l,d,b,cc,o⟩,St.v ⟨at_,level,held,L⟩ a n c,.int .i64 now] w (PostS a n (advP ⟨k,l,d,b,cc,o⟩ ⟨at_,level,held,L⟩ now) w):=by
  rw[show advP ⟨k,l,d,b,cc,o⟩ ⟨at_,level,held,L⟩ now=St.none by unfold advP advB rightB okB;simp[k1,k2,k3,k4]]
  refine Calls.mono (R:=fun e w'=>e=.returned (St.none.v none 0 0)∧Below w.heap.size w w') ?_ (fun e w' hh=>s_none rfl hh)
  unfold St.v Pol.v at *
  (try unfold St.none at *)
  (try dsimp only at *)
  clear hl
  go_enter Tryz.func64,Tryz.ntmps64
  go_wp2_with go_step3
  (try simp only[Exit.inBlock,Exit.then,Exit.noGoto_ret])
  refine bodyPost_ret (v:=.agg #[.int .i64 0,.int .i64 0,.int .i64 0,.slice none 0 0]) (by simp[results,Tryz.results64,go_sem]) rfl ⟨rfl,bl_alloc (bl_alloc (bl_alloc (bl_refl _) _) _) _⟩
theorem r8adv_any (p:Pol) (s:St) (a:Option Addr) (n c:Nat) (now:Int) (w:World) (hl:LogAt w a n c s.log):Calls Tryz.prog 64 #[p.v,s.v a n c,.int .i64 now] w (PostS a n (advP p s now) w):=by
  obtain⟨k,l,d,b,cc,o⟩:=p
  obtain⟨at_,level,held,L⟩:=s
  by_cases k1:k=1
  · subst k1;exact r8adv_1 l d b cc o at_ level held L a n c now w hl
  by_cases k2:k=2
  · subst k2;exact r8adv_2 l d b cc o at_ level held L a n c now w hl
  by_cases k3:k=3
  · subst k3;exact r8adv_3 l d b cc o at_ level held L a n c now w hl
  by_cases k4:k=4
  · subst k4;exact r8adv_4 l d b cc o at_ level held L a n c now w hl
  exact r8adv_0 k l d b cc o at_ level held L a n c now w hl k1 k2 k3 k4
theorem r8room_1 (l d b cc:Int) (o:Bool) (at_ level held:Int) (L:List (Int × Int)) (a:Option Addr) (n c:Nat) (now:Int) (w:World) (hl:LogAt w a n c L):Calls Tryz.prog 66 #[Pol.v ⟨1,l,d,b,cc,o⟩,St.v ⟨at_,level,held,L⟩ a n c,.int .i64 now] w (fun e w'=>e=.returned (.int .i64 (roomP ⟨1,l,d,b,cc,o⟩ ⟨at_,level,held,L⟩ now))∧Below w.heap.size w w'):=by
  rw[show roomP ⟨1,l,d,b,cc,o⟩ ⟨at_,level,held,L⟩ now=roomB ⟨1,l,d,b,cc,o⟩ ⟨at_,level,held,L⟩ now by unfold roomP;simp]
  have hc:=fun w (hw:LogAt w a n c L)=>r4room_any ⟨1,l,d,b,cc,o⟩ ⟨at_,level,held,L⟩ a n c now w hw
  generalize roomB ⟨1,l,d,b,cc,o⟩ ⟨at_,level,held,L⟩ now=R at *
  have hl0:=log_lt hl
  unfold St.v Pol.v at *
  (try dsimp only at *)
  have HC:=Go.Lib.hid hc
  clear hc
  have HL:=Go.Lib.hid hl
  clear hl
  go_enter Tryz.func66,Tryz.ntmps66
  go_wp2_with go_step3
  refine(HC.out _ (log_bl HL.out (bl_alloc (bl_alloc (bl_refl _) _) _))).mono ?_
  rintro e w1 ⟨rfl,hb⟩
  have hx:Below w.heap.size w w1:=bl_then (bl_alloc (bl_alloc (bl_refl _) _) _) hb
  have hsz1:w.heap.size+2≤w1.heap.size:=szl hb
  have hB:Below w.heap.size w w1:=hx
  clear hb hx
  go_wp2_with go_step3
  go_ret
  exact⟨rfl,hB⟩
theorem r8room_2 (l d b cc:Int) (o:Bool) (at_ level held:Int) (L:List (Int × Int)) (a:Option Addr) (n c:Nat) (now:Int) (w:World) (hl:LogAt w a n c L):Calls Tryz.prog 66 #[Pol.v ⟨2,l,d,b,cc,o⟩,St.v ⟨at_,level,held,L⟩ a n c,.int .i64 now] w (fun e w'=>e=.returned (.int .i64 (roomP ⟨2,l,d,b,cc,o⟩ ⟨at_,level,held,L⟩ now))∧Below w.heap.size w w'):=by
  rw[show roomP ⟨2,l,d,b,cc,o⟩ ⟨at_,level,held,L⟩ now=roomG ⟨2,l,d,b,cc,o⟩ ⟨at_,level,held,L⟩ now by unfold roomP;simp]
  have hc:=fun w (hw:LogAt w a n c L)=>r5room_any ⟨2,l,d,b,cc,o⟩ ⟨at_,level,held,L⟩ a n c now w hw
  generalize roomG ⟨2,l,d,b,cc,o⟩ ⟨at_,level,held,L⟩ now=R at *
  have hl0:=log_lt hl
  unfold St.v Pol.v at *
  (try dsimp only at *)
  have HC:=Go.Lib.hid hc
  clear hc
  have HL:=Go.Lib.hid hl
  clear hl
  go_enter Tryz.func66,Tryz.ntmps66
  go_wp2_with go_step3
  refine(HC.out _ (log_bl HL.out (bl_alloc (bl_alloc (bl_refl _) _) _))).mono ?_
  rintro e w1 ⟨rfl,hb⟩
  have hx:Below w.heap.size w w1:=bl_then (bl_alloc (bl_alloc (bl_refl _) _) _) hb
  have hsz1:w.heap.size+2≤w1.heap.size:=szl hb
  have hB:Below w.heap.size w w1:=hx
  clear hb hx
  go_wp2_with go_step3
  go_ret
  exact⟨rfl,hB⟩
theorem r8room_3 (l d b cc:Int) (o:Bool) (at_ level held:Int) (L:List (Int × Int)) (a:Option Addr) (n c:Nat) (now:Int) (w:World) (hl:LogAt w a n c L):Calls Tryz.prog 66 #[Pol.v ⟨3,l,d,b,cc,o⟩,St.v ⟨at_,level,held,L⟩ a n c,.int .i64 now] w (fun e w'=>e=.returned (.int .i64 (roomP ⟨3,l,d,b,cc,o⟩ ⟨at_,level,held,L⟩ now))∧Below w.heap.size w w'):=by
  rw[show roomP ⟨3,l,d,b,cc,o⟩ ⟨at_,level,held,L⟩ now=roomL ⟨3,l,d,b,cc,o⟩ ⟨at_,level,held,L⟩ now by unfold roomP;simp]
  have hc:=fun w (hw:LogAt w a n c L)=>r6room_any ⟨3,l,d,b,cc,o⟩ ⟨at_,level,held,L⟩ a n c now w hw
  generalize roomL ⟨3,l,d,b,cc,o⟩ ⟨at_,level,held,L⟩ now=R at *
  have hl0:=log_lt hl
  unfold St.v Pol.v at *
  (try dsimp only at *)
  have HC:=Go.Lib.hid hc
  clear hc
  have HL:=Go.Lib.hid hl
  clear hl
  go_enter Tryz.func66,Tryz.ntmps66
  go_wp2_with go_step3
  refine(HC.out _ (log_bl HL.out (bl_alloc (bl_alloc (bl_refl _) _) _))).mono ?_
  rintro e w1 ⟨rfl,hb⟩
  have hx:Below w.heap.size w w1:=bl_then (bl_alloc (bl_alloc (bl_refl _) _) _) hb
  have hsz1:w.heap.size+2≤w1.heap.size:=szl hb
  have hB:Below w.heap.size w w1:=hx
  clear hb hx
  go_wp2_with go_step3
  go_ret
  exact⟨rfl,hB⟩
theorem r8room_4 (l d b cc:Int) (o:Bool) (at_ level held:Int) (L:List (Int × Int)) (a:Option Addr) (n c:Nat) (now:Int) (w:World) (hl:LogAt w a n c L):Calls Tryz.prog 66 #[Pol.v ⟨4,l,d,b,cc,o⟩,St.v ⟨at_,level,held,L⟩ a n c,.int .i64 now] w (fun e w'=>e=.returned (.int .i64 (roomP ⟨4,l,d,b,cc,o⟩ ⟨at_,level,held,L⟩ now))∧Below w.heap.size w w'):=by
  rw[show roomP ⟨4,l,d,b,cc,o⟩ ⟨at_,level,held,L⟩ now=roomC ⟨4,l,d,b,cc,o⟩ ⟨at_,level,held,L⟩ now by unfold roomP;simp]
  have hc:=fun w (hw:LogAt w a n c L)=>r7room_any ⟨4,l,d,b,cc,o⟩ ⟨at_,level,held,L⟩ a n c now w hw
  generalize roomC ⟨4,l,d,b,cc,o⟩ ⟨at_,level,held,L⟩ now=R at *
  have hl0:=log_lt hl
  unfold St.v Pol.v at *
  (try dsimp only at *)
  have HC:=Go.Lib.hid hc
  clear hc
  have HL:=Go.Lib.hid hl
  clear hl
  go_enter Tryz.func66,Tryz.ntmps66
  go_wp2_with go_step3
  refine(HC.out _ (log_bl HL.out (bl_alloc (bl_alloc (bl_refl _) _) _))).mono ?_
  rintro e w1 ⟨rfl,hb⟩
  have hx:Below w.heap.size w w1:=bl_then (bl_alloc (bl_alloc (bl_refl _) _) _) hb
  have hsz1:w.heap.size+2≤w1.heap.size:=szl hb
  have hB:Below w.heap.size w w1:=hx
  clear hb hx
  go_wp2_with go_step3
  go_ret
  exact⟨rfl,hB⟩
theorem r8room_0 (k l d b cc:Int) (o:Bool) (at_ level held:Int) (L:List (Int × Int)) (a:Option Addr) (n c:Nat) (now:Int) (w:World) (hl:LogAt w a n c L) (k1:¬ k=1) (k2:¬ k=2) (k3:¬ k=3) (k4:¬ k=4):Calls Tryz.prog 66 #[Pol.v ⟨k,l,d,b,cc,o⟩,St.v ⟨at_,level,held,L⟩ a n c,.int .i64 now] w (fun e w'=>e=.returned (.int .i64 (roomP ⟨k,l,d,b,cc,o⟩ ⟨at_,level,held,L⟩ now))∧Below w.heap.size w w'):=by
  rw[show roomP ⟨k,l,d,b,cc,o⟩ ⟨at_,level,held,L⟩ now=0 by unfold roomP roomB rightB okB;simp[k1,k2,k3,k4]]
  unfold St.v Pol.v at *
  (try unfold St.none at *)
  (try dsimp only at *)
  clear hl
  go_enter Tryz.func66,Tryz.ntmps66
  go_wp2_with go_step3
  go_ret
  exact⟨rfl,bl_alloc (bl_alloc (bl_refl _) _) _⟩
theorem r8room_any (p:Pol) (s:St) (a:Option Addr) (n c:Nat) (now:Int) (w:World) (hl:LogAt w a n c s.log):Calls Tryz.prog 66 #[p.v,s.v a n c,.int .i64 now] w (fun e w'=>e=.returned (.int .i64 (roomP p s now))∧Below w.heap.size w w'):=by
  obtain⟨k,l,d,b,cc,o⟩:=p
  obtain⟨at_,level,held,L⟩:=s
  by_cases k1:k=1
  · subst k1;exact r8room_1 l d b cc o at_ level held L a n c now w hl
  by_cases k2:k=2
  · subst k2;exact r8room_2 l d b cc o at_ level held L a n c now w hl
  by_cases k3:k=3
  · subst k3;exact r8room_3 l d b cc o at_ level held L a n c now w hl
  by_cases k4:k=4
  · subst k4;exact r8room_4 l d b cc o at_ level held L a n c now w hl
  exact r8room_0 k l d b cc o at_ level held L a n c now w hl k1 k2 k3 k4
theorem r8until_1 (l d b cc:Int) (o:Bool) (at_ level held:Int) (L:List (Int × Int)) (a:Option Addr) (n c:Nat) (now:Int) (w:World) (hl:LogAt w a n c L):Calls Tryz.prog 21 #[Pol.v ⟨1,l,d,b,cc,o⟩,St.v ⟨at_,level,held,L⟩ a n c,.int .i64 now] w (fun e w'=>e=.returned (.int .i64 (untilP ⟨1,l,d,b,cc,o⟩ ⟨at_,level,held,L⟩ now))∧Below w.heap.size w w'):=by
  rw[show untilP ⟨1,l,d,b,cc,o⟩ ⟨at_,level,held,L⟩ now=untilB ⟨1,l,d,b,cc,o⟩ ⟨at_,level,held,L⟩ now by unfold untilP;simp]
  have hc:=fun w (hw:LogAt w a n c L)=>r4until_any ⟨1,l,d,b,cc,o⟩ ⟨at_,level,held,L⟩ a n c now w hw
  generalize untilB ⟨1,l,d,b,cc,o⟩ ⟨at_,level,held,L⟩ now=R at *
  have hl0:=log_lt hl
  unfold St.v Pol.v at *
  (try dsimp only at *)
  have HC:=Go.Lib.hid hc
  clear hc
  have HL:=Go.Lib.hid hl
  clear hl
  go_enter Tryz.func21,Tryz.ntmps21
  go_wp2_with go_step3
  refine(HC.out _ (log_bl HL.out (bl_alloc (bl_alloc (bl_refl _) _) _))).mono ?_
  rintro e w1 ⟨rfl,hb⟩
  have hx:Below w.heap.size w w1:=bl_then (bl_alloc (bl_alloc (bl_refl _) _) _) hb
  have hsz1:w.heap.size+2≤w1.heap.size:=szl hb
  have hB:Below w.heap.size w w1:=hx
  clear hb hx
  go_wp2_with go_step3
  go_ret
  exact⟨rfl,hB⟩
theorem r8until_2 (l d b cc:Int) (o:Bool) (at_ level held:Int) (L:List (Int × Int)) (a:Option Addr) (n c:Nat) (now:Int) (w:World) (hl:LogAt w a n c L):Calls Tryz.prog 21 #[Pol.v ⟨2,l,d,b,cc,o⟩,St.v ⟨at_,level,held,L⟩ a n c,.int .i64 now] w (fun e w'=>e=.returned (.int .i64 (untilP ⟨2,l,d,b,cc,o⟩ ⟨at_,level,held,L⟩ now))∧Below w.heap.size w w'):=by
  rw[show untilP ⟨2,l,d,b,cc,o⟩ ⟨at_,level,held,L⟩ now=untilG ⟨2,l,d,b,cc,o⟩ ⟨at_,level,held,L⟩ now by unfold untilP;simp]
  have hc:=fun w (hw:LogAt w a n c L)=>r5until_any ⟨2,l,d,b,cc,o⟩ ⟨at_,level,held,L⟩ a n c now w hw
  generalize untilG ⟨2,l,d,b,cc,o⟩ ⟨at_,level,held,L⟩ now=R at *
  have hl0:=log_lt hl
  unfold St.v Pol.v at *
  (try dsimp only at *)
  have HC:=Go.Lib.hid hc
  clear hc
  have HL:=Go.Lib.hid hl
  clear hl
  go_enter Tryz.func21,Tryz.ntmps21
  go_wp2_with go_step3
  refine(HC.out _ (log_bl HL.out (bl_alloc (bl_alloc (bl_refl _) _) _))).mono ?_
  rintro e w1 ⟨rfl,hb⟩
  have hx:Below w.heap.size w w1:=bl_then (bl_alloc (bl_alloc (bl_refl _) _) _) hb
  have hsz1:w.heap.size+2≤w1.heap.size:=szl hb
  have hB:Below w.heap.size w w1:=hx
  clear hb hx
  go_wp2_with go_step3
  go_ret
  exact⟨rfl,hB⟩
theorem r8until_3 (l d b cc:Int) (o:Bool) (at_ level held:Int) (L:List (Int × Int)) (a:Option Addr) (n c:Nat) (now:Int) (w:World) (hl:LogAt w a n c L):Calls Tryz.prog 21 #[Pol.v ⟨3,l,d,b,cc,o⟩,St.v ⟨at_,level,held,L⟩ a n c,.int .i64 now] w (fun e w'=>e=.returned (.int .i64 (untilP ⟨3,l,d,b,cc,o⟩ ⟨at_,level,held,L⟩ now))∧Below w.heap.size w w'):=by
  rw[show untilP ⟨3,l,d,b,cc,o⟩ ⟨at_,level,held,L⟩ now=untilL ⟨3,l,d,b,cc,o⟩ ⟨at_,level,held,L⟩ now by unfold untilP;simp]
  have hc:=fun w (hw:LogAt w a n c L)=>r6until_any ⟨3,l,d,b,cc,o⟩ ⟨at_,level,held,L⟩ a n c now w hw
  generalize untilL ⟨3,l,d,b,cc,o⟩ ⟨at_,level,held,L⟩ now=R at *
  have hl0:=log_lt hl
  unfold St.v Pol.v at *
  (try dsimp only at *)
  have HC:=Go.Lib.hid hc
  clear hc
  have HL:=Go.Lib.hid hl
  clear hl
  go_enter Tryz.func21,Tryz.ntmps21
  go_wp2_with go_step3
  refine(HC.out _ (log_bl HL.out (bl_alloc (bl_alloc (bl_refl _) _) _))).mono ?_
  rintro e w1 ⟨rfl,hb⟩
  have hx:Below w.heap.size w w1:=bl_then (bl_alloc (bl_alloc (bl_refl _) _) _) hb
  have hsz1:w.heap.size+2≤w1.heap.size:=szl hb
  have hB:Below w.heap.size w w1:=hx
  clear hb hx
  go_wp2_with go_step3
  go_ret
  exact⟨rfl,hB⟩
theorem r8until_4 (l d b cc:Int) (o:Bool) (at_ level held:Int) (L:List (Int × Int)) (a:Option Addr) (n c:Nat) (now:Int) (w:World) (hl:LogAt w a n c L):Calls Tryz.prog 21 #[Pol.v ⟨4,l,d,b,cc,o⟩,St.v ⟨at_,level,held,L⟩ a n c,.int .i64 now] w (fun e w'=>e=.returned (.int .i64 (untilP ⟨4,l,d,b,cc,o⟩ ⟨at_,level,held,L⟩ now))∧Below w.heap.size w w'):=by
  rw[show untilP ⟨4,l,d,b,cc,o⟩ ⟨at_,level,held,L⟩ now=untilC ⟨4,l,d,b,cc,o⟩ ⟨at_,level,held,L⟩ now by unfold untilP;simp]
  have hc:=fun w (hw:LogAt w a n c L)=>r7until_any ⟨4,l,d,b,cc,o⟩ ⟨at_,level,held,L⟩ a n c now w hw
  generalize untilC ⟨4,l,d,b,cc,o⟩ ⟨at_,level,held,L⟩ now=R at *
  have hl0:=log_lt hl
  unfold St.v Pol.v at *
  (try dsimp only at *)
  have HC:=Go.Lib.hid hc
  clear hc
  have HL:=Go.Lib.hid hl
  clear hl
  go_enter Tryz.func21,Tryz.ntmps21
  go_wp2_with go_step3
  refine(HC.out _ (log_bl HL.out (bl_alloc (bl_alloc (bl_refl _) _) _))).mono ?_
  rintro e w1 ⟨rfl,hb⟩
  have hx:Below w.heap.size w w1:=bl_then (bl_alloc (bl_alloc (bl_refl _) _) _) hb
  have hsz1:w.heap.size+2≤w1.heap.size:=szl hb
  have hB:Below w.heap.size w w1:=hx
  clear hb hx
  go_wp2_with go_step3
  go_ret
  exact⟨rfl,hB⟩
theorem r8until_0 (k l d b cc:Int) (o:Bool) (at_ level held:Int) (L:List (Int × Int)) (a:Option Addr) (n c:Nat) (now:Int) (w:World) (hl:LogAt w a n c L) (k1:¬ k=1) (k2:¬ k=2) (k3:¬ k=3) (k4:¬ k=4):Calls Tryz.prog 21 #[Pol.v ⟨k,l,d,b,cc,o⟩,St.v ⟨at_,level,held,L⟩ a n c,.int .i64 now] w (fun e w'=>e=.returned (.int .i64 (untilP ⟨k,l,d,b,cc,o⟩ ⟨at_,level,held,L⟩ now))∧Below w.heap.size w w'):=by
  rw[show untilP ⟨k,l,d,b,cc,o⟩ ⟨at_,level,held,L⟩ now = -1 by unfold untilP untilB rightB okB;simp[k1,k2,k3,k4]]
  unfold St.v Pol.v at *
  (try unfold St.none at *)
  (try dsimp only at *)
  clear hl
  go_enter Tryz.func21,Tryz.ntmps21
  go_wp2_with go_step3
  go_ret
  exact⟨rfl,bl_alloc (bl_alloc (bl_refl _) _) _⟩
theorem r8until_any (p:Pol) (s:St) (a:Option Addr) (n c:Nat) (now:Int) (w:World) (hl:LogAt w a n c s.log):Calls Tryz.prog 21 #[p.v,s.v a n c,.int .i64 now] w (fun e w'=>e=.returned (.int .i64 (untilP p s now))∧Below w.heap.size w w'):=by
  obtain⟨k,l,d,b,cc,o⟩:=p
  obtain⟨at_,level,held,L⟩:=s
  by_cases k1:k=1
  · subst k1;exact r8until_1 l d b cc o at_ level held L a n c now w hl
  by_cases k2:k=2
  · subst k2;exact r8until_2 l d b cc o at_ level held L a n c now w hl
  by_cases k3:k=3
  · subst k3;exact r8until_3 l d b cc o at_ level held L a n c now w hl
  by_cases k4:k=4
  · subst k4;exact r8until_4 l d b cc o at_ level held L a n c now w hl
  exact r8until_0 k l d b cc o at_ level held L a n c now w hl k1 k2 k3 k4
theorem r8retry_1 (l d b cc:Int) (o:Bool) (at_ level held:Int) (L:List (Int × Int)) (a:Option Addr) (n c:Nat) (now cost:Int) (w:World) (hl:LogAt w a n c L):Calls Tryz.prog 62 #[Pol.v ⟨1,l,d,b,cc,o⟩,St.v ⟨at_,level,held,L⟩ a n c,.int .i64 now,.int .i64 cost] w (fun e w'=>e=.returned (.tuple #[.int .i64 (retryP ⟨1,l,d,b,cc,o⟩ ⟨at_,level,held,L⟩ now cost).1,.bool (retryP ⟨1,l,d,b,cc,o⟩ ⟨at_,level,held,L⟩ now cost).2])∧Below w.heap.size w w'):=by
  rw[show retryP ⟨1,l,d,b,cc,o⟩ ⟨at_,level,held,L⟩ now cost=retryB ⟨1,l,d,b,cc,o⟩ ⟨at_,level,held,L⟩ now cost by unfold retryP;simp]
  have hc:=fun w (hw:LogAt w a n c L)=>r4retry_any ⟨1,l,d,b,cc,o⟩ ⟨at_,level,held,L⟩ a n c now cost w hw
  generalize retryB ⟨1,l,d,b,cc,o⟩ ⟨at_,level,held,L⟩ now cost=R at *
  obtain⟨rn,rok⟩:=R
  have hl0:=log_lt hl
  unfold St.v Pol.v at *
  (try dsimp only at *)
  have HC:=Go.Lib.hid hc
  clear hc
  have HL:=Go.Lib.hid hl
  clear hl
  go_enter Tryz.func62,Tryz.ntmps62
  go_wp2_with go_step3
  refine(HC.out _ (log_bl HL.out (bl_alloc (bl_alloc (bl_refl _) _) _))).mono ?_
  rintro e w1 ⟨rfl,hb⟩
  have hx:Below w.heap.size w w1:=bl_then (bl_alloc (bl_alloc (bl_refl _) _) _) hb
  have hsz1:w.heap.size+2≤w1.heap.size:=szl hb
  have hB:Below w.heap.size w w1:=hx
  clear hb hx
  go_wp2_with go_step3
  go_ret2
  exact⟨rfl,hB⟩
theorem r8retry_2 (l d b cc:Int) (o:Bool) (at_ level held:Int) (L:List (Int × Int)) (a:Option Addr) (n c:Nat) (now cost:Int) (w:World) (hl:LogAt w a n c L):Calls Tryz.prog 62 #[Pol.v ⟨2,l,d,b,cc,o⟩,St.v ⟨at_,level,held,L⟩ a n c,.int .i64 now,.int .i64 cost] w (fun e w'=>e=.returned (.tuple #[.int .i64 (retryP ⟨2,l,d,b,cc,o⟩ ⟨at_,level,held,L⟩ now cost).1,.bool (retryP ⟨2,l,d,b,cc,o⟩ ⟨at_,level,held,L⟩ now cost).2])∧Below w.heap.size w w'):=by
  rw[show retryP ⟨2,l,d,b,cc,o⟩ ⟨at_,level,held,L⟩ now cost=retryG ⟨2,l,d,b,cc,o⟩ ⟨at_,level,held,L⟩ now cost by unfold retryP;simp]
  have hc:=fun w (hw:LogAt w a n c L)=>r5retry_any ⟨2,l,d,b,cc,o⟩ ⟨at_,level,held,L⟩ a n c now cost w hw
  generalize retryG ⟨2,l,d,b,cc,o⟩ ⟨at_,level,held,L⟩ now cost=R at *
  obtain⟨rn,rok⟩:=R
  have hl0:=log_lt hl
  unfold St.v Pol.v at *
  (try dsimp only at *)
  have HC:=Go.Lib.hid hc
  clear hc
  have HL:=Go.Lib.hid hl
  clear hl
  go_enter Tryz.func62,Tryz.ntmps62
  go_wp2_with go_step3
  refine(HC.out _ (log_bl HL.out (bl_alloc (bl_alloc (bl_refl _) _) _))).mono ?_
  rintro e w1 ⟨rfl,hb⟩
  have hx:Below w.heap.size w w1:=bl_then (bl_alloc (bl_alloc (bl_refl _) _) _) hb
  have hsz1:w.heap.size+2≤w1.heap.size:=szl hb
  have hB:Below w.heap.size w w1:=hx
  clear hb hx
  go_wp2_with go_step3
  go_ret2
  exact⟨rfl,hB⟩
theorem r8retry_3 (l d b cc:Int) (o:Bool) (at_ level held:Int) (L:List (Int × Int)) (a:Option Addr) (n c:Nat) (now cost:Int) (w:World) (hl:LogAt w a n c L):Calls Tryz.prog 62 #[Pol.v ⟨3,l,d,b,cc,o⟩,St.v ⟨at_,level,held,L⟩ a n c,.int .i64 now,.int .i64 cost] w (fun e w'=>e=.returned (.tuple #[.int .i64 (retryP ⟨3,l,d,b,cc,o⟩ ⟨at_,level,held,L⟩ now cost).1,.bool (retryP ⟨3,l,d,b,cc,o⟩ ⟨at_,level,held,L⟩ now cost).2])∧Below w.heap.size w w'):=by
  rw[show retryP ⟨3,l,d,b,cc,o⟩ ⟨at_,level,held,L⟩ now cost=retryL ⟨3,l,d,b,cc,o⟩ ⟨at_,level,held,L⟩ now cost by unfold retryP;simp]
  have hc:=fun w (hw:LogAt w a n c L)=>r6retry_any ⟨3,l,d,b,cc,o⟩ ⟨at_,level,held,L⟩ a n c now cost w hw
  generalize retryL ⟨3,l,d,b,cc,o⟩ ⟨at_,level,held,L⟩ now cost=R at *
  obtain⟨rn,rok⟩:=R
  have hl0:=log_lt hl
  unfold St.v Pol.v at *
  (try dsimp only at *)
  have HC:=Go.Lib.hid hc
  clear hc
  have HL:=Go.Lib.hid hl
  clear hl
  go_enter Tryz.func62,Tryz.ntmps62
  go_wp2_with go_step3
  refine(HC.out _ (log_bl HL.out (bl_alloc (bl_alloc (bl_refl _) _) _))).mono ?_
  rintro e w1 ⟨rfl,hb⟩
  have hx:Below w.heap.size w w1:=bl_then (bl_alloc (bl_alloc (bl_refl _) _) _) hb
  have hsz1:w.heap.size+2≤w1.heap.size:=szl hb
  have hB:Below w.heap.size w w1:=hx
  clear hb hx
  go_wp2_with go_step3
  go_ret2
  exact⟨rfl,hB⟩
theorem r8retry_4 (l d b cc:Int) (o:Bool) (at_ level held:Int) (L:List (Int × Int)) (a:Option Addr) (n c:Nat) (now cost:Int) (w:World) (hl:LogAt w a n c L):Calls Tryz.prog 62 #[Pol.v ⟨4,l,d,b,cc,o⟩,St.v ⟨at_,level,held,L⟩ a n c,.int .i64 now,.int .i64 cost] w (fun e w'=>e=.returned (.tuple #[.int .i64 (retryP ⟨4,l,d,b,cc,o⟩ ⟨at_,level,held,L⟩ now cost).1,.bool (retryP ⟨4,l,d,b,cc,o⟩ ⟨at_,level,held,L⟩ now cost).2])∧Below w.heap.size w w'):=by
  rw[show retryP ⟨4,l,d,b,cc,o⟩ ⟨at_,level,held,L⟩ now cost=retryC ⟨4,l,d,b,cc,o⟩ ⟨at_,level,held,L⟩ now cost by unfold retryP;simp]
  have hc:=fun w (hw:LogAt w a n c L)=>r7retry_any ⟨4,l,d,b,cc,o⟩ ⟨at_,level,held,L⟩ a n c now cost w hw
  generalize retryC ⟨4,l,d,b,cc,o⟩ ⟨at_,level,held,L⟩ now cost=R at *
  obtain⟨rn,rok⟩:=R
  have hl0:=log_lt hl
  unfold St.v Pol.v at *
  (try dsimp only at *)
  have HC:=Go.Lib.hid hc
  clear hc
  have HL:=Go.Lib.hid hl
  clear hl
  go_enter Tryz.func62,Tryz.ntmps62
  go_wp2_with go_step3
  refine(HC.out _ (log_bl HL.out (bl_alloc (bl_alloc (bl_refl _) _) _))).mono ?_
  rintro e w1 ⟨rfl,hb⟩
  have hx:Below w.heap.size w w1:=bl_then (bl_alloc (bl_alloc (bl_refl _) _) _) hb
  have hsz1:w.heap.size+2≤w1.heap.size:=szl hb
  have hB:Below w.heap.size w w1:=hx
  clear hb hx
  go_wp2_with go_step3
  go_ret2
  exact⟨rfl,hB⟩
theorem r8retry_0 (k l d b cc:Int) (o:Bool) (at_ level held:Int) (L:List (Int × Int)) (a:Option Addr) (n c:Nat) (now cost:Int) (w:World) (hl:LogAt w a n c L) (k1:¬ k=1) (k2:¬ k=2) (k3:¬ k=3) (k4:¬ k=4):Calls Tryz.prog 62 #[Pol.v ⟨k,l,d,b,cc,o⟩,St.v ⟨at_,level,held,L⟩ a n c,.int .i64 now,.int .i64 cost] w (fun e w'=>e=.returned (.tuple #[.int .i64 (retryP ⟨k,l,d,b,cc,o⟩ ⟨at_,level,held,L⟩ now cost).1,.bool (retryP ⟨k,l,d,b,cc,o⟩ ⟨at_,level,held,L⟩ now cost).2])∧Below w.heap.size w w'):=by
  rw[show retryP ⟨k,l,d,b,cc,o⟩ ⟨at_,level,held,L⟩ now cost=(0,false) by unfold retryP retryB rightB okB;simp[k1,k2,k3,k4]]
  unfold St.v Pol.v at *
  (try unfold St.none at *)
  (try dsimp only at *)
  clear hl
  go_enter Tryz.func62,Tryz.ntmps62
  go_wp2_with go_step3
  go_ret2
  exact⟨rfl,bl_alloc (bl_alloc (bl_refl _) _) _⟩
theorem r8retry_any (p:Pol) (s:St) (a:Option Addr) (n c:Nat) (now cost:Int) (w:World) (hl:LogAt w a n c s.log):Calls Tryz.prog 62 #[p.v,s.v a n c,.int .i64 now,.int .i64 cost] w (fun e w'=>e=.returned (.tuple #[.int .i64 (retryP p s now cost).1,.bool (retryP p s now cost).2])∧Below w.heap.size w w'):=by
  obtain⟨k,l,d,b,cc,o⟩:=p
  obtain⟨at_,level,held,L⟩:=s
  by_cases k1:k=1
  · subst k1;exact r8retry_1 l d b cc o at_ level held L a n c now cost w hl
  by_cases k2:k=2
  · subst k2;exact r8retry_2 l d b cc o at_ level held L a n c now cost w hl
  by_cases k3:k=3
  · subst k3;exact r8retry_3 l d b cc o at_ level held L a n c now cost w hl
  by_cases k4:k=4
  · subst k4;exact r8retry_4 l d b cc o at_ level held L a n c now cost w hl
  exact r8retry_0 k l d b cc o at_ level held L a n c now cost w hl k1 k2 k3 k4
theorem r8do_1 (l d b cc:Int) (o:Bool) (at_ level held:Int) (L:List (Int × Int)) (a:Option Addr) (n c:Nat) (ak now cost:Int) (w:World) (hl:LogAt w a n c L):Calls Tryz.prog 28 #[Pol.v ⟨1,l,d,b,cc,o⟩,St.v ⟨at_,level,held,L⟩ a n c,Ac.v ⟨ak,now,cost⟩] w (PostSB a n (doP ⟨1,l,d,b,cc,o⟩ ⟨at_,level,held,L⟩ ⟨ak,now,cost⟩) w):=by
  rw[show doP ⟨1,l,d,b,cc,o⟩ ⟨at_,level,held,L⟩ ⟨ak,now,cost⟩=doB ⟨1,l,d,b,cc,o⟩ ⟨at_,level,held,L⟩ ⟨ak,now,cost⟩ by unfold doP;simp]
  have hc:=fun w (hw:LogAt w a n c L)=>r4do_any ⟨1,l,d,b,cc,o⟩ ⟨at_,level,held,L⟩ a n c ⟨ak,now,cost⟩ w hw
  unfold PostSB at hc
  generalize doB ⟨1,l,d,b,cc,o⟩ ⟨at_,level,held,L⟩ ⟨ak,now,cost⟩=R at *
  obtain⟨⟨rat,rlv,rhd,rL⟩,rok⟩:=R
  have hl0:=log_lt hl
  unfold Ac.v St.v Pol.v at *
  (try dsimp only at *)
  have HC:=Go.Lib.hid hc
  clear hc
  have HL:=Go.Lib.hid hl
  clear hl
  go_enter Tryz.func28,Tryz.ntmps28
  go_wp2_with go_step3
  refine(HC.out _ (log_bl HL.out (bl_alloc (bl_alloc (bl_alloc (bl_alloc (bl_refl _) _) _) _) _))).mono ?_
  rintro e w1 ⟨a1,n1,c1,rfl,hl1,hs1,hb⟩
  have hx:Below w.heap.size w w1:=bl_then (bl_alloc (bl_alloc (bl_alloc (bl_alloc (bl_refl _) _) _) _) _) hb
  have hsz1:w.heap.size+4≤w1.heap.size:=szl hb
  have rR:=res_bl (b:=w.heap.size+1+1+1) (res_new _ _ _ _ _ _ (by simp)) hb
  have hB:Below w.heap.size w w1:=hx
  clear hb hx
  have hne1:=src_far (b:=w.heap.size+1+1+1) HL.out hs1 (by omega) (by simp)
  replace hs1:=src_out hs1 (show w.heap.size≤_ by simp;omega)
  obtain⟨f0,f1,f2,f3,u0,u1,u2,u3,i0,i1,i2,i3⟩:=res_all rR
  go_wp2_with go_step3
  (try simp only[Exit.inBlock,Exit.then,Exit.noGoto_ret])
  refine bodyPost_ret (results_state2 rfl _ _ (by rfl) (set4r rR)) rfl (sb_log (log_set4b hl1 hne1) hs1 (bl4 hB (by omega)))
theorem r8do_2 (l d b cc:Int) (o:Bool) (at_ level held:Int) (L:List (Int × Int)) (a:Option Addr) (n c:Nat) (ak now cost:Int) (w:World) (hl:LogAt w a n c L):Calls Tryz.prog 28 #[Pol.v ⟨2,l,d,b,cc,o⟩,St.v ⟨at_,level,held,L⟩ a n c,Ac.v ⟨ak,now,cost⟩] w (PostSB a n (doP ⟨2,l,d,b,cc,o⟩ ⟨at_,level,held,L⟩ ⟨ak,now,cost⟩) w):=by
  rw[show doP ⟨2,l,d,b,cc,o⟩ ⟨at_,level,held,L⟩ ⟨ak,now,cost⟩=doG ⟨2,l,d,b,cc,o⟩ ⟨at_,level,held,L⟩ ⟨ak,now,cost⟩ by unfold doP;simp]
  have hc:=fun w (hw:LogAt w a n c L)=>r5do_any ⟨2,l,d,b,cc,o⟩ ⟨at_,level,held,L⟩ a n c ⟨ak,now,cost⟩ w hw
  unfold PostSB at hc
  generalize doG ⟨2,l,d,b,cc,o⟩ ⟨at_,level,held,L⟩ ⟨ak,now,cost⟩=R at *
  obtain⟨⟨rat,rlv,rhd,rL⟩,rok⟩:=R
  have hl0:=log_lt hl
  unfold Ac.v St.v Pol.v at *
  (try dsimp only at *)
  have HC:=Go.Lib.hid hc
  clear hc
  have HL:=Go.Lib.hid hl
  clear hl
  go_enter Tryz.func28,Tryz.ntmps28
  go_wp2_with go_step3
  refine(HC.out _ (log_bl HL.out (bl_alloc (bl_alloc (bl_alloc (bl_alloc (bl_refl _) _) _) _) _))).mono ?_
  rintro e w1 ⟨a1,n1,c1,rfl,hl1,hs1,hb⟩
  have hx:Below w.heap.size w w1:=bl_then (bl_alloc (bl_alloc (bl_alloc (bl_alloc (bl_refl _) _) _) _) _) hb
  have hsz1:w.heap.size+4≤w1.heap.size:=szl hb
  have rR:=res_bl (b:=w.heap.size+1+1+1) (res_new _ _ _ _ _ _ (by simp)) hb
  have hB:Below w.heap.size w w1:=hx
  clear hb hx
  have hne1:=src_far (b:=w.heap.size+1+1+1) HL.out hs1 (by omega) (by simp)
  replace hs1:=src_out hs1 (show w.heap.size≤_ by simp;omega)
  obtain⟨f0,f1,f2,f3,u0,u1,u2,u3,i0,i1,i2,i3⟩:=res_all rR
  go_wp2_with go_step3
  (try simp only[Exit.inBlock,Exit.then,Exit.noGoto_ret])
  refine bodyPost_ret (results_state2 rfl _ _ (by rfl) (set4r rR)) rfl (sb_log (log_set4b hl1 hne1) hs1 (bl4 hB (by omega)))
theorem r8do_3 (l d b cc:Int) (o:Bool) (at_ level held:Int) (L:List (Int × Int)) (a:Option Addr) (n c:Nat) (ak now cost:Int) (w:World) (hl:LogAt w a n c L):Calls Tryz.prog 28 #[Pol.v ⟨3,l,d,b,cc,o⟩,St.v ⟨at_,level,held,L⟩ a n c,Ac.v ⟨ak,now,cost⟩] w (PostSB a n (doP ⟨3,l,d,b,cc,o⟩ ⟨at_,level,held,L⟩ ⟨ak,now,cost⟩) w):=by
  rw[show doP ⟨3,l,d,b,cc,o⟩ ⟨at_,level,held,L⟩ ⟨ak,now,cost⟩=doL ⟨3,l,d,b,cc,o⟩ ⟨at_,level,held,L⟩ ⟨ak,now,cost⟩ by unfold doP;simp]
  have hc:=fun w (hw:LogAt w a n c L)=>r6do_any ⟨3,l,d,b,cc,o⟩ ⟨at_,level,held,L⟩ a n c ⟨ak,now,cost⟩ w hw
  unfold PostSB at hc
  generalize doL ⟨3,l,d,b,cc,o⟩ ⟨at_,level,held,L⟩ ⟨ak,now,cost⟩=R at *
  obtain⟨⟨rat,rlv,rhd,rL⟩,rok⟩:=R
  have hl0:=log_lt hl
  unfold Ac.v St.v Pol.v at *
  (try dsimp only at *)
  have HC:=Go.Lib.hid hc
  clear hc
  have HL:=Go.Lib.hid hl
  clear hl
  go_enter Tryz.func28,Tryz.ntmps28
  go_wp2_with go_step3
  refine(HC.out _ (log_bl HL.out (bl_alloc (bl_alloc (bl_alloc (bl_alloc (bl_refl _) _) _) _) _))).mono ?_
  rintro e w1 ⟨a1,n1,c1,rfl,hl1,hs1,hb⟩
  have hx:Below w.heap.size w w1:=bl_then (bl_alloc (bl_alloc (bl_alloc (bl_alloc (bl_refl _) _) _) _) _) hb
  have hsz1:w.heap.size+4≤w1.heap.size:=szl hb
  have rR:=res_bl (b:=w.heap.size+1+1+1) (res_new _ _ _ _ _ _ (by simp)) hb
  have hB:Below w.heap.size w w1:=hx
  clear hb hx
  have hne1:=src_far (b:=w.heap.size+1+1+1) HL.out hs1 (by omega) (by simp)
  replace hs1:=src_out hs1 (show w.heap.size≤_ by simp;omega)
  obtain⟨f0,f1,f2,f3,u0,u1,u2,u3,i0,i1,i2,i3⟩:=res_all rR
  go_wp2_with go_step3
  (try simp only[Exit.inBlock,Exit.then,Exit.noGoto_ret])
  refine bodyPost_ret (results_state2 rfl _ _ (by rfl) (set4r rR)) rfl (sb_log (log_set4b hl1 hne1) hs1 (bl4 hB (by omega)))
theorem r8do_4 (l d b cc:Int) (o:Bool) (at_ level held:Int) (L:List (Int × Int)) (a:Option Addr) (n c:Nat) (ak now cost:Int) (w:World) (hl:LogAt w a n c L):Calls Tryz.prog 28 #[Pol.v ⟨4,l,d,b,cc,o⟩,St.v ⟨at_,level,held,L⟩ a n c,Ac.v ⟨ak,now,cost⟩] w (PostSB a n (doP ⟨4,l,d,b,cc,o⟩ ⟨at_,level,held,L⟩ ⟨ak,now,cost⟩) w):=by
  rw[show doP ⟨4,l,d,b,cc,o⟩ ⟨at_,level,held,L⟩ ⟨ak,now,cost⟩=doC ⟨4,l,d,b,cc,o⟩ ⟨at_,level,held,L⟩ ⟨ak,now,cost⟩ by unfold doP;simp]
  have hc:=fun w (hw:LogAt w a n c L)=>r7do_any ⟨4,l,d,b,cc,o⟩ ⟨at_,level,held,L⟩ a n c ⟨ak,now,cost⟩ w hw
  unfold PostSB at hc
  generalize doC ⟨4,l,d,b,cc,o⟩ ⟨at_,level,held,L⟩ ⟨ak,now,cost⟩=R at *
  obtain⟨⟨rat,rlv,rhd,rL⟩,rok⟩:=R
  have hl0:=log_lt hl
  unfold Ac.v St.v Pol.v at *
  (try dsimp only at *)
  have HC:=Go.Lib.hid hc
  clear hc
  have HL:=Go.Lib.hid hl
  clear hl
  go_enter Tryz.func28,Tryz.ntmps28
  go_wp2_with go_step3
  refine(HC.out _ (log_bl HL.out (bl_alloc (bl_alloc (bl_alloc (bl_alloc (bl_refl _) _) _) _) _))).mono ?_
  rintro e w1 ⟨a1,n1,c1,rfl,hl1,hs1,hb⟩
  have hx:Below w.heap.size w w1:=bl_then (bl_alloc (bl_alloc (bl_alloc (bl_alloc (bl_refl _) _) _) _) _) hb
  have hsz1:w.heap.size+4≤w1.heap.size:=szl hb
  have rR:=res_bl (b:=w.heap.size+1+1+1) (res_new _ _ _ _ _ _ (by simp)) hb
  have hB:Below w.heap.size w w1:=hx
  clear hb hx
  have hne1:=src_far (b:=w.heap.size+1+1+1) HL.out hs1 (by omega) (by simp)
  replace hs1:=src_out hs1 (show w.heap.size≤_ by simp;omega)
  obtain⟨f0,f1,f2,f3,u0,u1,u2,u3,i0,i1,i2,i3⟩:=res_all rR
  go_wp2_with go_step3
  (try simp only[Exit.inBlock,Exit.then,Exit.noGoto_ret])
  refine bodyPost_ret (results_state2 rfl _ _ (by rfl) (set4r rR)) rfl (sb_log (log_set4b hl1 hne1) hs1 (bl4 hB (by omega)))
theorem r8do_0 (k l d b cc:Int) (o:Bool) (at_ level held:Int) (L:List (Int × Int)) (a:Option Addr) (n c:Nat) (ak now cost:Int) (w:World) (hl:LogAt w a n c L) (k1:¬ k=1) (k2:¬ k=2) (k3:¬ k=3) (k4:¬ k=4):Calls Tryz.prog 28 #[Pol.v ⟨k,l,d,b,cc,o⟩,St.v ⟨at_,level,held,L⟩ a n c,Ac.v ⟨ak,now,cost⟩] w (PostSB a n (doP ⟨k,l,d,b,cc,o⟩ ⟨at_,level,held,L⟩ ⟨ak,now,cost⟩) w):=by
  rw[show doP ⟨k,l,d,b,cc,o⟩ ⟨at_,level,held,L⟩ ⟨ak,now,cost⟩=(St.none,false) by unfold doP doB rightB okB;simp[k1,k2,k3,k4]]
  refine Calls.mono (R:=fun e w'=>e=.returned (.tuple #[.agg #[.int .i64 0,.int .i64 0,.int .i64 0,.slice none 0 0],.bool false])∧Below w.heap.size w w') ?_ (fun e w' hh=>sb_none hh)
  unfold Ac.v St.v Pol.v at *
  (try unfold St.none at *)
  (try dsimp only at *)
  clear hl
  go_enter Tryz.func28,Tryz.ntmps28
  go_wp2_with go_step3
  (try simp only[Exit.inBlock,Exit.then,Exit.noGoto_ret])
  refine bodyPost_ret (v:=.tuple #[.agg #[.int .i64 0,.int .i64 0,.int .i64 0,.slice none 0 0],.bool false]) (by simp[results,Tryz.results28,go_sem]) rfl ⟨rfl,bl_alloc (bl_alloc (bl_alloc (bl_alloc (bl_refl _) _) _) _) _⟩
theorem r8do_any (p:Pol) (s:St) (a:Option Addr) (n c:Nat) (x:Ac) (w:World) (hl:LogAt w a n c s.log):Calls Tryz.prog 28 #[p.v,s.v a n c,x.v] w (PostSB a n (doP p s x) w):=by
  obtain⟨k,l,d,b,cc,o⟩:=p
  obtain⟨at_,level,held,L⟩:=s
  obtain⟨ak,now,cost⟩:=x
  by_cases k1:k=1
  · subst k1;exact r8do_1 l d b cc o at_ level held L a n c ak now cost w hl
  by_cases k2:k=2
  · subst k2;exact r8do_2 l d b cc o at_ level held L a n c ak now cost w hl
  by_cases k3:k=3
  · subst k3;exact r8do_3 l d b cc o at_ level held L a n c ak now cost w hl
  by_cases k4:k=4
  · subst k4;exact r8do_4 l d b cc o at_ level held L a n c ak now cost w hl
  exact r8do_0 k l d b cc o at_ level held L a n c ak now cost w hl k1 k2 k3 k4
theorem same_yes (s:St) (a1 a2:Option Addr) (n k1 k2:Nat) (w:World) (h1:LogAt w a1 n k1 s.log) (h2:LogAt w a2 n k2 s.log) :
    Calls Tryz.prog 17 #[s.v a1 n k1,s.v a2 n k2] w fun e w'=>e=.returned (.bool true)∧Below w.heap.size w w':=by
  obtain⟨at_,level,held,L⟩:=s
  unfold St.v
  dsimp only at *
  have H1:=Go.Lib.hid h1
  have H2:=Go.Lib.hid h2
  have hnm:(n:Int)≤9223372036854775807:=by have:=h1.2.1;have:=h1.2.2.1;omega
  have hneq:∀ (x y:Int) (w:World),(binOp .neq 82 (.agg #[.int .i64 x,.int .i64 y]) (.agg #[.int .i64 x,.int .i64 y])).run Tryz.prog w=.ok (.bool false) w:=by
    intro x y w
    simp[go_sem,Op.equal]
  clear h1 h2
  go_enter Tryz.func17,Tryz.ntmps17
  go_wp2_with fail
  refine wp_abs (S0:=fun w'=>S4 w' (w.heap.size) at_ level held a1 n k1 (S4 w' (w.heap.size+1) at_ level held a2 n k2 (Below w.heap.size w w'))) ⟨by go_simp,by go_simp,by go_simp,by go_simp,by go_simp,by go_simp,by go_simp,by go_simp,bl_alloc (bl_alloc (bl_refl _) _) _⟩ ?_
  rintro W ⟨c0,c1,c2,c3,c4,c5,c6,c7,hB⟩
  go_loopw [5] (fun s5 wr=>∃ j:Nat,s5=.int .i64 j∧j≤n∧Hid (Below W.heap.size W wr))
    (fun s5 _=>n - (intOf s5).toNat)
  case atStart=>exact⟨0,rfl,Nat.zero_le _,Below.refl _ _⟩
  case round =>
    obtain⟨j,rfl,hj,H⟩:=hrel
    have hb:=H.out
    have d0:=bl_cell hb c0
    have d1:=bl_cell hb c1
    have d2:=bl_cell hb c2
    have d3:=bl_cell hb c3
    have d4:=bl_cell hb c4
    have d5:=bl_cell hb c5
    have d6:=bl_cell hb c6
    have d7:=bl_cell hb c7
    have dB:Below w.heap.size w wr:=hB.trans (hb.mono hB.size)
    by_cases hjn:j<n
    · obtain⟨b1,o1,rfl,p1,p2⟩:=H1.out.2.2.2 j hjn
      obtain⟨b2,o2,rfl,p3,p4⟩:=H2.out.2.2.2 j hjn
      have x1:=bl_cell dB p1
      have x2:=bl_cell dB p2
      have x3:=bl_cell dB p3
      have x4:=bl_cell dB p4
      generalize (L.getD j (0,0)).1=T at x1 x3
      generalize (L.getD j (0,0)).2=C at x2 x4
      have hk0:(0:Int)≤(j:Int):=by omega
      have hk1:(j:Int)<(n:Int):=by omega
      have hj1:j+1≤n:=hjn
      have hms:n - (j+1)<n - j:=by omega
      clear p1 p2 p3 p4 H hB c0 c1 c2 c3 c4 c5 c6 c7
      go_wp2_with fail
      refine wp_region_held_drew (S:=fun w'=>S4 w' (w.heap.size) at_ level held (some ⟨b1,o1,none⟩) n k1 (S4 w' (w.heap.size+1) at_ level held (some ⟨b2,o2,none⟩) n k2 (w'.cell? ⟨b1,o1+j*2,none⟩=some (.int .i64 T)∧w'.cell? ⟨b1,o1+j*2+1,none⟩=some (.int .i64 C)∧w'.cell? ⟨b2,o2+j*2,none⟩=some (.int .i64 T)∧w'.cell? ⟨b2,o2+j*2+1,none⟩=some (.int .i64 C)∧Below w.heap.size w w'))) (by kernel_rfl) ?_ (fun hHeld=>?_)
      · exact⟨d0,d1,d2,d3,d4,d5,d6,d7,x1,x2,x3,x4,bl_drew dB⟩
      try simp only[Act.put,List.setIfInBounds_toArray,List.set_cons_zero,List.set_cons_succ]
      refine tkx 0 ?_
      refine tkx 1 ?_
      refine tkx 2 ?_
      refine tkx 3 ?_
      refine tkx 4 ?_
      refine tkx 5 ?_
      refine tkx 6 ?_
      refine tkx 7 ?_
      refine tkx 8 ?_
      refine tkx 9 ?_
      refine tkx 10 ?_
      refine wpAnyH_done (by kernel_rfl) ?_ _
      clear hHeld
      have hbd:Below W.heap.size W wr.drew:=hb.drew
      go_wp2_with fail
      go_roundw
      case rel=>exact⟨j+1,by go_num,hj1,hbd⟩
      case measure=>(simp[intOf];first|exact hms|omega)
    · have hje:n=j:=by omega
      subst hje
      go_wp2_with fail
      go_ret
      exact⟨rfl,dB⟩
theorem lsame_any (p:Pol) (s:St) (a1 a2:Option Addr) (n c1 c2:Nat) (now cost:Int) (w:World) (h1:LogAt w a1 n c1 s.log) (h2:LogAt w a2 n c2 s.log) :
    Calls Tryz.prog 26 #[p.v,s.v a1 n c1,s.v a2 n c2,.int .i64 now,.int .i64 cost] w fun e w'=>e=.returned (.bool true)∧Below w.heap.size w w':=by
  have hr1:=fun w hw=>lretry_any p s a1 n c1 now cost w hw
  have hr2:=fun w hw=>r8retry_any p s a2 n c2 now cost w hw
  have ha1:=fun w hw=>ladv_any p s a1 n c1 now w hw
  have ha2:=fun w hw=>r8adv_any p s a2 n c2 now w hw
  unfold PostS at ha1 ha2
  have hg1:=fun w hw=>lright_any p s a1 n c1 w hw
  have hg2:=fun w hw=>r8right_any p s a2 n c2 w hw
  have hm1:=fun w hw=>lroom_any p s a1 n c1 now w hw
  have hm2:=fun w hw=>r8room_any p s a2 n c2 now w hw
  have hu1:=fun w hw=>luntil_any p s a1 n c1 now w hw
  have hu2:=fun w hw=>r8until_any p s a2 n c2 now w hw
  have hs1:=fun w h1 h2=>same_yes s a1 a2 n c1 c2 w h1 h2
  have hs2:=fun x1 x2 m d1 d2 w h1 h2=>same_yes (advP p s now) x1 x2 m d1 d2 w h1 h2
  generalize retryP p s now cost=RE at *
  generalize advP p s now=A at *
  generalize rightP p s=RG at *
  generalize roomP p s now=RM at *
  generalize untilP p s now=RU at *
  obtain⟨rn,rok⟩:=RE
  obtain⟨xat,xlv,xhd,xL⟩:=A
  obtain⟨k,l,d,b,cc,o⟩:=p
  obtain⟨at_,level,held,L⟩:=s
  unfold St.v Pol.v at *
  dsimp only at *
  have HR1:=Go.Lib.hid hr1
  have HR2:=Go.Lib.hid hr2
  have HA1:=Go.Lib.hid ha1
  have HA2:=Go.Lib.hid ha2
  have HG1:=Go.Lib.hid hg1
  have HG2:=Go.Lib.hid hg2
  have HM1:=Go.Lib.hid hm1
  have HM2:=Go.Lib.hid hm2
  have HU1:=Go.Lib.hid hu1
  have HU2:=Go.Lib.hid hu2
  have HS1:=Go.Lib.hid hs1
  have HS2:=Go.Lib.hid hs2
  have H1:=Go.Lib.hid h1
  have H2:=Go.Lib.hid h2
  clear hr1 hr2 ha1 ha2 hg1 hg2 hm1 hm2 hu1 hu2 hs1 hs2 h1 h2
  go_enter Tryz.func26,Tryz.ntmps26
  go_wp2_with fail
  refine(HR1.out _ (log_bl H1.out (bl_alloc (bl_alloc (bl_alloc (bl_refl _) _) _) _))).mono ?_
  rintro e w1 ⟨rfl,hb⟩
  have hx:Below w.heap.size w w1:=bl_then (bl_alloc (bl_alloc (bl_alloc (bl_refl _) _) _) _) hb
  have hsz1:w.heap.size+3≤w1.heap.size:=szl hb
  obtain⟨p0,p1,p2,p3,p4,p5⟩:=b6 (w.heap.size) k l d b cc o hb
  obtain⟨s0,s1,s2,s3⟩:=b4 (w.heap.size+1) at_ level held a1 n c1 hb
  obtain⟨t0,t1,t2,t3⟩:=b4 (w.heap.size+1+1) at_ level held a2 n c2 hb
  have hB:Below w.heap.size w w1:=hx
  have lb_p:=lbc p0
  have lb_s:=lbc s0
  have lb_t:=lbc t0
  clear hb hx
  have l1:=log_bl H1.out hB
  have l2:=log_bl H2.out hB
  go_wp2_with fail
  refine(HR2.out _ l2).mono ?_
  rintro e w2 ⟨rfl,hb⟩
  have hsz2:w1.heap.size+0≤w2.heap.size:=szl hb
  replace p0:=bl_cell hb p0
  replace p1:=bl_cell hb p1
  replace p2:=bl_cell hb p2
  replace p3:=bl_cell hb p3
  replace p4:=bl_cell hb p4
  replace p5:=bl_cell hb p5
  replace s0:=bl_cell hb s0
  replace s1:=bl_cell hb s1
  replace s2:=bl_cell hb s2
  replace s3:=bl_cell hb s3
  replace t0:=bl_cell hb t0
  replace t1:=bl_cell hb t1
  replace t2:=bl_cell hb t2
  replace t3:=bl_cell hb t3
  replace l1:=log_bl l1 hb
  replace l2:=log_bl l2 hb
  replace hB:Below w.heap.size w w2:=bl_then hB hb
  replace lb_p:=lbc p0
  replace lb_s:=lbc s0
  replace lb_t:=lbc t0
  clear hb
  go_wp2_with fail
  refine(HA1.out _ l1).mono ?_
  rintro e w3 ⟨ad1,m,d1,rfl,k1,-,hb⟩
  have hsz3:w2.heap.size+0≤w3.heap.size:=szl hb
  replace p0:=bl_cell hb p0
  replace p1:=bl_cell hb p1
  replace p2:=bl_cell hb p2
  replace p3:=bl_cell hb p3
  replace p4:=bl_cell hb p4
  replace p5:=bl_cell hb p5
  replace s0:=bl_cell hb s0
  replace s1:=bl_cell hb s1
  replace s2:=bl_cell hb s2
  replace s3:=bl_cell hb s3
  replace t0:=bl_cell hb t0
  replace t1:=bl_cell hb t1
  replace t2:=bl_cell hb t2
  replace t3:=bl_cell hb t3
  replace l1:=log_bl l1 hb
  replace l2:=log_bl l2 hb
  replace hB:Below w.heap.size w w3:=bl_then hB hb
  replace lb_p:=lbc p0
  replace lb_s:=lbc s0
  replace lb_t:=lbc t0
  clear hb
  go_wp2_with fail
  refine(HA2.out _ (log_bl l2 (bl_alloc (bl_refl _) _))).mono ?_
  rintro e w4 ⟨ad2,m2,d2,rfl,k2,-,hb⟩
  have hx:Below w3.heap.size w3 w4:=bl_then (bl_alloc (bl_refl _) _) hb
  have hsz4:w3.heap.size+1≤w4.heap.size:=szl hb
  replace p0:=bl_cell hx p0
  replace p1:=bl_cell hx p1
  replace p2:=bl_cell hx p2
  replace p3:=bl_cell hx p3
  replace p4:=bl_cell hx p4
  replace p5:=bl_cell hx p5
  replace s0:=bl_cell hx s0
  replace s1:=bl_cell hx s1
  replace s2:=bl_cell hx s2
  replace s3:=bl_cell hx s3
  replace t0:=bl_cell hx t0
  replace t1:=bl_cell hx t1
  replace t2:=bl_cell hx t2
  replace t3:=bl_cell hx t3
  replace l1:=log_bl l1 hx
  replace l2:=log_bl l2 hx
  replace k1:=log_bl k1 hx
  obtain⟨x0,x1,x2,x3⟩:=b4 (w3.heap.size) xat xlv xhd ad1 m d1 hb
  replace hB:Below w.heap.size w w4:=bl_then hB hx
  replace lb_p:=lbc p0
  replace lb_s:=lbc s0
  replace lb_t:=lbc t0
  have lb_x:=lbc x0
  clear hb hx
  have hmm:m=m2:=k1.1.symm.trans k2.1
  subst hmm
  go_wp2_with fail
  skip
  refine wp_abs (S0:=fun X=>(fun w'=>P6 w' (w.heap.size) k l d b cc o (S4 w' (w.heap.size+1) at_ level held a1 n c1 (S4 w' (w.heap.size+1+1) at_ level held a2 n c2 (LogAt w' a1 n c1 L∧LogAt w' a2 n c2 L∧LogAt w' ad1 m d1 xL∧S4 w' (w3.heap.size) xat xlv xhd ad1 m d1 (LogAt w' ad2 m d2 xL∧S4 w' (w4.heap.size) xat xlv xhd ad2 m d2 (Below w.heap.size w w')))))) X∧w4.heap.size+1≤X.heap.size) ⟨⟨bl_cell (bl_alloc (bl_refl _) _) p0,bl_cell (bl_alloc (bl_refl _) _) p1,bl_cell (bl_alloc (bl_refl _) _) p2,bl_cell (bl_alloc (bl_refl _) _) p3,bl_cell (bl_alloc (bl_refl _) _) p4,bl_cell (bl_alloc (bl_refl _) _) p5,bl_cell (bl_alloc (bl_refl _) _) s0,bl_cell (bl_alloc (bl_refl _) _) s1,bl_cell (bl_alloc (bl_refl _) _) s2,bl_cell (bl_alloc (bl_refl _) _) s3,bl_cell (bl_alloc (bl_refl _) _) t0,bl_cell (bl_alloc (bl_refl _) _) t1,bl_cell (bl_alloc (bl_refl _) _) t2,bl_cell (bl_alloc (bl_refl _) _) t3,log_bl l1 (bl_alloc (bl_refl _) _),log_bl l2 (bl_alloc (bl_refl _) _),log_bl k1 (bl_alloc (bl_refl _) _),bl_cell (bl_alloc (bl_refl _) _) x0,bl_cell (bl_alloc (bl_refl _) _) x1,bl_cell (bl_alloc (bl_refl _) _) x2,bl_cell (bl_alloc (bl_refl _) _) x3,log_bl k2 (bl_alloc (bl_refl _) _),by go_simp,by go_simp,by go_simp,by go_simp,bl_alloc (hB) _⟩,by simp⟩ ?_
  clear p0 p1 p2 p3 p4 p5 s0 s1 s2 s3 t0 t1 t2 t3 l1 l2 k1 x0 x1 x2 x3 k2 hB
  rintro w5 ⟨⟨p0,p1,p2,p3,p4,p5,s0,s1,s2,s3,t0,t1,t2,t3,l1,l2,k1,x0,x1,x2,x3,k2,y0,y1,y2,y3,hB⟩,hsz5⟩
  replace lb_p:=lbc p0
  replace lb_s:=lbc s0
  replace lb_t:=lbc t0
  replace lb_x:=lbc x0
  have lb_y:=lbc y0
  refine wp_region_held_drew (S:=fun w'=>P6 w' (w.heap.size) k l d b cc o (S4 w' (w.heap.size+1) at_ level held a1 n c1 (S4 w' (w.heap.size+1+1) at_ level held a2 n c2 (LogAt w' a1 n c1 L∧LogAt w' a2 n c2 L∧LogAt w' ad1 m d1 xL∧S4 w' (w3.heap.size) xat xlv xhd ad1 m d1 (LogAt w' ad2 m d2 xL∧S4 w' (w4.heap.size) xat xlv xhd ad2 m d2 (Below w.heap.size w w')))))) (by kernel_rfl) ?_ (fun hHeld=>?_)
  · exact⟨p0,p1,p2,p3,p4,p5,s0,s1,s2,s3,t0,t1,t2,t3,l1,l2,k1,x0,x1,x2,x3,k2,y0,y1,y2,y3,bl_drew hB⟩
  try simp only[Act.put,List.setIfInBounds_toArray,List.set_cons_zero,List.set_cons_succ]
  refine tkx 0 ?_
  refine tkx 1 ?_
  (refine callH (i:=2) rfl hHeld (fun W hW K hK=>?_);clear hHeld;(try dsimp only at hW);obtain⟨h_p0,h_p1,h_p2,h_p3,h_p4,h_p5,h_s0,h_s1,h_s2,h_s3,h_t0,h_t1,h_t2,h_t3,h_l1,h_l2,h_k1,h_x0,h_x1,h_x2,h_x3,h_k2,h_y0,h_y1,h_y2,h_y3,h_B⟩:=hW;go_simp;refine(HS1.out W h_l1 h_l2).mono ?_;rintro e w9 ⟨rfl,hb⟩;go_wp2_with fail;refine hK.out _ _ ?_ (fun hHeld=>?_);(focus((try dsimp only);exact⟨bl_cell hb h_p0,bl_cell hb h_p1,bl_cell hb h_p2,bl_cell hb h_p3,bl_cell hb h_p4,bl_cell hb h_p5,bl_cell hb h_s0,bl_cell hb h_s1,bl_cell hb h_s2,bl_cell hb h_s3,bl_cell hb h_t0,bl_cell hb h_t1,bl_cell hb h_t2,bl_cell hb h_t3,log_bl h_l1 hb,log_bl h_l2 hb,log_bl h_k1 hb,bl_cell hb h_x0,bl_cell hb h_x1,bl_cell hb h_x2,bl_cell hb h_x3,log_bl h_k2 hb,bl_cell hb h_y0,bl_cell hb h_y1,bl_cell hb h_y2,bl_cell hb h_y3,bl_then h_B hb⟩));clear hK K;clear h_p0 h_p1 h_p2 h_p3 h_p4 h_p5 h_s0 h_s1 h_s2 h_s3 h_t0 h_t1 h_t2 h_t3 h_l1 h_l2 h_k1 h_x0 h_x1 h_x2 h_x3 h_k2 h_y0 h_y1 h_y2 h_y3 h_B;try simp only[Act.put,List.setIfInBounds_toArray,List.set_cons_zero,List.set_cons_succ])
  refine tkx 3 ?_
  first|refine tqx 4 ?_|refine tkx 4 ?_
  first|refine tqx 5 ?_|refine tkx 5 ?_
  first|(refine tqx 6 ?_)|(refine callH (i:=6) rfl hHeld (fun W hW K hK=>?_);clear hHeld;(try dsimp only at hW);obtain⟨h_p0,h_p1,h_p2,h_p3,h_p4,h_p5,h_s0,h_s1,h_s2,h_s3,h_t0,h_t1,h_t2,h_t3,h_l1,h_l2,h_k1,h_x0,h_x1,h_x2,h_x3,h_k2,h_y0,h_y1,h_y2,h_y3,h_B⟩:=hW;go_simp;refine(HS2.out _ _ _ _ _ W h_k1 h_k2).mono ?_;rintro e w9 ⟨rfl,hb⟩;go_wp2_with fail;refine hK.out _ _ ?_ (fun hHeld=>?_);(focus((try dsimp only);exact⟨bl_cell hb h_p0,bl_cell hb h_p1,bl_cell hb h_p2,bl_cell hb h_p3,bl_cell hb h_p4,bl_cell hb h_p5,bl_cell hb h_s0,bl_cell hb h_s1,bl_cell hb h_s2,bl_cell hb h_s3,bl_cell hb h_t0,bl_cell hb h_t1,bl_cell hb h_t2,bl_cell hb h_t3,log_bl h_l1 hb,log_bl h_l2 hb,log_bl h_k1 hb,bl_cell hb h_x0,bl_cell hb h_x1,bl_cell hb h_x2,bl_cell hb h_x3,log_bl h_k2 hb,bl_cell hb h_y0,bl_cell hb h_y1,bl_cell hb h_y2,bl_cell hb h_y3,bl_then h_B hb⟩));clear hK K;clear h_p0 h_p1 h_p2 h_p3 h_p4 h_p5 h_s0 h_s1 h_s2 h_s3 h_t0 h_t1 h_t2 h_t3 h_l1 h_l2 h_k1 h_x0 h_x1 h_x2 h_x3 h_k2 h_y0 h_y1 h_y2 h_y3 h_B;try simp only[Act.put,List.setIfInBounds_toArray,List.set_cons_zero,List.set_cons_succ])
  refine tkx 7 ?_
  refine tkx 8 ?_
  first|refine tqx 9 ?_|refine tkx 9 ?_
  first|refine tqx 10 ?_|refine tkx 10 ?_
  first|refine tqx 12 ?_|refine tkx 12 ?_
  first|refine tqx 13 ?_|refine tkx 13 ?_
  first|(refine tqx 11 ?_)|(refine callH (i:=11) rfl hHeld (fun W hW K hK=>?_);clear hHeld;(try dsimp only at hW);obtain⟨h_p0,h_p1,h_p2,h_p3,h_p4,h_p5,h_s0,h_s1,h_s2,h_s3,h_t0,h_t1,h_t2,h_t3,h_l1,h_l2,h_k1,h_x0,h_x1,h_x2,h_x3,h_k2,h_y0,h_y1,h_y2,h_y3,h_B⟩:=hW;go_simp;refine(HG1.out W h_l1).mono ?_;rintro e w9 ⟨rfl,hb⟩;go_wp2_with fail;refine hK.out _ _ ?_ (fun hHeld=>?_);(focus((try dsimp only);exact⟨bl_cell hb h_p0,bl_cell hb h_p1,bl_cell hb h_p2,bl_cell hb h_p3,bl_cell hb h_p4,bl_cell hb h_p5,bl_cell hb h_s0,bl_cell hb h_s1,bl_cell hb h_s2,bl_cell hb h_s3,bl_cell hb h_t0,bl_cell hb h_t1,bl_cell hb h_t2,bl_cell hb h_t3,log_bl h_l1 hb,log_bl h_l2 hb,log_bl h_k1 hb,bl_cell hb h_x0,bl_cell hb h_x1,bl_cell hb h_x2,bl_cell hb h_x3,log_bl h_k2 hb,bl_cell hb h_y0,bl_cell hb h_y1,bl_cell hb h_y2,bl_cell hb h_y3,bl_then h_B hb⟩));clear hK K;clear h_p0 h_p1 h_p2 h_p3 h_p4 h_p5 h_s0 h_s1 h_s2 h_s3 h_t0 h_t1 h_t2 h_t3 h_l1 h_l2 h_k1 h_x0 h_x1 h_x2 h_x3 h_k2 h_y0 h_y1 h_y2 h_y3 h_B;try simp only[Act.put,List.setIfInBounds_toArray,List.set_cons_zero,List.set_cons_succ])
  first|(refine tqx 14 ?_)|(refine callH (i:=14) rfl hHeld (fun W hW K hK=>?_);clear hHeld;(try dsimp only at hW);obtain⟨h_p0,h_p1,h_p2,h_p3,h_p4,h_p5,h_s0,h_s1,h_s2,h_s3,h_t0,h_t1,h_t2,h_t3,h_l1,h_l2,h_k1,h_x0,h_x1,h_x2,h_x3,h_k2,h_y0,h_y1,h_y2,h_y3,h_B⟩:=hW;go_simp;refine(HG2.out W h_l2).mono ?_;rintro e w9 ⟨rfl,hb⟩;go_wp2_with fail;refine hK.out _ _ ?_ (fun hHeld=>?_);(focus((try dsimp only);exact⟨bl_cell hb h_p0,bl_cell hb h_p1,bl_cell hb h_p2,bl_cell hb h_p3,bl_cell hb h_p4,bl_cell hb h_p5,bl_cell hb h_s0,bl_cell hb h_s1,bl_cell hb h_s2,bl_cell hb h_s3,bl_cell hb h_t0,bl_cell hb h_t1,bl_cell hb h_t2,bl_cell hb h_t3,log_bl h_l1 hb,log_bl h_l2 hb,log_bl h_k1 hb,bl_cell hb h_x0,bl_cell hb h_x1,bl_cell hb h_x2,bl_cell hb h_x3,log_bl h_k2 hb,bl_cell hb h_y0,bl_cell hb h_y1,bl_cell hb h_y2,bl_cell hb h_y3,bl_then h_B hb⟩));clear hK K;clear h_p0 h_p1 h_p2 h_p3 h_p4 h_p5 h_s0 h_s1 h_s2 h_s3 h_t0 h_t1 h_t2 h_t3 h_l1 h_l2 h_k1 h_x0 h_x1 h_x2 h_x3 h_k2 h_y0 h_y1 h_y2 h_y3 h_B;try simp only[Act.put,List.setIfInBounds_toArray,List.set_cons_zero,List.set_cons_succ])
  first|refine tqx 15 ?_|refine tkx 15 ?_
  refine tkx 16 ?_
  refine tkx 17 ?_
  first|refine tqx 18 ?_|refine tkx 18 ?_
  first|refine tqx 19 ?_|refine tkx 19 ?_
  first|refine tqx 20 ?_|refine tkx 20 ?_
  first|refine tqx 22 ?_|refine tkx 22 ?_
  first|refine tqx 23 ?_|refine tkx 23 ?_
  first|refine tqx 24 ?_|refine tkx 24 ?_
  first|(refine tqx 21 ?_)|(refine callH (i:=21) rfl hHeld (fun W hW K hK=>?_);clear hHeld;(try dsimp only at hW);obtain⟨h_p0,h_p1,h_p2,h_p3,h_p4,h_p5,h_s0,h_s1,h_s2,h_s3,h_t0,h_t1,h_t2,h_t3,h_l1,h_l2,h_k1,h_x0,h_x1,h_x2,h_x3,h_k2,h_y0,h_y1,h_y2,h_y3,h_B⟩:=hW;go_simp;refine(HM1.out W h_l1).mono ?_;rintro e w9 ⟨rfl,hb⟩;go_wp2_with fail;refine hK.out _ _ ?_ (fun hHeld=>?_);(focus((try dsimp only);exact⟨bl_cell hb h_p0,bl_cell hb h_p1,bl_cell hb h_p2,bl_cell hb h_p3,bl_cell hb h_p4,bl_cell hb h_p5,bl_cell hb h_s0,bl_cell hb h_s1,bl_cell hb h_s2,bl_cell hb h_s3,bl_cell hb h_t0,bl_cell hb h_t1,bl_cell hb h_t2,bl_cell hb h_t3,log_bl h_l1 hb,log_bl h_l2 hb,log_bl h_k1 hb,bl_cell hb h_x0,bl_cell hb h_x1,bl_cell hb h_x2,bl_cell hb h_x3,log_bl h_k2 hb,bl_cell hb h_y0,bl_cell hb h_y1,bl_cell hb h_y2,bl_cell hb h_y3,bl_then h_B hb⟩));clear hK K;clear h_p0 h_p1 h_p2 h_p3 h_p4 h_p5 h_s0 h_s1 h_s2 h_s3 h_t0 h_t1 h_t2 h_t3 h_l1 h_l2 h_k1 h_x0 h_x1 h_x2 h_x3 h_k2 h_y0 h_y1 h_y2 h_y3 h_B;try simp only[Act.put,List.setIfInBounds_toArray,List.set_cons_zero,List.set_cons_succ])
  first|(refine tqx 25 ?_)|(refine callH (i:=25) rfl hHeld (fun W hW K hK=>?_);clear hHeld;(try dsimp only at hW);obtain⟨h_p0,h_p1,h_p2,h_p3,h_p4,h_p5,h_s0,h_s1,h_s2,h_s3,h_t0,h_t1,h_t2,h_t3,h_l1,h_l2,h_k1,h_x0,h_x1,h_x2,h_x3,h_k2,h_y0,h_y1,h_y2,h_y3,h_B⟩:=hW;go_simp;refine(HM2.out W h_l2).mono ?_;rintro e w9 ⟨rfl,hb⟩;go_wp2_with fail;refine hK.out _ _ ?_ (fun hHeld=>?_);(focus((try dsimp only);exact⟨bl_cell hb h_p0,bl_cell hb h_p1,bl_cell hb h_p2,bl_cell hb h_p3,bl_cell hb h_p4,bl_cell hb h_p5,bl_cell hb h_s0,bl_cell hb h_s1,bl_cell hb h_s2,bl_cell hb h_s3,bl_cell hb h_t0,bl_cell hb h_t1,bl_cell hb h_t2,bl_cell hb h_t3,log_bl h_l1 hb,log_bl h_l2 hb,log_bl h_k1 hb,bl_cell hb h_x0,bl_cell hb h_x1,bl_cell hb h_x2,bl_cell hb h_x3,log_bl h_k2 hb,bl_cell hb h_y0,bl_cell hb h_y1,bl_cell hb h_y2,bl_cell hb h_y3,bl_then h_B hb⟩));clear hK K;clear h_p0 h_p1 h_p2 h_p3 h_p4 h_p5 h_s0 h_s1 h_s2 h_s3 h_t0 h_t1 h_t2 h_t3 h_l1 h_l2 h_k1 h_x0 h_x1 h_x2 h_x3 h_k2 h_y0 h_y1 h_y2 h_y3 h_B;try simp only[Act.put,List.setIfInBounds_toArray,List.set_cons_zero,List.set_cons_succ])
  first|refine tqx 26 ?_|refine tkx 26 ?_
  refine tkx 27 ?_
  refine tkx 28 ?_
  first|refine tqx 29 ?_|refine tkx 29 ?_
  first|refine tqx 30 ?_|refine tkx 30 ?_
  first|refine tqx 31 ?_|refine tkx 31 ?_
  first|refine tqx 33 ?_|refine tkx 33 ?_
  first|refine tqx 34 ?_|refine tkx 34 ?_
  first|refine tqx 35 ?_|refine tkx 35 ?_
  first|(refine tqx 32 ?_)|(refine callH (i:=32) rfl hHeld (fun W hW K hK=>?_);clear hHeld;(try dsimp only at hW);obtain⟨h_p0,h_p1,h_p2,h_p3,h_p4,h_p5,h_s0,h_s1,h_s2,h_s3,h_t0,h_t1,h_t2,h_t3,h_l1,h_l2,h_k1,h_x0,h_x1,h_x2,h_x3,h_k2,h_y0,h_y1,h_y2,h_y3,h_B⟩:=hW;go_simp;refine(HU1.out W h_l1).mono ?_;rintro e w9 ⟨rfl,hb⟩;go_wp2_with fail;refine hK.out _ _ ?_ (fun hHeld=>?_);(focus((try dsimp only);exact⟨bl_cell hb h_p0,bl_cell hb h_p1,bl_cell hb h_p2,bl_cell hb h_p3,bl_cell hb h_p4,bl_cell hb h_p5,bl_cell hb h_s0,bl_cell hb h_s1,bl_cell hb h_s2,bl_cell hb h_s3,bl_cell hb h_t0,bl_cell hb h_t1,bl_cell hb h_t2,bl_cell hb h_t3,log_bl h_l1 hb,log_bl h_l2 hb,log_bl h_k1 hb,bl_cell hb h_x0,bl_cell hb h_x1,bl_cell hb h_x2,bl_cell hb h_x3,log_bl h_k2 hb,bl_cell hb h_y0,bl_cell hb h_y1,bl_cell hb h_y2,bl_cell hb h_y3,bl_then h_B hb⟩));clear hK K;clear h_p0 h_p1 h_p2 h_p3 h_p4 h_p5 h_s0 h_s1 h_s2 h_s3 h_t0 h_t1 h_t2 h_t3 h_l1 h_l2 h_k1 h_x0 h_x1 h_x2 h_x3 h_k2 h_y0 h_y1 h_y2 h_y3 h_B;try simp only[Act.put,List.setIfInBounds_toArray,List.set_cons_zero,List.set_cons_succ])
  first|(refine tqx 36 ?_)|(refine callH (i:=36) rfl hHeld (fun W hW K hK=>?_);clear hHeld;(try dsimp only at hW);obtain⟨h_p0,h_p1,h_p2,h_p3,h_p4,h_p5,h_s0,h_s1,h_s2,h_s3,h_t0,h_t1,h_t2,h_t3,h_l1,h_l2,h_k1,h_x0,h_x1,h_x2,h_x3,h_k2,h_y0,h_y1,h_y2,h_y3,h_B⟩:=hW;go_simp;refine(HU2.out W h_l2).mono ?_;rintro e w9 ⟨rfl,hb⟩;go_wp2_with fail;refine hK.out _ _ ?_ (fun hHeld=>?_);(focus((try dsimp only);exact⟨bl_cell hb h_p0,bl_cell hb h_p1,bl_cell hb h_p2,bl_cell hb h_p3,bl_cell hb h_p4,bl_cell hb h_p5,bl_cell hb h_s0,bl_cell hb h_s1,bl_cell hb h_s2,bl_cell hb h_s3,bl_cell hb h_t0,bl_cell hb h_t1,bl_cell hb h_t2,bl_cell hb h_t3,log_bl h_l1 hb,log_bl h_l2 hb,log_bl h_k1 hb,bl_cell hb h_x0,bl_cell hb h_x1,bl_cell hb h_x2,bl_cell hb h_x3,log_bl h_k2 hb,bl_cell hb h_y0,bl_cell hb h_y1,bl_cell hb h_y2,bl_cell hb h_y3,bl_then h_B hb⟩));clear hK K;clear h_p0 h_p1 h_p2 h_p3 h_p4 h_p5 h_s0 h_s1 h_s2 h_s3 h_t0 h_t1 h_t2 h_t3 h_l1 h_l2 h_k1 h_x0 h_x1 h_x2 h_x3 h_k2 h_y0 h_y1 h_y2 h_y3 h_B;try simp only[Act.put,List.setIfInBounds_toArray,List.set_cons_zero,List.set_cons_succ])
  first|refine tqx 37 ?_|refine tkx 37 ?_
  refine tkx 38 ?_
  refine tkx 39 ?_
  first|refine tqx 40 ?_|refine tkx 40 ?_
  first|refine tqx 41 ?_|refine tkx 41 ?_
  first|refine tqx 42 ?_|refine tkx 42 ?_
  refine tkx 43 ?_
  refine tkx 44 ?_
  first|refine tqx 45 ?_|refine tkx 45 ?_
  first|refine tqx 46 ?_|refine tkx 46 ?_
  first|refine tqx 47 ?_|refine tkx 47 ?_
  refine tkx 48 ?_
  refine tkx 49 ?_
  refine wpAnyH_done (by kernel_rfl) ?_ _
  obtain⟨-,-,-,-,-,-,-,-,-,-,-,-,-,-,-,-,-,-,-,-,-,-,-,-,-,-,hE⟩:=hHeld
  repeat' (first|go_skip|go_guarded|go_step|go_upon)
  go_ret
  exact⟨rfl,hE⟩
/-- What Run answers: the state, with a log of its own, and what each act told. -/
def PostRun (r:St × List Bool) (base:Nat) (w:World) (e:Ending) (w':World):Prop:=∃ (a:Option Addr) (n c m:Nat) (vb:Value),
  e=.returned (.tuple #[r.1.v a n c,vb])∧LogAt w' a n c r.1.log∧Frs base a n∧OwnB w' base vb m r.2∧Below base w w'
/-- What is known at a round's head. -/
def RunRel (b0:Nat) (w:World) (pv:Int × Int × Int × Int × Int × Bool) (R:St × List Bool) (k:Nat) (a:Option Addr) (n c:Nat) (vb:Value) (wr:World):Prop :=
  wr.cell? ⟨b0,0,none⟩=some (.int .i64 pv.1)∧wr.cell? ⟨b0,1,none⟩=some (.int .i64 pv.2.1)∧wr.cell? ⟨b0,2,none⟩=some (.int .i64 pv.2.2.1)∧wr.cell? ⟨b0,3,none⟩=some (.int .i64 pv.2.2.2.1)∧wr.cell? ⟨b0,4,none⟩=some (.int .i64 pv.2.2.2.2.1)∧wr.cell? ⟨b0,5,none⟩=some (.bool pv.2.2.2.2.2) ∧
  wr.cell? ⟨b0+1,0,none⟩=some (.int .i64 R.1.at_)∧wr.cell? ⟨b0+1,1,none⟩=some (.int .i64 R.1.level)∧wr.cell? ⟨b0+1,2,none⟩=some (.int .i64 R.1.held)∧wr.cell? ⟨b0+1,3,none⟩=some (.slice a n c) ∧
  ResB wr (b0+1)∧ResB wr (b0+1+1)∧LogAt wr a n c R.1.log∧Frs (b0+1+1+1) a n∧OwnB wr (b0+1+1+1) vb k R.2∧Apt a n vb∧Below b0 w wr

theorem log_set1 {w:World} {g:Addr} {v:Value} {a:Option Addr} {n c:Nat} {L:List (Int × Int)} (h:LogAt w a n c L) (hne:∀ gg,Value.ownBlock (.slice a n c)=some gg→gg≠g.block):LogAt (w.setCell g v) a n c L :=
  ⟨h.1,h.2.1,h.2.2.1,fun i hi=>by
    obtain⟨b,off,e,h1,h2⟩:=h.2.2.2 i hi
    subst e
    have:=hne b rfl
    exact⟨b,off,rfl,far_set h1 _ _ (fun e=>this e.symm),far_set h2 _ _ (fun e=>this e.symm)⟩⟩
theorem run_walk (k l0 d b cc:Int) (o:Bool) (at_ level held:Int) (L:List (Int × Int)) (D:St→Ac→St × Bool) (F:Nat→St × List Bool) (G:Nat→Ac) (a:Option Addr) (n c:Nat) (la:Option Addr) (m lc:Nat) (w:World)
    (hdo:∀ (st:St) (x:Ac) (a:Option Addr) (n c:Nat) (W:World),LogAt W a n c st.log→Calls Tryz.prog 27 #[.agg #[.int .i64 k,.int .i64 l0,.int .i64 d,.int .i64 b,.int .i64 cc,.bool o],st.v a n c,x.v] W (PostSB a n (D st x) W))
    (h0:F 0=(⟨at_,level,held,L⟩,[])) (hstep:∀ k,k<m→F (k+1)=((D (F k).1 (G k)).1,(F k).2 ++ [(D (F k).1 (G k)).2]))
    (hl:LogAt w a n c L) (hn:n≤1000) (hacts:∀ i,i<m→∃ b off,la=some ⟨b,off,none⟩∧w.cell? ⟨b,off+i*3,none⟩=some (.int .i64 (G i).kind)∧w.cell? ⟨b,off+i*3+1,none⟩=some (.int .i64 (G i).now)∧w.cell? ⟨b,off+i*3+2,none⟩=some (.int .i64 (G i).cost)) (hm:m≤1000) :
    Calls Tryz.prog 15 #[.agg #[.int .i64 k,.int .i64 l0,.int .i64 d,.int .i64 b,.int .i64 cc,.bool o],.agg #[.int .i64 at_,.int .i64 level,.int .i64 held,.slice a n c],.slice la m lc] w (PostRun (F m) w.heap.size w):=by
  have HDO:=Go.Lib.hid hdo
  have HL:=Go.Lib.hid hl
  have HA:=Go.Lib.hid hacts
  have HS:=Go.Lib.hid hstep
  have H0:=Go.Lib.hid h0
  obtain⟨i0',hi,hz0,hz1,hz2⟩:=info_parts infoB
  have HI:=Go.Lib.hid (And.intro hi (And.intro hz0 (And.intro hz1 hz2)))
  clear hdo hl hacts hstep h0 hi hz0 hz1 hz2
  go_enter Tryz.func15,Tryz.ntmps15
  go_wp2_with (at_builtin;refine wpList_log _ rfl _ _ rfl rfl a n c L rfl (log_bl HL.out ?q1) hn ?_)
  case q1=>exact k3
  intro v' w1 hown hb
  obtain⟨d0,d1,d2,d3,d4,d5⟩:=b6 (w.heap.size) k l0 d b cc o hb
  have d6:=bl_cell (v:=.int .i64 at_) hb (show World.cell? _ ⟨w.heap.size+1,0,none⟩=_ by go_simp)
  have d7:=bl_cell (v:=.int .i64 level) hb (show World.cell? _ ⟨w.heap.size+1,1,none⟩=_ by go_simp)
  have d8:=bl_cell (v:=.int .i64 held) hb (show World.cell? _ ⟨w.heap.size+1,2,none⟩=_ by go_simp)
  have dQ:=res_bl (b:=w.heap.size+1) (res_bl (res_new (w.alloc _) _ _ _ _ _ (by simp)) k1) hb
  have dR:=res_bl (b:=w.heap.size+1+1) (res_new _ _ _ _ _ _ (by simp)) hb
  have hB:Below w.heap.size w w1:=bl_then k3 hb
  have hown2:OwnLog w1 (w.heap.size+1+1+1) v' n L:=own_mono hown (by simp)
  clear hown hb
  obtain⟨a1,c1,rfl,hlog⟩:=own_log hown2
  have hfrs:=own_frs hown2
  have hlt:∀ gg,Value.ownBlock (.slice a1 n c1)=some gg→gg≠w.heap.size+1:=fun gg hgg=>by have:=(World.ownsRow.lt hown2 gg hgg).1;omega
  have hlog2:=(own_log (own_far hown2 ⟨w.heap.size+1,3,none⟩ (.slice a1 n c1) hlt))
  have fz:=(dQ 3 (by omega)).1
  obtain⟨u3,i3⟩:=Option.isSome_iff_exists.1 (dQ 3 (by omega)).2
  go_wp2_with fail
  go_loopw [8,19] (fun s8 s19 wr=>∃ (j:Nat) (an:Option Addr) (nn cn:Nat),s19=.int .i64 j∧j≤m∧Hid (RunRel w.heap.size w (k,l0,d,b,cc,o) (F j) j an nn cn s8 wr))
    (fun _ s19 _=>m - (intOf s19).toNat)
  case atStart =>
    refine⟨0,a1,n,c1,rfl,Nat.zero_le _,?_⟩
    show RunRel _ _ _ _ _ _ _ _ _ _
    rw[H0.out]
    exact⟨far_set d0 _ _ (by dsimp only;omega),far_set d1 _ _ (by dsimp only;omega),far_set d2 _ _ (by dsimp only;omega),far_set d3 _ _ (by dsimp only;omega),far_set d4 _ _ (by dsimp only;omega),far_set d5 _ _ (by dsimp only;omega),set_other d6 _ (by simp),set_other d7 _ (by simp),set_other d8 _ (by simp),World.cell?_setCell_same' w1 _ _ (by rw[i3];rfl),res_set dQ _ _,res_set dR _ _,log_set1 hlog hlt,hfrs,⟨rfl,.inl ⟨rfl,rfl⟩⟩,.inr (fun ad e g hg=>by cases hg),bl_set hB (by dsimp only;omega) _⟩
  case round =>
    obtain⟨j,an,nn,cn,rfl,hj,H⟩:=hrel
    have HR:=H.out
    clear H d0 d1 d2 d3 d4 d5 d6 d7 d8 dQ dR hB hown2 hlog hfrs hlt hlog2 fz i3
    by_cases hjm:j<m
    · obtain ⟨qb,qo,rfl,g1,g2,g3⟩:=HA.out j hjm
      have hs:=HS.out j hjm
      generalize F j=R at *
      obtain⟨⟨rat,rlv,rhd,rL⟩,bs⟩:=R
      generalize G j=X at *
      obtain⟨ak,aw,ac⟩:=X
      obtain⟨c0,c1,c2,c3,c4,c5,c6,c7,c8,c9,hQ,hR,hLg,hFr,hBo,hAp,hB⟩:=HR
      dsimp only at g1 g2 g3 hs c0 c1 c2 c3 c4 c5 c6 c7 c8 c9 hLg hBo
      have e1:=bl_cell hB g1
      have e2:=bl_cell hB g2
      have e3:=bl_cell hB g3
      have lb:=World.block_lt_of_cell? wr _ e1
      dsimp only at lb
      have lw:=hB.size
      have lR:=res_lt hR
      have lQ:=res_lt hQ
      have lP:w.heap.size<wr.heap.size:=by omega
      have hk0:(0:Int)≤(j:Int):=by omega
      have hk1:(j:Int)<(m:Int):=by omega
      have hk1n:j+1≤m:=by omega
      clear g1 g2 g3
      go_wp2_with fail
      have hlx:LogAt (wr.alloc (.cells #[.int .i64 ak,.int .i64 aw,.int .i64 ac] 46)) an nn cn rL:=log_bl hLg k1
      refine(HDO.out ⟨rat,rlv,rhd,rL⟩ ⟨ak,aw,ac⟩ an nn cn _ hlx).mono ?_
      generalize D ⟨rat,rlv,rhd,rL⟩ ⟨ak,aw,ac⟩=X at *
      obtain⟨⟨xa,xl,xh,xL⟩,xb⟩:=X
      rintro e w2 ⟨ax,nx,cx,rfl,hl9,hs9,hb⟩
      have hs9:Src an nn wr ax nx:=src_out (w:=wr) hs9 (by simp)
      have hb2:Below wr.heap.size wr w2:=bl_then k1 hb
      dsimp only at hl9
      unfold St.v
      dsimp only
      have HX:=Go.Lib.hid (And.intro hl9 (And.intro (frs_src hFr hs9 (by omega)) (And.intro (ownsRow_bl hBo hb2) (apt_src hAp hs9 hBo))))
      have lw2:wr.heap.size≤w2.heap.size:=hb2.size
      have hHeld:(fun w'=>P6 w' (w.heap.size) k l0 d b cc o (S4 w' (w2.heap.size) xa xl xh ax nx cx (ResB w' (w.heap.size+1)∧ResB w' (w.heap.size+1+1)∧Below w.heap.size w w'))) (w2.alloc (.cells #[.int .i64 xa,.int .i64 xl,.int .i64 xh,.slice ax nx cx] 26)):=by
        have hb3:Below wr.heap.size wr (w2.alloc (.cells #[.int .i64 xa,.int .i64 xl,.int .i64 xh,.slice ax nx cx] 26)):=bl_then hb2 k1
        exact⟨bl_cell hb3 c0,bl_cell hb3 c1,bl_cell hb3 c2,bl_cell hb3 c3,bl_cell hb3 c4,bl_cell hb3 c5,by go_simp,by go_simp,by go_simp,by go_simp,res_bl hQ hb3,res_bl hR hb3,bl_then hB hb3⟩
      have HH:=Go.Lib.hid hHeld
      clear hHeld hl9 hs9 hb hb2 hBo hAp hLg hFr hlx e1 e2 e3 c0 c1 c2 c3 c4 c5 c6 c7 c8 c9 hQ hR hB
      go_wp2_with fail
      generalize hWg:w2.alloc (.cells #[.int .i64 xa,.int .i64 xl,.int .i64 xh,.slice ax nx cx] 26)=Wg at *
      refine wp_region_held_drew (S:=fun w'=>P6 w' (w.heap.size) k l0 d b cc o (S4 w' (w2.heap.size) xa xl xh ax nx cx (ResB w' (w.heap.size+1)∧ResB w' (w.heap.size+1+1)∧Below w.heap.size w w'))) (by kernel_rfl) ?_ (fun hHeld=>?_)
      · obtain⟨h0,h1,h2,h3,h4,h5,h6,h7,h8,h9,hQ,hR,hB⟩:=HH.out
        exact⟨h0,h1,h2,h3,h4,h5,h6,h7,h8,h9,res_drew hQ,res_drew hR,bl_drew hB⟩
      try simp only[Act.put,List.setIfInBounds_toArray,List.set_cons_zero,List.set_cons_succ]
      refine tkx 0 ?_
      refine tkx 1 ?_
      refine tkx 2 ?_
      refine callC (i:=3) rfl (fun K hK=>?_)
      go_simp
      refine hK.out _ _ ?_ (fun hHeld=>?_)
      · obtain⟨h0,h1,h2,h3,h4,h5,h6,h7,h8,h9,hQ,hR,hB⟩:=hHeld
        have ha:=bl_alloc (bl_refl Wg.drew) (.cells #[.bool xb] 4)
        exact⟨bl_cell ha h0,bl_cell ha h1,bl_cell ha h2,bl_cell ha h3,bl_cell ha h4,bl_cell ha h5,bl_cell ha h6,bl_cell ha h7,bl_cell ha h8,bl_cell ha h9,res_bl hQ ha,res_bl hR ha,bl_then hB ha⟩
      clear hK K
      try simp only[Act.put,List.setIfInBounds_toArray,List.set_cons_zero,List.set_cons_succ]
      refine callC (i:=4) rfl (fun K hK=>?_)
      rw[if_pos (by rfl)]
      have hw4:Below w2.heap.size w2 (Wg.alloc (.cells #[.bool xb] 4)).drew:=by rw[← hWg];exact bl_drew (bl_alloc (bl_alloc (bl_refl w2) _) _)
      have hWs:Wg.heap.size=w2.heap.size+1:=by rw[← hWg];simp
      obtain⟨hl9,hf9,ho9,ha9⟩:=HX.out
      refine wp_bool _ _ _ rfl (w.heap.size+1+1+1) u8 j bs rfl (ownsRow_bl ho9 hw4) Wg.heap.size 1 xb rfl ?h1 (by omega) ?h2 ?_
      case h1=>go_simp
      case h2=>have:=hw4.size;omega
      intro v5 w5 ho5 hg5 hv5
      obtain⟨h0,h1,h2,h3,h4,h5,h6,h7,h8,h9,hQ,hR,hB⟩:=hHeld
      have hne:∀ gg,Value.ownBlock u8=some gg→w.heap.size+1+1+1≤gg∧gg<w2.heap.size:=fun gg hgg=>World.ownsRow.lt ho9 gg hgg
      have hl5:=log_grown (log_bl hl9 hw4) hg5 ha9
      have ha5:Apt ax nx v5:=by
        by_cases hz:nx=0
        · exact .inl hz
        · refine .inr fun ad e g hg=>?_
          rcases hv5 g hg with hh|hh
          · rcases ha9 with h|h
            · exact absurd h hz
            · exact h ad e g hh
          · have:=log_lt hl9 ad e hz
            have:=hw4.size
            omega
      refine hK.out _ _ ?_ (fun hHeld=>?_)
      · exact ⟨grown_cell hg5 h0 (by intro he;have:=hne _ he.symm;omega),grown_cell hg5 h1 (by intro he;have:=hne _ he.symm;omega),grown_cell hg5 h2 (by intro he;have:=hne _ he.symm;omega),grown_cell hg5 h3 (by intro he;have:=hne _ he.symm;omega),grown_cell hg5 h4 (by intro he;have:=hne _ he.symm;omega),grown_cell hg5 h5 (by intro he;have:=hne _ he.symm;omega),grown_cell hg5 h6 (by intro he;have:=hne _ he.symm;omega),grown_cell hg5 h7 (by intro he;have:=hne _ he.symm;omega),grown_cell hg5 h8 (by intro he;have:=hne _ he.symm;omega),grown_cell hg5 h9 (by intro he;have:=hne _ he.symm;omega),
          grown_res hg5 hQ (by intro he;have:=hne _ he.symm;omega),grown_res hg5 hR (by intro he;have:=hne _ he.symm;omega),hB.grown hg5 hB.size (fun gg hgg=>by have:=hne gg hgg;omega)⟩
      clear hK K
      have HY:=Go.Lib.hid (And.intro hl5 (And.intro hf9 (And.intro ho5 ha5)))
      have hsz5:=hg5.size
      have lw5:w2.heap.size≤w5.heap.size:=Nat.le_trans hw4.size hsz5
      clear hl5 hl9 hf9 ho9 ha9 ho5 ha5 hv5 hg5 hw4 HX HH hne h0 h1 h2 h3 h4 h5 h6 h7 h8 h9 hQ hR hB
      try simp only[Act.put,List.setIfInBounds_toArray,List.set_cons_zero,List.set_cons_succ]
      refine callC (i:=5) rfl (fun K hK=>?_)
      obtain⟨h0,h1,h2,h3,h4,h5,h6,h7,h8,h9,hQ,hR,hB⟩:=hHeld
      obtain⟨f0,f1,f2,f3,u0,u1,u2,u3,i0,i1,i2,i3⟩:=res_all hQ
      go_simp
      have e0:w.heap.size+1≠w.heap.size:=by omega
      have e1:w.heap.size+1≠w2.heap.size:=by omega
      have HC:=Go.Lib.hid (set4r (v0:=.int .i64 xa) (v1:=.int .i64 xl) (v2:=.int .i64 xh) (v3:=.slice ax nx cx) hQ)
      refine hK.out _ _ ?_ (fun hHeld=>?_)
      · exact⟨far4 h0 e0,far4 h1 e0,far4 h2 e0,far4 h3 e0,far4 h4 e0,far4 h5 e0,far4 h6 e1,far4 h7 e1,far4 h8 e1,far4 h9 e1,res4 hQ,res4 hR,bl4 hB (by omega)⟩
      clear hK K h0 h1 h2 h3 h4 h5 h6 h7 h8 h9 hQ hR hB f0 f1 f2 f3 i0 i1 i2 i3
      try simp only[Act.put,List.setIfInBounds_toArray,List.set_cons_zero,List.set_cons_succ]
      refine tkx 6 ?_
      refine wpAnyH_done (by kernel_rfl) ?_ _
      have HZ:=Go.Lib.hid hHeld
      clear hHeld
      go_wp2_with fail
      go_roundw
      case rel =>
        refine⟨j+1,ax,nx,cx,by go_num,hk1n,?_⟩
        show RunRel _ _ _ _ _ _ _ _ _ _
        rw[hs]
        obtain⟨h0,h1,h2,h3,h4,h5,h6,h7,h8,h9,hQ,hR,hB⟩:=HZ.out
        obtain⟨s0,s1,s2,s3⟩:=HC.out
        obtain⟨hl5,hf5,ho5,ha5⟩:=HY.out
        refine⟨h0,h1,h2,h3,h4,h5,s0,s1,s2,s3,hQ,hR,log_set4 hl5 ?_,hf5,ownsRow_set4 ho5 (by omega),ha5,hB⟩
        intro ad e hz
        rcases hf5 with h|h
        · exact absurd h hz
        · have:=h ad e
          omega
      case measure=>(simp[intOf];omega)
    · have hje:j=m:=by omega
      subst hje
      generalize F j=R at *
      obtain⟨⟨rat,rlv,rhd,rL⟩,bs⟩:=R
      obtain⟨c0,c1,c2,c3,c4,c5,c6,c7,c8,c9,hQ,hR,hLg,hFr,hBo,hAp,hB⟩:=HR
      dsimp only at c6 c7 c8 c9 hLg hBo
      obtain⟨f0,f1,f2,f3,u0,u1,u2,u3,i0,i1,i2,i3⟩:=res_all hR
      have lR:=res_lt hR
      go_wp2_with fail
      (try simp only[Exit.inBlock,Exit.then])
      refine bodyPost_ret (results_state2 rfl _ _ (by rfl) (set4r hR)) rfl ⟨an,nn,cn,j,u8,rfl,log_set4 hLg ?_,frs_mono hFr (by omega),rowMono (ownsRow_set4 hBo (by omega)) (by omega),bl4 hB (by omega)⟩
      intro ad e hz
      rcases hFr with h|h
      · exact absurd h hz
      · have:=h ad e
        omega

theorem run_any (p:Pol) (s:St) (l:List Ac) (a:Option Addr) (n c:Nat) (la:Option Addr) (m lc:Nat) (w:World) (hl:LogAt w a n c s.log) (hn:n≤1000) (hacts:ActsIn w la m lc l) (hm:m≤1000) :
    Calls Tryz.prog 15 #[p.v,s.v a n c,.slice la m lc] w (PostRun (runP p s l) w.heap.size w):=by
  have h:=run_walk p.kind p.limit p.period p.burst p.cap p.opn s.at_ s.level s.held s.log (doP p) (fun k=>runP p s (l.take k)) (fun k=>l.getD k ⟨0,0,0⟩) a n c la m lc w (fun st x a n c W hW=>ldo_any p st a n c x W hW) rfl
    (fun k hk=>runP_take p s l k (by rw[hacts.1];exact hk)) hl hn hacts.2.2.2 hm
  have e:l.take m=l:=by rw[← hacts.1,List.take_length]
  have e2:runP p s (l.take m)=runP p s l:=by rw[e]
  rw[← e2]
  exact h
theorem callC3 {P:Program} {l:List Oper} {Q:Exit→Act→World→Prop} {S:World→Prop} {i j k:Nat} {o o' o'':Oper} {rest rest' rest'':List Oper} {fuel:Nat} {listed:Array Bool} {a:Act} {w:World}
    (hl:l.drop i=o :: rest) (hl':l.drop j=o' :: rest') (hl'':l.drop k=o'' :: rest'')
    (h:∀ K':Act→World→Prop,Shut (∀ a w,S w→(S w→wpAnyH P .any l.toArray Q S fuel (listed.setIfInBounds i true) a w)→K' a w)→if Region.wanted o (yielded l.toArray a.tmps)=true then Oper.wp P o a w K' Q else K' (a.put o.dst undef) w)
    (h':∀ K':Act→World→Prop,Shut (∀ a w,S w→(S w→wpAnyH P .any l.toArray Q S fuel (listed.setIfInBounds j true) a w)→K' a w)→if Region.wanted o' (yielded l.toArray a.tmps)=true then Oper.wp P o' a w K' Q else K' (a.put o'.dst undef) w)
    (h'':∀ K':Act→World→Prop,Shut (∀ a w,S w→(S w→wpAnyH P .any l.toArray Q S fuel (listed.setIfInBounds k true) a w)→K' a w)→if Region.wanted o'' (yielded l.toArray a.tmps)=true then Oper.wp P o'' a w K' Q else K' (a.put o''.dst undef) w)
    (hr:Region.ready .any l.toArray listed=[i,j,k]:=by kernel_rfl):wpAnyH P .any l.toArray Q S (fuel+1) listed a w :=
  wpAnyH_ready hr (by simp) (AllReadyH.cons (by simpa using drop_get hl) h (AllReadyH.cons (by simpa using drop_get hl') h' (AllReadyH.cons (by simpa using drop_get hl'') h'' AllReadyH.nil)))
/-- A log does not lie in a box. -/
def Away (a:Option Addr) (n r:Nat):Prop:=∀ ad,a=some ad→n≠0→ad.block≠r
theorem known_new:(newP ⟨3,5,1000,0,9,false⟩ 10).v none 0 0=.agg #[.int .i64 10,.int .i64 0,.int .i64 0,.slice none 0 0]:=by kernel_rfl
theorem known_run:runP ⟨3,5,1000,0,9,false⟩ (newP ⟨3,5,1000,0,9,false⟩ 10) [⟨1,0,5⟩,⟨1,0,1⟩]=(⟨10,0,0,[(10,5)]⟩,[true,false]):=by kernel_rfl
theorem known_most:mostP ⟨3,5,1000,0,9,false⟩=5:=by kernel_rfl
theorem known_chk:chkP ⟨0,0,0,0,0,false⟩=2:=by kernel_rfl
theorem known_log:(newP ⟨3,5,1000,0,9,false⟩ 10).log=[]:=by kernel_rfl
theorem known_acts (w:World) (q:Nat) (h:X3 w q 1 0 5 (w.cell? ⟨q,3,none⟩=some (.int .i64 1)∧w.cell? ⟨q,4,none⟩=some (.int .i64 0)∧w.cell? ⟨q,5,none⟩=some (.int .i64 1))) :
    ActsIn w (some ⟨q,0,none⟩) 2 2 [⟨1,0,5⟩,⟨1,0,1⟩] :=
  ⟨rfl,by omega,by omega,fun i hi=>⟨q,0,rfl,by
    obtain⟨h0,h1,h2,h3,h4,h5⟩:=h
    rcases i with _|_|i
    · exact⟨h0,h1,h2⟩
    · exact⟨h3,h4,h5⟩
    · omega⟩⟩
theorem known_bools {w:World} {base m:Nat} {vb:Value} (h:OwnB w base vb m [true,false]):∃ g cap,vb=.slice (some ⟨g,0,none⟩) 2 cap∧base≤g∧w.cell? ⟨g,0,none⟩=some (.bool true)∧w.cell? ⟨g,1,none⟩=some (.bool false):=by
  have hm:m=2:=by have:=h.1;simp at this;omega
  subst hm
  rcases h.2 with⟨-,hx⟩|⟨g,cap,cur,rfl,h2,h3,h4⟩
  · cases hx
  · exact⟨g,cap,rfl,h2,by rw[World.ownsRow.cellAt h 0 (by simp)];rfl,by rw[World.ownsRow.cellAt h 1 (by simp)];rfl⟩

theorem known_yes (w:World):Calls Tryz.prog 14 #[] w fun e w'=>e=.returned (.bool true)∧Below w.heap.size w w':=by
  have hnew:=lnew_any ⟨3,5,1000,0,9,false⟩ 10
  rw[known_new] at hnew
  have hrun:=fun la m lc W h1 h2 h3 h4=>run_any ⟨3,5,1000,0,9,false⟩ (newP ⟨3,5,1000,0,9,false⟩ 10) [⟨1,0,5⟩,⟨1,0,1⟩] none 0 0 la m lc W h1 h2 h3 h4
  rw[known_run,known_new] at hrun
  have hmost:=lmost_any ⟨3,5,1000,0,9,false⟩
  rw[known_most] at hmost
  have hchk:=lcheck_any ⟨0,0,0,0,0,false⟩
  rw[known_chk] at hchk
  unfold Pol.v at *
  dsimp only at *
  have HN:=Go.Lib.hid hnew
  have HR:=Go.Lib.hid hrun
  have HM:=Go.Lib.hid hmost
  have HC:=Go.Lib.hid hchk
  clear hnew hrun hmost hchk
  go_enter Tryz.func14,Tryz.ntmps14
  go_wp2_with fail
  refine wp_abs (S0:=fun w'=>P6 w' (w.heap.size) 3 5 1000 0 9 false (Below w.heap.size w w')) ⟨by go_simp,by go_simp,by go_simp,by go_simp,by go_simp,by go_simp,bl_alloc (bl_refl _) _⟩ ?_
  rintro W ⟨c0,c1,c2,c3,c4,c5,hB⟩
  refine wp_region_held_drew (S:=fun w'=>P6 w' (w.heap.size) 3 5 1000 0 9 false (Below w.heap.size w w')) (by kernel_rfl) ?_ (fun hHeld=>?_)
  · exact⟨c0,c1,c2,c3,c4,c5,bl_drew hB⟩
  try simp only[Act.put,List.setIfInBounds_toArray,List.set_cons_zero,List.set_cons_succ]
  refine wpAnyH_abs (F:=fun X=>True) hHeld trivial (fun W0 hHeld hF=>?_)
  clear hF c0 c1 c2 c3 c4 c5 hB
  refine tkx 0 ?_
  refine tkx 1 ?_
  refine tkx 3 ?_
  refine tkx 4 ?_
  refine callC3 (i:=2) (j:=5) (k:=10) rfl rfl rfl (fun K hK=>?_) (fun K hK=>?_) (fun K hK=>?_)
  · go_simp
    refine(HN.out _).mono ?_
    rintro e w1 ⟨rfl,hb⟩
    go_wp2_with fail
    refine hK.out _ _ ?_ (fun hHeld'=>?_)
    · obtain⟨h0,h1,h2,h3,h4,h5,hB'⟩:=hHeld
      exact⟨bl_cell hb h0,bl_cell hb h1,bl_cell hb h2,bl_cell hb h3,bl_cell hb h4,bl_cell hb h5,bl_then hB' hb⟩
    clear hK K
    refine wpAnyH_abs (F:=fun X=>True) hHeld' trivial (fun W1 hHeld9 hF=>?_)
    clear hHeld hHeld' hb 
    have hHeld:=hHeld9
    clear hHeld9
    try simp only[Act.put,List.setIfInBounds_toArray,List.set_cons_zero,List.set_cons_succ]
    refine callC2 (i:=5) (j:=10) rfl rfl (fun K hK=>?_) (fun K hK=>?_)
    · go_simp
      have hb:=bl_alloc (bl_refl W1) (.cells #[.int .i64 1,.int .i64 0,.int .i64 5,.int .i64 1,.int .i64 0,.int .i64 1] 46)
      refine hK.out _ _ ?_ (fun hHeld'=>?_)
      · obtain⟨h0,h1,h2,h3,h4,h5,hB'⟩:=hHeld
        exact⟨bl_cell hb h0,bl_cell hb h1,bl_cell hb h2,bl_cell hb h3,bl_cell hb h4,bl_cell hb h5,bl_then hB' hb⟩
      clear hK K
      refine wpAnyH_abs (F:=fun X=>X3 X (W1.heap.size) 1 0 5 (X.cell? ⟨W1.heap.size,3,none⟩=some (.int .i64 1)∧X.cell? ⟨W1.heap.size,4,none⟩=some (.int .i64 0)∧X.cell? ⟨W1.heap.size,5,none⟩=some (.int .i64 1))) hHeld' ⟨by go_simp,by go_simp,by go_simp,by go_simp,by go_simp,by go_simp⟩ (fun W2 hHeld9 hF=>?_)
      clear hHeld hHeld' hb 
      have hHeld:=hHeld9
      clear hHeld9
      obtain⟨L0,L1,L2,L3,L4,L5⟩:=hF
      generalize W1.heap.size=q at *
      try simp only[Act.put,List.setIfInBounds_toArray,List.set_cons_zero,List.set_cons_succ]
      refine callC2 (i:=6) (j:=10) rfl rfl (fun K hK=>?_) (fun K hK=>?_)
      · have hac:=known_acts _ q ⟨L0,L1,L2,L3,L4,L5⟩
        go_simp
        refine(HR.out _ 2 2 _ (by rw[known_log];exact log_nil _ _ _ (by omega)) (by omega) hac (by omega)).mono ?_
        rintro e w1 ⟨a1,n1,c1,m1,vb,rfl,-,-,hob,hb⟩
        obtain⟨g,cap,rfl,hgb,G0,G1⟩:=known_bools hob
        unfold St.v
        dsimp only
        go_wp2_with fail
        refine hK.out _ _ ?_ (fun hHeld'=>?_)
        · obtain⟨h0,h1,h2,h3,h4,h5,hB'⟩:=hHeld
          exact⟨bl_cell hb h0,bl_cell hb h1,bl_cell hb h2,bl_cell hb h3,bl_cell hb h4,bl_cell hb h5,bl_then hB' hb⟩
        clear hK K
        refine wpAnyH_abs (F:=fun X=>X.cell? ⟨g,0,none⟩=some (.bool true)∧X.cell? ⟨g,1,none⟩=some (.bool false)) hHeld' ⟨G0,G1⟩ (fun W3 hHeld9 hF=>?_)
        clear hHeld hHeld' hb L0 L1 L2 L3 L4 L5
        have hHeld:=hHeld9
        clear hHeld9
        obtain⟨G0,G1⟩:=hF
        try simp only[Act.put,List.setIfInBounds_toArray,List.set_cons_zero,List.set_cons_succ]
        refine tkx 7 ?_
        refine tkx 8 ?_
        refine tkx 9 ?_
        refine callC (i:=10) rfl (fun K hK=>?_)
        have hlt:=World.block_lt_of_cell? W3 _ hHeld.1
        dsimp only at hlt
        go_simp
        have hb:=bl_alloc (bl_refl W3) (.cells #[.int .i64 0,.int .i64 0,.int .i64 0,.slice none 0 0] 26)
        have hgl:=World.block_lt_of_cell? W3 _ G0
        dsimp only at hgl
        refine hK.out _ _ ?_ (fun hHeld'=>?_)
        · obtain⟨h0,h1,h2,h3,h4,h5,hB'⟩:=hHeld
          exact⟨bl_cell hb h0,bl_cell hb h1,bl_cell hb h2,bl_cell hb h3,bl_cell hb h4,bl_cell hb h5,bl_then hB' hb⟩
        clear hK K
        refine wpAnyH_abs (F:=fun X=>ResB X W3.heap.size∧w.heap.size<W3.heap.size∧X.cell? ⟨g,0,none⟩=some (.bool true)∧X.cell? ⟨g,1,none⟩=some (.bool false)∧g≠W3.heap.size) hHeld' ⟨res_new _ _ _ _ _ _ rfl,hlt,bl_cell hb G0,bl_cell hb G1,Nat.ne_of_lt hgl⟩ (fun W4 hHeld9 hF=>?_)
        clear hHeld hHeld' hb G0 G1
        have hHeld:=hHeld9
        clear hHeld9
        obtain⟨hRes,hrw,G0,G1,hgr⟩:=hF
        generalize W3.heap.size=r at *
        try simp only[Act.put,List.setIfInBounds_toArray,List.set_cons_zero,List.set_cons_succ]
        refine callC (i:=11) rfl (fun K hK=>?_)
        obtain⟨f0,f1,f2,f3,u0,u1,u2,u3,i0,i1,i2,i3⟩:=res_all hRes
        go_simp
        obtain⟨h0,h1,h2,h3,h4,h5,hB'⟩:=hHeld
        have e0:r≠w.heap.size:=by omega
        have e1:r≠g:=fun e=>hgr e.symm
        refine hK.out _ _ ?_ (fun hHeld=>?_)
        · exact⟨far4 h0 e0,far4 h1 e0,far4 h2 e0,far4 h3 e0,far4 h4 e0,far4 h5 e0,bl4 hB' (by omega)⟩
        clear hK K
        obtain⟨s0,-,-,-⟩:=set4r (v0:=.int .i64 10) (v1:=.int .i64 0) (v2:=.int .i64 0) (v3:=.slice a1 n1 c1) hRes
        have g0:=far4 (v0:=.int .i64 10) (v1:=.int .i64 0) (v2:=.int .i64 0) (v3:=.slice a1 n1 c1) G0 e1
        have g1:=far4 (v0:=.int .i64 10) (v1:=.int .i64 0) (v2:=.int .i64 0) (v3:=.slice a1 n1 c1) G1 e1
        try simp only[Act.put,List.setIfInBounds_toArray,List.set_cons_zero,List.set_cons_succ]
        refine tkx 12 ?_
        refine wpAnyH_done (by kernel_rfl) ?_ _
        refine then_abs (F:=fun X=>(fun w'=>P6 w' (w.heap.size) 3 5 1000 0 9 false (Below w.heap.size w w')) X∧X.cell? ⟨r,0,none⟩=some (.int .i64 10)∧X.cell? ⟨g,0,none⟩=some (.bool true)∧X.cell? ⟨g,1,none⟩=some (.bool false)) ⟨hHeld,s0,g0,g1⟩ ?_
        clear s0 g0 g1 hHeld h0 h1 h2 h3 h4 h5 hB' hRes G0 G1 i0 i1 i2 i3 f0 f1 f2 f3
        rintro X ⟨⟨h0,h1,h2,h3,h4,h5,hB⟩,s0,g0,g1⟩
        go_wp2_with fail
        refine(HM.out _).mono ?_
        rintro e w7 ⟨rfl,hb⟩
        have k0:=bl_cell hb h0
        have k1:=bl_cell hb h1
        have k2:=bl_cell hb h2
        have k3:=bl_cell hb h3
        have k4:=bl_cell hb h4
        have k5:=bl_cell hb h5
        have hB7:=bl_then hB hb
        go_wp2_with fail
        refine(HC.out _).mono ?_
        rintro e w8 ⟨rfl,hb8⟩
        go_wp2_with fail
        go_ret
        exact⟨rfl,bl_then hB7 hb8⟩
      · have hlt:=World.block_lt_of_cell? W2 _ hHeld.1
        dsimp only at hlt
        go_simp
        have hb:=bl_alloc (bl_refl W2) (.cells #[.int .i64 0,.int .i64 0,.int .i64 0,.slice none 0 0] 26)
        refine hK.out _ _ ?_ (fun hHeld'=>?_)
        · obtain⟨h0,h1,h2,h3,h4,h5,hB'⟩:=hHeld
          exact⟨bl_cell hb h0,bl_cell hb h1,bl_cell hb h2,bl_cell hb h3,bl_cell hb h4,bl_cell hb h5,bl_then hB' hb⟩
        clear hK K
        refine wpAnyH_abs (F:=fun X=>X3 X q 1 0 5 (X.cell? ⟨q,3,none⟩=some (.int .i64 1)∧X.cell? ⟨q,4,none⟩=some (.int .i64 0)∧X.cell? ⟨q,5,none⟩=some (.int .i64 1)∧ResB X W2.heap.size∧w.heap.size<W2.heap.size)) hHeld' ⟨bl_cell hb L0,bl_cell hb L1,bl_cell hb L2,bl_cell hb L3,bl_cell hb L4,bl_cell hb L5,res_new _ _ _ _ _ _ rfl,hlt⟩ (fun W3 hHeld9 hF=>?_)
        clear hHeld hHeld' hb L0 L1 L2 L3 L4 L5
        have hHeld:=hHeld9
        clear hHeld9
        obtain⟨L0,L1,L2,L3,L4,L5,hRes,hrw⟩:=hF
        generalize W2.heap.size=r at *
        try simp only[Act.put,List.setIfInBounds_toArray,List.set_cons_zero,List.set_cons_succ]
        refine callC (i:=6) rfl (fun K hK=>?_)
        have hac:=known_acts _ q ⟨L0,L1,L2,L3,L4,L5⟩
        go_simp
        refine(HR.out _ 2 2 _ (by rw[known_log];exact log_nil _ _ _ (by omega)) (by omega) hac (by omega)).mono ?_
        rintro e w1 ⟨a1,n1,c1,m1,vb,rfl,-,-,hob,hb⟩
        obtain⟨g,cap,rfl,hgb,G0,G1⟩:=known_bools hob
        have hrl:=res_lt hRes
        unfold St.v
        dsimp only
        go_wp2_with fail
        refine hK.out _ _ ?_ (fun hHeld'=>?_)
        · obtain⟨h0,h1,h2,h3,h4,h5,hB'⟩:=hHeld
          exact⟨bl_cell hb h0,bl_cell hb h1,bl_cell hb h2,bl_cell hb h3,bl_cell hb h4,bl_cell hb h5,bl_then hB' hb⟩
        clear hK K
        refine wpAnyH_abs (F:=fun X=>ResB X r∧w.heap.size<r∧X.cell? ⟨g,0,none⟩=some (.bool true)∧X.cell? ⟨g,1,none⟩=some (.bool false)∧g≠r) hHeld' ⟨res_bl hRes hb,hrw,G0,G1,by omega⟩ (fun W4 hHeld9 hF=>?_)
        clear hHeld hHeld' hb L0 L1 L2 L3 L4 L5 hRes hrw
        have hHeld:=hHeld9
        clear hHeld9
        obtain⟨hRes,hrw,G0,G1,hgr⟩:=hF
        try simp only[Act.put,List.setIfInBounds_toArray,List.set_cons_zero,List.set_cons_succ]
        refine tkx 7 ?_
        refine tkx 8 ?_
        refine tkx 9 ?_
        refine callC (i:=11) rfl (fun K hK=>?_)
        obtain⟨f0,f1,f2,f3,u0,u1,u2,u3,i0,i1,i2,i3⟩:=res_all hRes
        go_simp
        obtain⟨h0,h1,h2,h3,h4,h5,hB'⟩:=hHeld
        have e0:r≠w.heap.size:=by omega
        have e1:r≠g:=fun e=>hgr e.symm
        refine hK.out _ _ ?_ (fun hHeld=>?_)
        · exact⟨far4 h0 e0,far4 h1 e0,far4 h2 e0,far4 h3 e0,far4 h4 e0,far4 h5 e0,bl4 hB' (by omega)⟩
        clear hK K
        obtain⟨s0,-,-,-⟩:=set4r (v0:=.int .i64 10) (v1:=.int .i64 0) (v2:=.int .i64 0) (v3:=.slice a1 n1 c1) hRes
        have g0:=far4 (v0:=.int .i64 10) (v1:=.int .i64 0) (v2:=.int .i64 0) (v3:=.slice a1 n1 c1) G0 e1
        have g1:=far4 (v0:=.int .i64 10) (v1:=.int .i64 0) (v2:=.int .i64 0) (v3:=.slice a1 n1 c1) G1 e1
        try simp only[Act.put,List.setIfInBounds_toArray,List.set_cons_zero,List.set_cons_succ]
        refine tkx 12 ?_
        refine wpAnyH_done (by kernel_rfl) ?_ _
        refine then_abs (F:=fun X=>(fun w'=>P6 w' (w.heap.size) 3 5 1000 0 9 false (Below w.heap.size w w')) X∧X.cell? ⟨r,0,none⟩=some (.int .i64 10)∧X.cell? ⟨g,0,none⟩=some (.bool true)∧X.cell? ⟨g,1,none⟩=some (.bool false)) ⟨hHeld,s0,g0,g1⟩ ?_
        clear s0 g0 g1 hHeld h0 h1 h2 h3 h4 h5 hB' hRes G0 G1 i0 i1 i2 i3 f0 f1 f2 f3
        rintro X ⟨⟨h0,h1,h2,h3,h4,h5,hB⟩,s0,g0,g1⟩
        go_wp2_with fail
        refine(HM.out _).mono ?_
        rintro e w7 ⟨rfl,hb⟩
        have k0:=bl_cell hb h0
        have k1:=bl_cell hb h1
        have k2:=bl_cell hb h2
        have k3:=bl_cell hb h3
        have k4:=bl_cell hb h4
        have k5:=bl_cell hb h5
        have hB7:=bl_then hB hb
        go_wp2_with fail
        refine(HC.out _).mono ?_
        rintro e w8 ⟨rfl,hb8⟩
        go_wp2_with fail
        go_ret
        exact⟨rfl,bl_then hB7 hb8⟩
    · have hlt:=World.block_lt_of_cell? W1 _ hHeld.1
      dsimp only at hlt
      go_simp
      have hb:=bl_alloc (bl_refl W1) (.cells #[.int .i64 0,.int .i64 0,.int .i64 0,.slice none 0 0] 26)
      refine hK.out _ _ ?_ (fun hHeld'=>?_)
      · obtain⟨h0,h1,h2,h3,h4,h5,hB'⟩:=hHeld
        exact⟨bl_cell hb h0,bl_cell hb h1,bl_cell hb h2,bl_cell hb h3,bl_cell hb h4,bl_cell hb h5,bl_then hB' hb⟩
      clear hK K
      refine wpAnyH_abs (F:=fun X=>ResB X W1.heap.size∧w.heap.size<W1.heap.size) hHeld' ⟨res_new _ _ _ _ _ _ rfl,hlt⟩ (fun W2 hHeld9 hF=>?_)
      clear hHeld hHeld' hb 
      have hHeld:=hHeld9
      clear hHeld9
      obtain⟨hRes,hrw⟩:=hF
      generalize W1.heap.size=r at *
      try simp only[Act.put,List.setIfInBounds_toArray,List.set_cons_zero,List.set_cons_succ]
      refine callC (i:=5) rfl (fun K hK=>?_)
      go_simp
      have hb:=bl_alloc (bl_refl W2) (.cells #[.int .i64 1,.int .i64 0,.int .i64 5,.int .i64 1,.int .i64 0,.int .i64 1] 46)
      refine hK.out _ _ ?_ (fun hHeld'=>?_)
      · obtain⟨h0,h1,h2,h3,h4,h5,hB'⟩:=hHeld
        exact⟨bl_cell hb h0,bl_cell hb h1,bl_cell hb h2,bl_cell hb h3,bl_cell hb h4,bl_cell hb h5,bl_then hB' hb⟩
      clear hK K
      refine wpAnyH_abs (F:=fun X=>X3 X (W2.heap.size) 1 0 5 (X.cell? ⟨W2.heap.size,3,none⟩=some (.int .i64 1)∧X.cell? ⟨W2.heap.size,4,none⟩=some (.int .i64 0)∧X.cell? ⟨W2.heap.size,5,none⟩=some (.int .i64 1)∧ResB X r∧w.heap.size<r)) hHeld' ⟨by go_simp,by go_simp,by go_simp,by go_simp,by go_simp,by go_simp,res_bl hRes hb,hrw⟩ (fun W3 hHeld9 hF=>?_)
      clear hHeld hHeld' hb hRes hrw
      have hHeld:=hHeld9
      clear hHeld9
      obtain⟨L0,L1,L2,L3,L4,L5,hRes,hrw⟩:=hF
      generalize W2.heap.size=q at *
      try simp only[Act.put,List.setIfInBounds_toArray,List.set_cons_zero,List.set_cons_succ]
      refine callC (i:=6) rfl (fun K hK=>?_)
      have hac:=known_acts _ q ⟨L0,L1,L2,L3,L4,L5⟩
      go_simp
      refine(HR.out _ 2 2 _ (by rw[known_log];exact log_nil _ _ _ (by omega)) (by omega) hac (by omega)).mono ?_
      rintro e w1 ⟨a1,n1,c1,m1,vb,rfl,-,-,hob,hb⟩
      obtain⟨g,cap,rfl,hgb,G0,G1⟩:=known_bools hob
      have hrl:=res_lt hRes
      unfold St.v
      dsimp only
      go_wp2_with fail
      refine hK.out _ _ ?_ (fun hHeld'=>?_)
      · obtain⟨h0,h1,h2,h3,h4,h5,hB'⟩:=hHeld
        exact⟨bl_cell hb h0,bl_cell hb h1,bl_cell hb h2,bl_cell hb h3,bl_cell hb h4,bl_cell hb h5,bl_then hB' hb⟩
      clear hK K
      refine wpAnyH_abs (F:=fun X=>ResB X r∧w.heap.size<r∧X.cell? ⟨g,0,none⟩=some (.bool true)∧X.cell? ⟨g,1,none⟩=some (.bool false)∧g≠r) hHeld' ⟨res_bl hRes hb,hrw,G0,G1,by omega⟩ (fun W4 hHeld9 hF=>?_)
      clear hHeld hHeld' hb L0 L1 L2 L3 L4 L5 hRes hrw
      have hHeld:=hHeld9
      clear hHeld9
      obtain⟨hRes,hrw,G0,G1,hgr⟩:=hF
      try simp only[Act.put,List.setIfInBounds_toArray,List.set_cons_zero,List.set_cons_succ]
      refine tkx 7 ?_
      refine tkx 8 ?_
      refine tkx 9 ?_
      refine callC (i:=11) rfl (fun K hK=>?_)
      obtain⟨f0,f1,f2,f3,u0,u1,u2,u3,i0,i1,i2,i3⟩:=res_all hRes
      go_simp
      obtain⟨h0,h1,h2,h3,h4,h5,hB'⟩:=hHeld
      have e0:r≠w.heap.size:=by omega
      have e1:r≠g:=fun e=>hgr e.symm
      refine hK.out _ _ ?_ (fun hHeld=>?_)
      · exact⟨far4 h0 e0,far4 h1 e0,far4 h2 e0,far4 h3 e0,far4 h4 e0,far4 h5 e0,bl4 hB' (by omega)⟩
      clear hK K
      obtain⟨s0,-,-,-⟩:=set4r (v0:=.int .i64 10) (v1:=.int .i64 0) (v2:=.int .i64 0) (v3:=.slice a1 n1 c1) hRes
      have g0:=far4 (v0:=.int .i64 10) (v1:=.int .i64 0) (v2:=.int .i64 0) (v3:=.slice a1 n1 c1) G0 e1
      have g1:=far4 (v0:=.int .i64 10) (v1:=.int .i64 0) (v2:=.int .i64 0) (v3:=.slice a1 n1 c1) G1 e1
      try simp only[Act.put,List.setIfInBounds_toArray,List.set_cons_zero,List.set_cons_succ]
      refine tkx 12 ?_
      refine wpAnyH_done (by kernel_rfl) ?_ _
      refine then_abs (F:=fun X=>(fun w'=>P6 w' (w.heap.size) 3 5 1000 0 9 false (Below w.heap.size w w')) X∧X.cell? ⟨r,0,none⟩=some (.int .i64 10)∧X.cell? ⟨g,0,none⟩=some (.bool true)∧X.cell? ⟨g,1,none⟩=some (.bool false)) ⟨hHeld,s0,g0,g1⟩ ?_
      clear s0 g0 g1 hHeld h0 h1 h2 h3 h4 h5 hB' hRes G0 G1 i0 i1 i2 i3 f0 f1 f2 f3
      rintro X ⟨⟨h0,h1,h2,h3,h4,h5,hB⟩,s0,g0,g1⟩
      go_wp2_with fail
      refine(HM.out _).mono ?_
      rintro e w7 ⟨rfl,hb⟩
      have k0:=bl_cell hb h0
      have k1:=bl_cell hb h1
      have k2:=bl_cell hb h2
      have k3:=bl_cell hb h3
      have k4:=bl_cell hb h4
      have k5:=bl_cell hb h5
      have hB7:=bl_then hB hb
      go_wp2_with fail
      refine(HC.out _).mono ?_
      rintro e w8 ⟨rfl,hb8⟩
      go_wp2_with fail
      go_ret
      exact⟨rfl,bl_then hB7 hb8⟩
  · go_simp
    have hb:=bl_alloc (bl_refl W0) (.cells #[.int .i64 1,.int .i64 0,.int .i64 5,.int .i64 1,.int .i64 0,.int .i64 1] 46)
    refine hK.out _ _ ?_ (fun hHeld'=>?_)
    · obtain⟨h0,h1,h2,h3,h4,h5,hB'⟩:=hHeld
      exact⟨bl_cell hb h0,bl_cell hb h1,bl_cell hb h2,bl_cell hb h3,bl_cell hb h4,bl_cell hb h5,bl_then hB' hb⟩
    clear hK K
    refine wpAnyH_abs (F:=fun X=>X3 X (W0.heap.size) 1 0 5 (X.cell? ⟨W0.heap.size,3,none⟩=some (.int .i64 1)∧X.cell? ⟨W0.heap.size,4,none⟩=some (.int .i64 0)∧X.cell? ⟨W0.heap.size,5,none⟩=some (.int .i64 1))) hHeld' ⟨by go_simp,by go_simp,by go_simp,by go_simp,by go_simp,by go_simp⟩ (fun W1 hHeld9 hF=>?_)
    clear hHeld hHeld' hb 
    have hHeld:=hHeld9
    clear hHeld9
    obtain⟨L0,L1,L2,L3,L4,L5⟩:=hF
    generalize W0.heap.size=q at *
    try simp only[Act.put,List.setIfInBounds_toArray,List.set_cons_zero,List.set_cons_succ]
    refine callC2 (i:=2) (j:=10) rfl rfl (fun K hK=>?_) (fun K hK=>?_)
    · go_simp
      refine(HN.out _).mono ?_
      rintro e w1 ⟨rfl,hb⟩
      go_wp2_with fail
      refine hK.out _ _ ?_ (fun hHeld'=>?_)
      · obtain⟨h0,h1,h2,h3,h4,h5,hB'⟩:=hHeld
        exact⟨bl_cell hb h0,bl_cell hb h1,bl_cell hb h2,bl_cell hb h3,bl_cell hb h4,bl_cell hb h5,bl_then hB' hb⟩
      clear hK K
      refine wpAnyH_abs (F:=fun X=>X3 X q 1 0 5 (X.cell? ⟨q,3,none⟩=some (.int .i64 1)∧X.cell? ⟨q,4,none⟩=some (.int .i64 0)∧X.cell? ⟨q,5,none⟩=some (.int .i64 1))) hHeld' ⟨bl_cell hb L0,bl_cell hb L1,bl_cell hb L2,bl_cell hb L3,bl_cell hb L4,bl_cell hb L5⟩ (fun W2 hHeld9 hF=>?_)
      clear hHeld hHeld' hb L0 L1 L2 L3 L4 L5
      have hHeld:=hHeld9
      clear hHeld9
      obtain⟨L0,L1,L2,L3,L4,L5⟩:=hF
      try simp only[Act.put,List.setIfInBounds_toArray,List.set_cons_zero,List.set_cons_succ]
      refine callC2 (i:=6) (j:=10) rfl rfl (fun K hK=>?_) (fun K hK=>?_)
      · have hac:=known_acts _ q ⟨L0,L1,L2,L3,L4,L5⟩
        go_simp
        refine(HR.out _ 2 2 _ (by rw[known_log];exact log_nil _ _ _ (by omega)) (by omega) hac (by omega)).mono ?_
        rintro e w1 ⟨a1,n1,c1,m1,vb,rfl,-,-,hob,hb⟩
        obtain⟨g,cap,rfl,hgb,G0,G1⟩:=known_bools hob
        unfold St.v
        dsimp only
        go_wp2_with fail
        refine hK.out _ _ ?_ (fun hHeld'=>?_)
        · obtain⟨h0,h1,h2,h3,h4,h5,hB'⟩:=hHeld
          exact⟨bl_cell hb h0,bl_cell hb h1,bl_cell hb h2,bl_cell hb h3,bl_cell hb h4,bl_cell hb h5,bl_then hB' hb⟩
        clear hK K
        refine wpAnyH_abs (F:=fun X=>X.cell? ⟨g,0,none⟩=some (.bool true)∧X.cell? ⟨g,1,none⟩=some (.bool false)) hHeld' ⟨G0,G1⟩ (fun W3 hHeld9 hF=>?_)
        clear hHeld hHeld' hb L0 L1 L2 L3 L4 L5
        have hHeld:=hHeld9
        clear hHeld9
        obtain⟨G0,G1⟩:=hF
        try simp only[Act.put,List.setIfInBounds_toArray,List.set_cons_zero,List.set_cons_succ]
        refine tkx 7 ?_
        refine tkx 8 ?_
        refine tkx 9 ?_
        refine callC (i:=10) rfl (fun K hK=>?_)
        have hlt:=World.block_lt_of_cell? W3 _ hHeld.1
        dsimp only at hlt
        go_simp
        have hb:=bl_alloc (bl_refl W3) (.cells #[.int .i64 0,.int .i64 0,.int .i64 0,.slice none 0 0] 26)
        have hgl:=World.block_lt_of_cell? W3 _ G0
        dsimp only at hgl
        refine hK.out _ _ ?_ (fun hHeld'=>?_)
        · obtain⟨h0,h1,h2,h3,h4,h5,hB'⟩:=hHeld
          exact⟨bl_cell hb h0,bl_cell hb h1,bl_cell hb h2,bl_cell hb h3,bl_cell hb h4,bl_cell hb h5,bl_then hB' hb⟩
        clear hK K
        refine wpAnyH_abs (F:=fun X=>ResB X W3.heap.size∧w.heap.size<W3.heap.size∧X.cell? ⟨g,0,none⟩=some (.bool true)∧X.cell? ⟨g,1,none⟩=some (.bool false)∧g≠W3.heap.size) hHeld' ⟨res_new _ _ _ _ _ _ rfl,hlt,bl_cell hb G0,bl_cell hb G1,Nat.ne_of_lt hgl⟩ (fun W4 hHeld9 hF=>?_)
        clear hHeld hHeld' hb G0 G1
        have hHeld:=hHeld9
        clear hHeld9
        obtain⟨hRes,hrw,G0,G1,hgr⟩:=hF
        generalize W3.heap.size=r at *
        try simp only[Act.put,List.setIfInBounds_toArray,List.set_cons_zero,List.set_cons_succ]
        refine callC (i:=11) rfl (fun K hK=>?_)
        obtain⟨f0,f1,f2,f3,u0,u1,u2,u3,i0,i1,i2,i3⟩:=res_all hRes
        go_simp
        obtain⟨h0,h1,h2,h3,h4,h5,hB'⟩:=hHeld
        have e0:r≠w.heap.size:=by omega
        have e1:r≠g:=fun e=>hgr e.symm
        refine hK.out _ _ ?_ (fun hHeld=>?_)
        · exact⟨far4 h0 e0,far4 h1 e0,far4 h2 e0,far4 h3 e0,far4 h4 e0,far4 h5 e0,bl4 hB' (by omega)⟩
        clear hK K
        obtain⟨s0,-,-,-⟩:=set4r (v0:=.int .i64 10) (v1:=.int .i64 0) (v2:=.int .i64 0) (v3:=.slice a1 n1 c1) hRes
        have g0:=far4 (v0:=.int .i64 10) (v1:=.int .i64 0) (v2:=.int .i64 0) (v3:=.slice a1 n1 c1) G0 e1
        have g1:=far4 (v0:=.int .i64 10) (v1:=.int .i64 0) (v2:=.int .i64 0) (v3:=.slice a1 n1 c1) G1 e1
        try simp only[Act.put,List.setIfInBounds_toArray,List.set_cons_zero,List.set_cons_succ]
        refine tkx 12 ?_
        refine wpAnyH_done (by kernel_rfl) ?_ _
        refine then_abs (F:=fun X=>(fun w'=>P6 w' (w.heap.size) 3 5 1000 0 9 false (Below w.heap.size w w')) X∧X.cell? ⟨r,0,none⟩=some (.int .i64 10)∧X.cell? ⟨g,0,none⟩=some (.bool true)∧X.cell? ⟨g,1,none⟩=some (.bool false)) ⟨hHeld,s0,g0,g1⟩ ?_
        clear s0 g0 g1 hHeld h0 h1 h2 h3 h4 h5 hB' hRes G0 G1 i0 i1 i2 i3 f0 f1 f2 f3
        rintro X ⟨⟨h0,h1,h2,h3,h4,h5,hB⟩,s0,g0,g1⟩
        go_wp2_with fail
        refine(HM.out _).mono ?_
        rintro e w7 ⟨rfl,hb⟩
        have k0:=bl_cell hb h0
        have k1:=bl_cell hb h1
        have k2:=bl_cell hb h2
        have k3:=bl_cell hb h3
        have k4:=bl_cell hb h4
        have k5:=bl_cell hb h5
        have hB7:=bl_then hB hb
        go_wp2_with fail
        refine(HC.out _).mono ?_
        rintro e w8 ⟨rfl,hb8⟩
        go_wp2_with fail
        go_ret
        exact⟨rfl,bl_then hB7 hb8⟩
      · have hlt:=World.block_lt_of_cell? W2 _ hHeld.1
        dsimp only at hlt
        go_simp
        have hb:=bl_alloc (bl_refl W2) (.cells #[.int .i64 0,.int .i64 0,.int .i64 0,.slice none 0 0] 26)
        refine hK.out _ _ ?_ (fun hHeld'=>?_)
        · obtain⟨h0,h1,h2,h3,h4,h5,hB'⟩:=hHeld
          exact⟨bl_cell hb h0,bl_cell hb h1,bl_cell hb h2,bl_cell hb h3,bl_cell hb h4,bl_cell hb h5,bl_then hB' hb⟩
        clear hK K
        refine wpAnyH_abs (F:=fun X=>X3 X q 1 0 5 (X.cell? ⟨q,3,none⟩=some (.int .i64 1)∧X.cell? ⟨q,4,none⟩=some (.int .i64 0)∧X.cell? ⟨q,5,none⟩=some (.int .i64 1)∧ResB X W2.heap.size∧w.heap.size<W2.heap.size)) hHeld' ⟨bl_cell hb L0,bl_cell hb L1,bl_cell hb L2,bl_cell hb L3,bl_cell hb L4,bl_cell hb L5,res_new _ _ _ _ _ _ rfl,hlt⟩ (fun W3 hHeld9 hF=>?_)
        clear hHeld hHeld' hb L0 L1 L2 L3 L4 L5
        have hHeld:=hHeld9
        clear hHeld9
        obtain⟨L0,L1,L2,L3,L4,L5,hRes,hrw⟩:=hF
        generalize W2.heap.size=r at *
        try simp only[Act.put,List.setIfInBounds_toArray,List.set_cons_zero,List.set_cons_succ]
        refine callC (i:=6) rfl (fun K hK=>?_)
        have hac:=known_acts _ q ⟨L0,L1,L2,L3,L4,L5⟩
        go_simp
        refine(HR.out _ 2 2 _ (by rw[known_log];exact log_nil _ _ _ (by omega)) (by omega) hac (by omega)).mono ?_
        rintro e w1 ⟨a1,n1,c1,m1,vb,rfl,-,-,hob,hb⟩
        obtain⟨g,cap,rfl,hgb,G0,G1⟩:=known_bools hob
        have hrl:=res_lt hRes
        unfold St.v
        dsimp only
        go_wp2_with fail
        refine hK.out _ _ ?_ (fun hHeld'=>?_)
        · obtain⟨h0,h1,h2,h3,h4,h5,hB'⟩:=hHeld
          exact⟨bl_cell hb h0,bl_cell hb h1,bl_cell hb h2,bl_cell hb h3,bl_cell hb h4,bl_cell hb h5,bl_then hB' hb⟩
        clear hK K
        refine wpAnyH_abs (F:=fun X=>ResB X r∧w.heap.size<r∧X.cell? ⟨g,0,none⟩=some (.bool true)∧X.cell? ⟨g,1,none⟩=some (.bool false)∧g≠r) hHeld' ⟨res_bl hRes hb,hrw,G0,G1,by omega⟩ (fun W4 hHeld9 hF=>?_)
        clear hHeld hHeld' hb L0 L1 L2 L3 L4 L5 hRes hrw
        have hHeld:=hHeld9
        clear hHeld9
        obtain⟨hRes,hrw,G0,G1,hgr⟩:=hF
        try simp only[Act.put,List.setIfInBounds_toArray,List.set_cons_zero,List.set_cons_succ]
        refine tkx 7 ?_
        refine tkx 8 ?_
        refine tkx 9 ?_
        refine callC (i:=11) rfl (fun K hK=>?_)
        obtain⟨f0,f1,f2,f3,u0,u1,u2,u3,i0,i1,i2,i3⟩:=res_all hRes
        go_simp
        obtain⟨h0,h1,h2,h3,h4,h5,hB'⟩:=hHeld
        have e0:r≠w.heap.size:=by omega
        have e1:r≠g:=fun e=>hgr e.symm
        refine hK.out _ _ ?_ (fun hHeld=>?_)
        · exact⟨far4 h0 e0,far4 h1 e0,far4 h2 e0,far4 h3 e0,far4 h4 e0,far4 h5 e0,bl4 hB' (by omega)⟩
        clear hK K
        obtain⟨s0,-,-,-⟩:=set4r (v0:=.int .i64 10) (v1:=.int .i64 0) (v2:=.int .i64 0) (v3:=.slice a1 n1 c1) hRes
        have g0:=far4 (v0:=.int .i64 10) (v1:=.int .i64 0) (v2:=.int .i64 0) (v3:=.slice a1 n1 c1) G0 e1
        have g1:=far4 (v0:=.int .i64 10) (v1:=.int .i64 0) (v2:=.int .i64 0) (v3:=.slice a1 n1 c1) G1 e1
        try simp only[Act.put,List.setIfInBounds_toArray,List.set_cons_zero,List.set_cons_succ]
        refine tkx 12 ?_
        refine wpAnyH_done (by kernel_rfl) ?_ _
        refine then_abs (F:=fun X=>(fun w'=>P6 w' (w.heap.size) 3 5 1000 0 9 false (Below w.heap.size w w')) X∧X.cell? ⟨r,0,none⟩=some (.int .i64 10)∧X.cell? ⟨g,0,none⟩=some (.bool true)∧X.cell? ⟨g,1,none⟩=some (.bool false)) ⟨hHeld,s0,g0,g1⟩ ?_
        clear s0 g0 g1 hHeld h0 h1 h2 h3 h4 h5 hB' hRes G0 G1 i0 i1 i2 i3 f0 f1 f2 f3
        rintro X ⟨⟨h0,h1,h2,h3,h4,h5,hB⟩,s0,g0,g1⟩
        go_wp2_with fail
        refine(HM.out _).mono ?_
        rintro e w7 ⟨rfl,hb⟩
        have k0:=bl_cell hb h0
        have k1:=bl_cell hb h1
        have k2:=bl_cell hb h2
        have k3:=bl_cell hb h3
        have k4:=bl_cell hb h4
        have k5:=bl_cell hb h5
        have hB7:=bl_then hB hb
        go_wp2_with fail
        refine(HC.out _).mono ?_
        rintro e w8 ⟨rfl,hb8⟩
        go_wp2_with fail
        go_ret
        exact⟨rfl,bl_then hB7 hb8⟩
    · have hlt:=World.block_lt_of_cell? W1 _ hHeld.1
      dsimp only at hlt
      go_simp
      have hb:=bl_alloc (bl_refl W1) (.cells #[.int .i64 0,.int .i64 0,.int .i64 0,.slice none 0 0] 26)
      refine hK.out _ _ ?_ (fun hHeld'=>?_)
      · obtain⟨h0,h1,h2,h3,h4,h5,hB'⟩:=hHeld
        exact⟨bl_cell hb h0,bl_cell hb h1,bl_cell hb h2,bl_cell hb h3,bl_cell hb h4,bl_cell hb h5,bl_then hB' hb⟩
      clear hK K
      refine wpAnyH_abs (F:=fun X=>X3 X q 1 0 5 (X.cell? ⟨q,3,none⟩=some (.int .i64 1)∧X.cell? ⟨q,4,none⟩=some (.int .i64 0)∧X.cell? ⟨q,5,none⟩=some (.int .i64 1)∧ResB X W1.heap.size∧w.heap.size<W1.heap.size)) hHeld' ⟨bl_cell hb L0,bl_cell hb L1,bl_cell hb L2,bl_cell hb L3,bl_cell hb L4,bl_cell hb L5,res_new _ _ _ _ _ _ rfl,hlt⟩ (fun W2 hHeld9 hF=>?_)
      clear hHeld hHeld' hb L0 L1 L2 L3 L4 L5
      have hHeld:=hHeld9
      clear hHeld9
      obtain⟨L0,L1,L2,L3,L4,L5,hRes,hrw⟩:=hF
      generalize W1.heap.size=r at *
      try simp only[Act.put,List.setIfInBounds_toArray,List.set_cons_zero,List.set_cons_succ]
      refine callC (i:=2) rfl (fun K hK=>?_)
      go_simp
      refine(HN.out _).mono ?_
      rintro e w1 ⟨rfl,hb⟩
      go_wp2_with fail
      refine hK.out _ _ ?_ (fun hHeld'=>?_)
      · obtain⟨h0,h1,h2,h3,h4,h5,hB'⟩:=hHeld
        exact⟨bl_cell hb h0,bl_cell hb h1,bl_cell hb h2,bl_cell hb h3,bl_cell hb h4,bl_cell hb h5,bl_then hB' hb⟩
      clear hK K
      refine wpAnyH_abs (F:=fun X=>X3 X q 1 0 5 (X.cell? ⟨q,3,none⟩=some (.int .i64 1)∧X.cell? ⟨q,4,none⟩=some (.int .i64 0)∧X.cell? ⟨q,5,none⟩=some (.int .i64 1)∧ResB X r∧w.heap.size<r)) hHeld' ⟨bl_cell hb L0,bl_cell hb L1,bl_cell hb L2,bl_cell hb L3,bl_cell hb L4,bl_cell hb L5,res_bl hRes hb,hrw⟩ (fun W3 hHeld9 hF=>?_)
      clear hHeld hHeld' hb L0 L1 L2 L3 L4 L5 hRes hrw
      have hHeld:=hHeld9
      clear hHeld9
      obtain⟨L0,L1,L2,L3,L4,L5,hRes,hrw⟩:=hF
      try simp only[Act.put,List.setIfInBounds_toArray,List.set_cons_zero,List.set_cons_succ]
      refine callC (i:=6) rfl (fun K hK=>?_)
      have hac:=known_acts _ q ⟨L0,L1,L2,L3,L4,L5⟩
      go_simp
      refine(HR.out _ 2 2 _ (by rw[known_log];exact log_nil _ _ _ (by omega)) (by omega) hac (by omega)).mono ?_
      rintro e w1 ⟨a1,n1,c1,m1,vb,rfl,-,-,hob,hb⟩
      obtain⟨g,cap,rfl,hgb,G0,G1⟩:=known_bools hob
      have hrl:=res_lt hRes
      unfold St.v
      dsimp only
      go_wp2_with fail
      refine hK.out _ _ ?_ (fun hHeld'=>?_)
      · obtain⟨h0,h1,h2,h3,h4,h5,hB'⟩:=hHeld
        exact⟨bl_cell hb h0,bl_cell hb h1,bl_cell hb h2,bl_cell hb h3,bl_cell hb h4,bl_cell hb h5,bl_then hB' hb⟩
      clear hK K
      refine wpAnyH_abs (F:=fun X=>ResB X r∧w.heap.size<r∧X.cell? ⟨g,0,none⟩=some (.bool true)∧X.cell? ⟨g,1,none⟩=some (.bool false)∧g≠r) hHeld' ⟨res_bl hRes hb,hrw,G0,G1,by omega⟩ (fun W4 hHeld9 hF=>?_)
      clear hHeld hHeld' hb L0 L1 L2 L3 L4 L5 hRes hrw
      have hHeld:=hHeld9
      clear hHeld9
      obtain⟨hRes,hrw,G0,G1,hgr⟩:=hF
      try simp only[Act.put,List.setIfInBounds_toArray,List.set_cons_zero,List.set_cons_succ]
      refine tkx 7 ?_
      refine tkx 8 ?_
      refine tkx 9 ?_
      refine callC (i:=11) rfl (fun K hK=>?_)
      obtain⟨f0,f1,f2,f3,u0,u1,u2,u3,i0,i1,i2,i3⟩:=res_all hRes
      go_simp
      obtain⟨h0,h1,h2,h3,h4,h5,hB'⟩:=hHeld
      have e0:r≠w.heap.size:=by omega
      have e1:r≠g:=fun e=>hgr e.symm
      refine hK.out _ _ ?_ (fun hHeld=>?_)
      · exact⟨far4 h0 e0,far4 h1 e0,far4 h2 e0,far4 h3 e0,far4 h4 e0,far4 h5 e0,bl4 hB' (by omega)⟩
      clear hK K
      obtain⟨s0,-,-,-⟩:=set4r (v0:=.int .i64 10) (v1:=.int .i64 0) (v2:=.int .i64 0) (v3:=.slice a1 n1 c1) hRes
      have g0:=far4 (v0:=.int .i64 10) (v1:=.int .i64 0) (v2:=.int .i64 0) (v3:=.slice a1 n1 c1) G0 e1
      have g1:=far4 (v0:=.int .i64 10) (v1:=.int .i64 0) (v2:=.int .i64 0) (v3:=.slice a1 n1 c1) G1 e1
      try simp only[Act.put,List.setIfInBounds_toArray,List.set_cons_zero,List.set_cons_succ]
      refine tkx 12 ?_
      refine wpAnyH_done (by kernel_rfl) ?_ _
      refine then_abs (F:=fun X=>(fun w'=>P6 w' (w.heap.size) 3 5 1000 0 9 false (Below w.heap.size w w')) X∧X.cell? ⟨r,0,none⟩=some (.int .i64 10)∧X.cell? ⟨g,0,none⟩=some (.bool true)∧X.cell? ⟨g,1,none⟩=some (.bool false)) ⟨hHeld,s0,g0,g1⟩ ?_
      clear s0 g0 g1 hHeld h0 h1 h2 h3 h4 h5 hB' hRes G0 G1 i0 i1 i2 i3 f0 f1 f2 f3
      rintro X ⟨⟨h0,h1,h2,h3,h4,h5,hB⟩,s0,g0,g1⟩
      go_wp2_with fail
      refine(HM.out _).mono ?_
      rintro e w7 ⟨rfl,hb⟩
      have k0:=bl_cell hb h0
      have k1:=bl_cell hb h1
      have k2:=bl_cell hb h2
      have k3:=bl_cell hb h3
      have k4:=bl_cell hb h4
      have k5:=bl_cell hb h5
      have hB7:=bl_then hB hb
      go_wp2_with fail
      refine(HC.out _).mono ?_
      rintro e w8 ⟨rfl,hb8⟩
      go_wp2_with fail
      go_ret
      exact⟨rfl,bl_then hB7 hb8⟩
  · have hlt:=World.block_lt_of_cell? W0 _ hHeld.1
    dsimp only at hlt
    go_simp
    have hb:=bl_alloc (bl_refl W0) (.cells #[.int .i64 0,.int .i64 0,.int .i64 0,.slice none 0 0] 26)
    refine hK.out _ _ ?_ (fun hHeld'=>?_)
    · obtain⟨h0,h1,h2,h3,h4,h5,hB'⟩:=hHeld
      exact⟨bl_cell hb h0,bl_cell hb h1,bl_cell hb h2,bl_cell hb h3,bl_cell hb h4,bl_cell hb h5,bl_then hB' hb⟩
    clear hK K
    refine wpAnyH_abs (F:=fun X=>ResB X W0.heap.size∧w.heap.size<W0.heap.size) hHeld' ⟨res_new _ _ _ _ _ _ rfl,hlt⟩ (fun W1 hHeld9 hF=>?_)
    clear hHeld hHeld' hb 
    have hHeld:=hHeld9
    clear hHeld9
    obtain⟨hRes,hrw⟩:=hF
    generalize W0.heap.size=r at *
    try simp only[Act.put,List.setIfInBounds_toArray,List.set_cons_zero,List.set_cons_succ]
    refine callC2 (i:=2) (j:=5) rfl rfl (fun K hK=>?_) (fun K hK=>?_)
    · go_simp
      refine(HN.out _).mono ?_
      rintro e w1 ⟨rfl,hb⟩
      go_wp2_with fail
      refine hK.out _ _ ?_ (fun hHeld'=>?_)
      · obtain⟨h0,h1,h2,h3,h4,h5,hB'⟩:=hHeld
        exact⟨bl_cell hb h0,bl_cell hb h1,bl_cell hb h2,bl_cell hb h3,bl_cell hb h4,bl_cell hb h5,bl_then hB' hb⟩
      clear hK K
      refine wpAnyH_abs (F:=fun X=>ResB X r∧w.heap.size<r) hHeld' ⟨res_bl hRes hb,hrw⟩ (fun W2 hHeld9 hF=>?_)
      clear hHeld hHeld' hb hRes hrw
      have hHeld:=hHeld9
      clear hHeld9
      obtain⟨hRes,hrw⟩:=hF
      try simp only[Act.put,List.setIfInBounds_toArray,List.set_cons_zero,List.set_cons_succ]
      refine callC (i:=5) rfl (fun K hK=>?_)
      go_simp
      have hb:=bl_alloc (bl_refl W2) (.cells #[.int .i64 1,.int .i64 0,.int .i64 5,.int .i64 1,.int .i64 0,.int .i64 1] 46)
      refine hK.out _ _ ?_ (fun hHeld'=>?_)
      · obtain⟨h0,h1,h2,h3,h4,h5,hB'⟩:=hHeld
        exact⟨bl_cell hb h0,bl_cell hb h1,bl_cell hb h2,bl_cell hb h3,bl_cell hb h4,bl_cell hb h5,bl_then hB' hb⟩
      clear hK K
      refine wpAnyH_abs (F:=fun X=>X3 X (W2.heap.size) 1 0 5 (X.cell? ⟨W2.heap.size,3,none⟩=some (.int .i64 1)∧X.cell? ⟨W2.heap.size,4,none⟩=some (.int .i64 0)∧X.cell? ⟨W2.heap.size,5,none⟩=some (.int .i64 1)∧ResB X r∧w.heap.size<r)) hHeld' ⟨by go_simp,by go_simp,by go_simp,by go_simp,by go_simp,by go_simp,res_bl hRes hb,hrw⟩ (fun W3 hHeld9 hF=>?_)
      clear hHeld hHeld' hb hRes hrw
      have hHeld:=hHeld9
      clear hHeld9
      obtain⟨L0,L1,L2,L3,L4,L5,hRes,hrw⟩:=hF
      generalize W2.heap.size=q at *
      try simp only[Act.put,List.setIfInBounds_toArray,List.set_cons_zero,List.set_cons_succ]
      refine callC (i:=6) rfl (fun K hK=>?_)
      have hac:=known_acts _ q ⟨L0,L1,L2,L3,L4,L5⟩
      go_simp
      refine(HR.out _ 2 2 _ (by rw[known_log];exact log_nil _ _ _ (by omega)) (by omega) hac (by omega)).mono ?_
      rintro e w1 ⟨a1,n1,c1,m1,vb,rfl,-,-,hob,hb⟩
      obtain⟨g,cap,rfl,hgb,G0,G1⟩:=known_bools hob
      have hrl:=res_lt hRes
      unfold St.v
      dsimp only
      go_wp2_with fail
      refine hK.out _ _ ?_ (fun hHeld'=>?_)
      · obtain⟨h0,h1,h2,h3,h4,h5,hB'⟩:=hHeld
        exact⟨bl_cell hb h0,bl_cell hb h1,bl_cell hb h2,bl_cell hb h3,bl_cell hb h4,bl_cell hb h5,bl_then hB' hb⟩
      clear hK K
      refine wpAnyH_abs (F:=fun X=>ResB X r∧w.heap.size<r∧X.cell? ⟨g,0,none⟩=some (.bool true)∧X.cell? ⟨g,1,none⟩=some (.bool false)∧g≠r) hHeld' ⟨res_bl hRes hb,hrw,G0,G1,by omega⟩ (fun W4 hHeld9 hF=>?_)
      clear hHeld hHeld' hb L0 L1 L2 L3 L4 L5 hRes hrw
      have hHeld:=hHeld9
      clear hHeld9
      obtain⟨hRes,hrw,G0,G1,hgr⟩:=hF
      try simp only[Act.put,List.setIfInBounds_toArray,List.set_cons_zero,List.set_cons_succ]
      refine tkx 7 ?_
      refine tkx 8 ?_
      refine tkx 9 ?_
      refine callC (i:=11) rfl (fun K hK=>?_)
      obtain⟨f0,f1,f2,f3,u0,u1,u2,u3,i0,i1,i2,i3⟩:=res_all hRes
      go_simp
      obtain⟨h0,h1,h2,h3,h4,h5,hB'⟩:=hHeld
      have e0:r≠w.heap.size:=by omega
      have e1:r≠g:=fun e=>hgr e.symm
      refine hK.out _ _ ?_ (fun hHeld=>?_)
      · exact⟨far4 h0 e0,far4 h1 e0,far4 h2 e0,far4 h3 e0,far4 h4 e0,far4 h5 e0,bl4 hB' (by omega)⟩
      clear hK K
      obtain⟨s0,-,-,-⟩:=set4r (v0:=.int .i64 10) (v1:=.int .i64 0) (v2:=.int .i64 0) (v3:=.slice a1 n1 c1) hRes
      have g0:=far4 (v0:=.int .i64 10) (v1:=.int .i64 0) (v2:=.int .i64 0) (v3:=.slice a1 n1 c1) G0 e1
      have g1:=far4 (v0:=.int .i64 10) (v1:=.int .i64 0) (v2:=.int .i64 0) (v3:=.slice a1 n1 c1) G1 e1
      try simp only[Act.put,List.setIfInBounds_toArray,List.set_cons_zero,List.set_cons_succ]
      refine tkx 12 ?_
      refine wpAnyH_done (by kernel_rfl) ?_ _
      refine then_abs (F:=fun X=>(fun w'=>P6 w' (w.heap.size) 3 5 1000 0 9 false (Below w.heap.size w w')) X∧X.cell? ⟨r,0,none⟩=some (.int .i64 10)∧X.cell? ⟨g,0,none⟩=some (.bool true)∧X.cell? ⟨g,1,none⟩=some (.bool false)) ⟨hHeld,s0,g0,g1⟩ ?_
      clear s0 g0 g1 hHeld h0 h1 h2 h3 h4 h5 hB' hRes G0 G1 i0 i1 i2 i3 f0 f1 f2 f3
      rintro X ⟨⟨h0,h1,h2,h3,h4,h5,hB⟩,s0,g0,g1⟩
      go_wp2_with fail
      refine(HM.out _).mono ?_
      rintro e w7 ⟨rfl,hb⟩
      have k0:=bl_cell hb h0
      have k1:=bl_cell hb h1
      have k2:=bl_cell hb h2
      have k3:=bl_cell hb h3
      have k4:=bl_cell hb h4
      have k5:=bl_cell hb h5
      have hB7:=bl_then hB hb
      go_wp2_with fail
      refine(HC.out _).mono ?_
      rintro e w8 ⟨rfl,hb8⟩
      go_wp2_with fail
      go_ret
      exact⟨rfl,bl_then hB7 hb8⟩
    · go_simp
      have hb:=bl_alloc (bl_refl W1) (.cells #[.int .i64 1,.int .i64 0,.int .i64 5,.int .i64 1,.int .i64 0,.int .i64 1] 46)
      refine hK.out _ _ ?_ (fun hHeld'=>?_)
      · obtain⟨h0,h1,h2,h3,h4,h5,hB'⟩:=hHeld
        exact⟨bl_cell hb h0,bl_cell hb h1,bl_cell hb h2,bl_cell hb h3,bl_cell hb h4,bl_cell hb h5,bl_then hB' hb⟩
      clear hK K
      refine wpAnyH_abs (F:=fun X=>X3 X (W1.heap.size) 1 0 5 (X.cell? ⟨W1.heap.size,3,none⟩=some (.int .i64 1)∧X.cell? ⟨W1.heap.size,4,none⟩=some (.int .i64 0)∧X.cell? ⟨W1.heap.size,5,none⟩=some (.int .i64 1)∧ResB X r∧w.heap.size<r)) hHeld' ⟨by go_simp,by go_simp,by go_simp,by go_simp,by go_simp,by go_simp,res_bl hRes hb,hrw⟩ (fun W2 hHeld9 hF=>?_)
      clear hHeld hHeld' hb hRes hrw
      have hHeld:=hHeld9
      clear hHeld9
      obtain⟨L0,L1,L2,L3,L4,L5,hRes,hrw⟩:=hF
      generalize W1.heap.size=q at *
      try simp only[Act.put,List.setIfInBounds_toArray,List.set_cons_zero,List.set_cons_succ]
      refine callC (i:=2) rfl (fun K hK=>?_)
      go_simp
      refine(HN.out _).mono ?_
      rintro e w1 ⟨rfl,hb⟩
      go_wp2_with fail
      refine hK.out _ _ ?_ (fun hHeld'=>?_)
      · obtain⟨h0,h1,h2,h3,h4,h5,hB'⟩:=hHeld
        exact⟨bl_cell hb h0,bl_cell hb h1,bl_cell hb h2,bl_cell hb h3,bl_cell hb h4,bl_cell hb h5,bl_then hB' hb⟩
      clear hK K
      refine wpAnyH_abs (F:=fun X=>X3 X q 1 0 5 (X.cell? ⟨q,3,none⟩=some (.int .i64 1)∧X.cell? ⟨q,4,none⟩=some (.int .i64 0)∧X.cell? ⟨q,5,none⟩=some (.int .i64 1)∧ResB X r∧w.heap.size<r)) hHeld' ⟨bl_cell hb L0,bl_cell hb L1,bl_cell hb L2,bl_cell hb L3,bl_cell hb L4,bl_cell hb L5,res_bl hRes hb,hrw⟩ (fun W3 hHeld9 hF=>?_)
      clear hHeld hHeld' hb L0 L1 L2 L3 L4 L5 hRes hrw
      have hHeld:=hHeld9
      clear hHeld9
      obtain⟨L0,L1,L2,L3,L4,L5,hRes,hrw⟩:=hF
      try simp only[Act.put,List.setIfInBounds_toArray,List.set_cons_zero,List.set_cons_succ]
      refine callC (i:=6) rfl (fun K hK=>?_)
      have hac:=known_acts _ q ⟨L0,L1,L2,L3,L4,L5⟩
      go_simp
      refine(HR.out _ 2 2 _ (by rw[known_log];exact log_nil _ _ _ (by omega)) (by omega) hac (by omega)).mono ?_
      rintro e w1 ⟨a1,n1,c1,m1,vb,rfl,-,-,hob,hb⟩
      obtain⟨g,cap,rfl,hgb,G0,G1⟩:=known_bools hob
      have hrl:=res_lt hRes
      unfold St.v
      dsimp only
      go_wp2_with fail
      refine hK.out _ _ ?_ (fun hHeld'=>?_)
      · obtain⟨h0,h1,h2,h3,h4,h5,hB'⟩:=hHeld
        exact⟨bl_cell hb h0,bl_cell hb h1,bl_cell hb h2,bl_cell hb h3,bl_cell hb h4,bl_cell hb h5,bl_then hB' hb⟩
      clear hK K
      refine wpAnyH_abs (F:=fun X=>ResB X r∧w.heap.size<r∧X.cell? ⟨g,0,none⟩=some (.bool true)∧X.cell? ⟨g,1,none⟩=some (.bool false)∧g≠r) hHeld' ⟨res_bl hRes hb,hrw,G0,G1,by omega⟩ (fun W4 hHeld9 hF=>?_)
      clear hHeld hHeld' hb L0 L1 L2 L3 L4 L5 hRes hrw
      have hHeld:=hHeld9
      clear hHeld9
      obtain⟨hRes,hrw,G0,G1,hgr⟩:=hF
      try simp only[Act.put,List.setIfInBounds_toArray,List.set_cons_zero,List.set_cons_succ]
      refine tkx 7 ?_
      refine tkx 8 ?_
      refine tkx 9 ?_
      refine callC (i:=11) rfl (fun K hK=>?_)
      obtain⟨f0,f1,f2,f3,u0,u1,u2,u3,i0,i1,i2,i3⟩:=res_all hRes
      go_simp
      obtain⟨h0,h1,h2,h3,h4,h5,hB'⟩:=hHeld
      have e0:r≠w.heap.size:=by omega
      have e1:r≠g:=fun e=>hgr e.symm
      refine hK.out _ _ ?_ (fun hHeld=>?_)
      · exact⟨far4 h0 e0,far4 h1 e0,far4 h2 e0,far4 h3 e0,far4 h4 e0,far4 h5 e0,bl4 hB' (by omega)⟩
      clear hK K
      obtain⟨s0,-,-,-⟩:=set4r (v0:=.int .i64 10) (v1:=.int .i64 0) (v2:=.int .i64 0) (v3:=.slice a1 n1 c1) hRes
      have g0:=far4 (v0:=.int .i64 10) (v1:=.int .i64 0) (v2:=.int .i64 0) (v3:=.slice a1 n1 c1) G0 e1
      have g1:=far4 (v0:=.int .i64 10) (v1:=.int .i64 0) (v2:=.int .i64 0) (v3:=.slice a1 n1 c1) G1 e1
      try simp only[Act.put,List.setIfInBounds_toArray,List.set_cons_zero,List.set_cons_succ]
      refine tkx 12 ?_
      refine wpAnyH_done (by kernel_rfl) ?_ _
      refine then_abs (F:=fun X=>(fun w'=>P6 w' (w.heap.size) 3 5 1000 0 9 false (Below w.heap.size w w')) X∧X.cell? ⟨r,0,none⟩=some (.int .i64 10)∧X.cell? ⟨g,0,none⟩=some (.bool true)∧X.cell? ⟨g,1,none⟩=some (.bool false)) ⟨hHeld,s0,g0,g1⟩ ?_
      clear s0 g0 g1 hHeld h0 h1 h2 h3 h4 h5 hB' hRes G0 G1 i0 i1 i2 i3 f0 f1 f2 f3
      rintro X ⟨⟨h0,h1,h2,h3,h4,h5,hB⟩,s0,g0,g1⟩
      go_wp2_with fail
      refine(HM.out _).mono ?_
      rintro e w7 ⟨rfl,hb⟩
      have k0:=bl_cell hb h0
      have k1:=bl_cell hb h1
      have k2:=bl_cell hb h2
      have k3:=bl_cell hb h3
      have k4:=bl_cell hb h4
      have k5:=bl_cell hb h5
      have hB7:=bl_then hB hb
      go_wp2_with fail
      refine(HC.out _).mono ?_
      rintro e w8 ⟨rfl,hb8⟩
      go_wp2_with fail
      go_ret
      exact⟨rfl,bl_then hB7 hb8⟩
end Go.Proofs.YtmhikkbdhboodaaGreat
