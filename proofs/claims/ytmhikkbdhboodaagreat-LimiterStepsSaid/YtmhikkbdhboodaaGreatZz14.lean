/-
  LimiterStates, walked: it answers true.
  What tapsterlaw08.small and the policies that may be (tapsterref04.Of ..) answer.
  Acts one behind the other, step by step; a log does not lie in a block.
  LimiterSteps, walked: it answers true.
  Policies, states and acts among a law's arguments, opened to their cells.
  No condition.
-/
import Derived.Test.YtmhikkbdhboodaaGreatZz1
import Derived.Test.YtmhikkbdhboodaaGreatZz6
import Derived.Test.YtmhikkbdhboodaaGreatZz13
import Derived.Deep.Slices
import Derived.Deep.Fields
import Derived.ChangeSame
set_option maxHeartbeats 8000000
set_option maxRecDepth 100000
namespace Go.Proofs.YtmhikkbdhboodaaGreat
open Go.RowKit
set_option linter.unusedVariables false
set_option linter.unusedSimpArgs false

theorem states_long (p:Pol) (s:St) (a:Option Addr) (n c:Nat) (x:Ac) (now cost:Int) (w:World) (hn:(150:Int)<n) :
    Calls Tryz.prog 5 #[p.v,s.v a n c,x.v,.int .i64 now,.int .i64 cost] w fun e w'=>e=.returned (.bool true)∧Below w.heap.size w w':=by
  have hkn:=known_yes
  obtain⟨k,l,d,b,cc,o⟩:=p
  obtain⟨at_,level,held,L⟩:=s
  obtain⟨ak,anow,acost⟩:=x
  unfold Ac.v St.v Pol.v at *
  dsimp only at *
  have HKN:=Go.Lib.hid hkn
  clear hkn
  go_enter Tryz.func5,Tryz.ntmps5
  go_wp2_with fail
  refine(HKN.out _).mono ?_
  rintro e w1 ⟨rfl,hb⟩
  have hx:Below w.heap.size w w1:=bl_then (bl_alloc (bl_alloc (bl_alloc (bl_refl _) _) _) _) hb
  have hsz1:w.heap.size+3≤w1.heap.size:=szl hb
  obtain⟨p0,p1,p2,p3,p4,p5⟩:=b6 (w.heap.size) k l d b cc o hb
  obtain⟨s0,s1,s2,s3⟩:=b4 (w.heap.size+1) at_ level held a n c hb
  obtain⟨x0,x1,x2⟩:=b3 (w.heap.size+1+1) ak anow acost hb
  have hB:Below w.heap.size w w1:=hx
  have lb_p:=lbc p0
  have lb_s:=lbc s0
  have lb_x:=lbc x0
  clear hb hx
  go_wp2_with fail
  go_ret
  exact⟨rfl,hB⟩
theorem states_yes (p:Pol) (s:St) (a:Option Addr) (n c:Nat) (x:Ac) (now cost:Int) (w:World) (hn:¬ (150:Int)<n) (hl:LogAt w a n c s.log) :
    Calls Tryz.prog 5 #[p.v,s.v a n c,x.v,.int .i64 now,.int .i64 cost] w fun e w'=>e=.returned (.bool true)∧Below w.heap.size w w':=by
  have hkn:=known_yes
  have hd1:=fun w hw=>ldo_any p s a n c x w hw
  have hd2:=fun w hw=>r8do_any p s a n c x w hw
  unfold PostSB at hd1 hd2
  have hsm:=fun w hw=>lsame_any p s a a n c c now cost w hw hw
  have hs2:=fun x1 x2 m d1 d2 w h1 h2=>same_yes (doP p s x).1 x1 x2 m d1 d2 w h1 h2
  generalize doP p s x=R at *
  obtain⟨⟨xat,xlv,xhd,xL⟩,rok⟩:=R
  obtain⟨k,l,d,b,cc,o⟩:=p
  obtain⟨at_,level,held,L⟩:=s
  obtain⟨ak,anow,acost⟩:=x
  unfold Ac.v St.v Pol.v at *
  dsimp only at *
  have HKN:=Go.Lib.hid hkn
  have HD1:=Go.Lib.hid hd1
  have HD2:=Go.Lib.hid hd2
  have HSM:=Go.Lib.hid hsm
  have HS2:=Go.Lib.hid hs2
  have HL:=Go.Lib.hid hl
  clear hkn hd1 hd2 hsm hs2 hl
  go_enter Tryz.func5,Tryz.ntmps5
  go_wp2_with fail
  refine(HD1.out _ (log_bl HL.out (bl_alloc (bl_alloc (bl_alloc (bl_refl _) _) _) _))).mono ?_
  rintro e w1 ⟨ad1,m,d1,rfl,k1,-,hb⟩
  have hx:Below w.heap.size w w1:=bl_then (bl_alloc (bl_alloc (bl_alloc (bl_refl _) _) _) _) hb
  have hsz1:w.heap.size+3≤w1.heap.size:=szl hb
  obtain⟨p0,p1,p2,p3,p4,p5⟩:=b6 (w.heap.size) k l d b cc o hb
  obtain⟨s0,s1,s2,s3⟩:=b4 (w.heap.size+1) at_ level held a n c hb
  obtain⟨x0,x1,x2⟩:=b3 (w.heap.size+1+1) ak anow acost hb
  have hB:Below w.heap.size w w1:=hx
  have lb_p:=lbc p0
  have lb_s:=lbc s0
  have lb_x:=lbc x0
  clear hb hx
  have l1:=log_bl HL.out hB
  go_wp2_with fail
  refine(HD2.out _ (log_bl l1 (bl_alloc (bl_refl _) _))).mono ?_
  rintro e w2 ⟨ad2,m2,d2,rfl,k2,-,hb⟩
  have hx:Below w1.heap.size w1 w2:=bl_then (bl_alloc (bl_refl _) _) hb
  have hsz2:w1.heap.size+1≤w2.heap.size:=szl hb
  replace p0:=bl_cell hx p0
  replace p1:=bl_cell hx p1
  replace p2:=bl_cell hx p2
  replace p3:=bl_cell hx p3
  replace p4:=bl_cell hx p4
  replace p5:=bl_cell hx p5
  replace s0:=bl_cell hx s0
  replace s1:=bl_cell hx s1
  replace s2:=bl_cell hx s2
  replace s3:=bl_cell hx s3
  replace x0:=bl_cell hx x0
  replace x1:=bl_cell hx x1
  replace x2:=bl_cell hx x2
  replace l1:=log_bl l1 hx
  replace k1:=log_bl k1 hx
  obtain⟨u0,u1,u2,u3⟩:=b4 (w1.heap.size) xat xlv xhd ad1 m d1 hb
  replace hB:Below w.heap.size w w2:=bl_then hB hx
  replace lb_p:=lbc p0
  replace lb_s:=lbc s0
  replace lb_x:=lbc x0
  have lb_u:=lbc u0
  clear hb hx
  have hmm:m=m2:=k1.1.symm.trans k2.1
  subst hmm
  go_wp2_with fail
  refine(HSM.out _ (log_bl l1 (bl_alloc (bl_refl _) _))).mono ?_
  rintro e w3 ⟨rfl,hb⟩
  have hx:Below w2.heap.size w2 w3:=bl_then (bl_alloc (bl_refl _) _) hb
  have hsz3:w2.heap.size+1≤w3.heap.size:=szl hb
  replace p0:=bl_cell hx p0
  replace p1:=bl_cell hx p1
  replace p2:=bl_cell hx p2
  replace p3:=bl_cell hx p3
  replace p4:=bl_cell hx p4
  replace p5:=bl_cell hx p5
  replace s0:=bl_cell hx s0
  replace s1:=bl_cell hx s1
  replace s2:=bl_cell hx s2
  replace s3:=bl_cell hx s3
  replace x0:=bl_cell hx x0
  replace x1:=bl_cell hx x1
  replace x2:=bl_cell hx x2
  replace l1:=log_bl l1 hx
  replace k1:=log_bl k1 hx
  replace u0:=bl_cell hx u0
  replace u1:=bl_cell hx u1
  replace u2:=bl_cell hx u2
  replace u3:=bl_cell hx u3
  replace k2:=log_bl k2 hx
  obtain⟨y0,y1,y2,y3⟩:=b4 (w2.heap.size) xat xlv xhd ad2 m d2 hb
  replace hB:Below w.heap.size w w3:=bl_then hB hx
  replace lb_p:=lbc p0
  replace lb_s:=lbc s0
  replace lb_x:=lbc x0
  replace lb_u:=lbc u0
  have lb_y:=lbc y0
  clear hb hx
  go_wp2_with fail
  refine(HS2.out _ _ _ _ _ _ k1 k2).mono ?_
  rintro e w4 ⟨rfl,hb⟩
  have hsz4:w3.heap.size+0≤w4.heap.size:=szl hb
  replace p0:=bl_cell hb p0
  replace p1:=bl_cell hb p1
  replace p2:=bl_cell hb p2
  replace p3:=bl_cell hb p3
  replace p4:=bl_cell hb p4
  replace p5:=bl_cell hb p5
  replace s0:=bl_cell hb s0
  replace s1:=bl_cell hb s1
  replace s2:=bl_cell hb s2
  replace s3:=bl_cell hb s3
  replace x0:=bl_cell hb x0
  replace x1:=bl_cell hb x1
  replace x2:=bl_cell hb x2
  replace l1:=log_bl l1 hb
  replace k1:=log_bl k1 hb
  replace u0:=bl_cell hb u0
  replace u1:=bl_cell hb u1
  replace u2:=bl_cell hb u2
  replace u3:=bl_cell hb u3
  replace k2:=log_bl k2 hb
  replace y0:=bl_cell hb y0
  replace y1:=bl_cell hb y1
  replace y2:=bl_cell hb y2
  replace y3:=bl_cell hb y3
  replace hB:Below w.heap.size w w4:=bl_then hB hb
  replace lb_p:=lbc p0
  replace lb_s:=lbc s0
  replace lb_x:=lbc x0
  replace lb_u:=lbc u0
  replace lb_y:=lbc y0
  clear hb
  go_wp2_with fail
  refine(HKN.out _).mono ?_
  rintro e w5 ⟨rfl,hb⟩
  have hsz5:w4.heap.size+0≤w5.heap.size:=szl hb
  replace p0:=bl_cell hb p0
  replace p1:=bl_cell hb p1
  replace p2:=bl_cell hb p2
  replace p3:=bl_cell hb p3
  replace p4:=bl_cell hb p4
  replace p5:=bl_cell hb p5
  replace s0:=bl_cell hb s0
  replace s1:=bl_cell hb s1
  replace s2:=bl_cell hb s2
  replace s3:=bl_cell hb s3
  replace x0:=bl_cell hb x0
  replace x1:=bl_cell hb x1
  replace x2:=bl_cell hb x2
  replace l1:=log_bl l1 hb
  replace k1:=log_bl k1 hb
  replace u0:=bl_cell hb u0
  replace u1:=bl_cell hb u1
  replace u2:=bl_cell hb u2
  replace u3:=bl_cell hb u3
  replace k2:=log_bl k2 hb
  replace y0:=bl_cell hb y0
  replace y1:=bl_cell hb y1
  replace y2:=bl_cell hb y2
  replace y3:=bl_cell hb y3
  replace hB:Below w.heap.size w w5:=bl_then hB hb
  replace lb_p:=lbc p0
  replace lb_s:=lbc s0
  replace lb_x:=lbc x0
  replace lb_u:=lbc u0
  replace lb_y:=lbc y0
  clear hb
  go_wp2_with fail
  go_ret
  exact⟨rfl,hB⟩
theorem states_walk (p:Pol) (s:St) (a:Option Addr) (n c:Nat) (x:Ac) (now cost:Int) (w:World) (hl:LogAt w a n c s.log) :
    Calls Tryz.prog 5 #[p.v,s.v a n c,x.v,.int .i64 now,.int .i64 cost] w fun e w'=>e=.returned (.bool true)∧Below w.heap.size w w':=by
  by_cases hn:(150:Int)<n
  · exact states_long p s a n c x now cost w hn
  · exact states_yes p s a n c x now cost w hn hl
theorem states_row (p:Pol) (s:St) (a:Option Addr) (n c:Nat) (x:Ac) (now cost:Int) (w:World) (hl:LogAt w a n c s.log) (h1 : -9223372036854775808≤now) (h2:now≤9223372036854775807) (h3 : -9223372036854775808≤cost) (h4:cost≤9223372036854775807) :
    Calls Tryz.prog 5 #[p.v,s.v a n c,x.v,.int .i64 now,.int .i64 cost] w fun e w'=>e=.returned (.bool true)∧Below w.heap.size w w':=states_walk p s a n c x now cost w hl
theorem small_any (a:Option Addr) (n c:Nat) (w:World):Calls Tryz.prog 13 #[.slice a n c] w fun e w'=>e=.returned (.bool (decide ((n:Int)≤60)))∧w=w':=by
  by_cases h:(n:Int)≤60
  · rw[decide_eq_true h]
    go_enter Tryz.func13,Tryz.ntmps13
    go_wp2
    go_ret
    exact⟨by first|rfl|simp[h],rfl⟩
  · rw[decide_eq_false h]
    go_enter Tryz.func13,Tryz.ntmps13
    go_wp2
    go_ret
    exact⟨by first|rfl|simp[h],rfl⟩
theorem run_step {p:Pol} (s:St) (l:List Ac) {m:Nat} (hm:l.length=m):∀ k,k<m→(runP p s (l.take (k+1))).1=(doP p (runP p s (l.take k)).1 (l.getD k ⟨0,0,0⟩)).1:=fun k hk=>by
  rw[runP_take p s l k (by omega)]
theorem run_all {p:Pol} (s:St) (l:List Ac) {m:Nat} (hm:l.length=m):(runP p s (l.take m)).1=(runP p s l).1:=by rw[← hm,List.take_length]
/-- A log does not lie in a block. -/
def Off (a:Option Addr) (n r:Nat):Prop:=∀ ad,a=some ad→n≠0→ad.block≠r
theorem off_src {w1:World} {a0 a:Option Addr} {n0 n r:Nat} (h:Off a0 n0 r) (hs:Src a0 n0 w1 a n) (hr:r<w1.heap.size):Off a n r:=fun ad e hn=>by
  rcases hs with hs|⟨rfl,rfl⟩|hs
  · exact absurd hs hn
  · exact h ad e hn
  · have:=hs ad e;omega
theorem steps_long (p:Pol) (start:Int) (la:Option Addr) (m lc:Nat) (acts:List Ac) (now cost:Int) (w:World) (hm:¬ (m:Int)≤60) :
    Calls Tryz.prog 4 #[p.v,.int .i64 start,.slice la m lc,.int .i64 now,.int .i64 cost] w fun e w'=>e=.returned (.bool true)∧Below w.heap.size w w':=by
  have hkn:=known_yes
  have hsm:=small_any la m lc
  rw[decide_eq_false hm] at hsm
  obtain⟨k,l,d,b,cc,o⟩:=p
  unfold Pol.v at *
  dsimp only at *
  have HKN:=Go.Lib.hid hkn
  have HSM:=Go.Lib.hid hsm
  clear hkn hsm
  go_enter Tryz.func4,Tryz.ntmps4
  go_wp2_with go_step3
  refine(HSM.out _).mono ?_
  rintro e w1 ⟨rfl,rfl⟩
  go_wp2_with go_step3
  refine(HKN.out _).mono ?_
  rintro e w1 ⟨rfl,hb⟩
  have hx:Below w.heap.size w w1:=bl_then (bl_alloc (bl_refl _) _) hb
  have hsz1:w.heap.size+1≤w1.heap.size:=szl hb
  obtain⟨p0,p1,p2,p3,p4,p5⟩:=b6 (w.heap.size) k l d b cc o hb
  have hB:Below w.heap.size w w1:=hx
  have lb_p:=lbc p0
  clear hb hx
  go_wp2_with go_step3
  go_ret
  exact⟨rfl,hB⟩
theorem steps_yes (p:Pol) (start:Int) (la:Option Addr) (m lc:Nat) (acts:List Ac) (now cost:Int) (w:World) (hm:(m:Int)≤60) (hA:ActsIn w la m lc acts) :
    Calls Tryz.prog 4 #[p.v,.int .i64 start,.slice la m lc,.int .i64 now,.int .i64 cost] w fun e w'=>e=.returned (.bool true)∧Below w.heap.size w w':=by
  have hkn:=known_yes
  have hsm:=small_any la m lc
  rw[decide_eq_true hm] at hsm
  have hc1:=r8chk p
  have hc2:=lcheck_any p
  have hn1:=lnew_any p start
  have hn2:=r8new_any p start
  have hxl:=newP_log p start
  have hst:=run_step (p:=p) (newP p start) acts hA.1
  have h0:(runP p (newP p start) (acts.take 0)).1=newP p start:=rfl
  generalize hFF:(fun j=>(runP p (newP p start) (acts.take j)).1)=F at *
  have hF:∀ j,(runP p (newP p start) (acts.take j)).1=F j:=fun j=>by rw[← hFF]
  simp only[hF] at hst h0
  clear hF hFF
  have hd1:=fun st x a n c w hw=>ldo_any p st a n c x w hw
  have hd2:=fun st x a n c w hw=>r8do_any p st a n c x w hw
  unfold PostSB at hd1 hd2
  have hsa:=fun st a1 a2 n c1 c2 w h1 h2=>lsame_any p st a1 a2 n c1 c2 now cost w h1 h2
  generalize newP p start=X0 at *
  generalize chkP p=CK at *
  obtain⟨k,l,d,b,cc,o⟩:=p
  obtain⟨xat,xlv,xhd,xL⟩:=X0
  dsimp only at hxl
  subst hxl
  unfold Pol.v at hc1 hc2 hn1 hn2
  unfold St.v at hn1 hn2
  dsimp only at hc1 hc2 hn1 hn2
  have HKN:=Go.Lib.hid hkn
  have HSM:=Go.Lib.hid hsm
  have HC1:=Go.Lib.hid hc1
  have HC2:=Go.Lib.hid hc2
  have HN1:=Go.Lib.hid hn1
  have HN2:=Go.Lib.hid hn2
  have HST:=Go.Lib.hid hst
  have H0:=Go.Lib.hid h0
  have HD1:=Go.Lib.hid hd1
  have HD2:=Go.Lib.hid hd2
  have HSA:=Go.Lib.hid hsa
  have HA:=Go.Lib.hid hA
  clear hkn hsm hc1 hc2 hn1 hn2 hst h0 hd1 hd2 hsa hA
  unfold Pol.v
  dsimp only
  go_enter Tryz.func4,Tryz.ntmps4
  go_wp2_with go_step3
  refine(HSM.out _).mono ?_
  rintro e w1 ⟨rfl,rfl⟩
  go_wp2_with go_step3
  refine(HC1.out _).mono ?_
  rintro e w1 ⟨rfl,hb⟩
  have hx:Below w.heap.size w w1:=bl_then (bl_alloc (bl_refl _) _) hb
  have hsz1:w.heap.size+1≤w1.heap.size:=szl hb
  obtain⟨p0,p1,p2,p3,p4,p5⟩:=b6 (w.heap.size) k l d b cc o hb
  have hB:Below w.heap.size w w1:=hx
  have lb_p:=lbc p0
  clear hb hx
  go_wp2_with go_step3
  refine(HC2.out _).mono ?_
  rintro e w2 ⟨rfl,hb⟩
  have hsz2:w1.heap.size+0≤w2.heap.size:=szl hb
  replace p0:=bl_cell hb p0
  replace p1:=bl_cell hb p1
  replace p2:=bl_cell hb p2
  replace p3:=bl_cell hb p3
  replace p4:=bl_cell hb p4
  replace p5:=bl_cell hb p5
  replace hB:Below w.heap.size w w2:=bl_then hB hb
  replace lb_p:=lbc p0
  clear hb
  go_wp2_with go_step3
  refine(HN1.out _).mono ?_
  rintro e w3 ⟨rfl,hb⟩
  have hsz3:w2.heap.size+0≤w3.heap.size:=szl hb
  replace p0:=bl_cell hb p0
  replace p1:=bl_cell hb p1
  replace p2:=bl_cell hb p2
  replace p3:=bl_cell hb p3
  replace p4:=bl_cell hb p4
  replace p5:=bl_cell hb p5
  replace hB:Below w.heap.size w w3:=bl_then hB hb
  replace lb_p:=lbc p0
  clear hb
  go_wp2_with go_step3
  refine(HN2.out _).mono ?_
  rintro e w4 ⟨rfl,hb⟩
  have hx:Below w3.heap.size w3 w4:=bl_then (bl_alloc (bl_refl _) _) hb
  have hsz4:w3.heap.size+1≤w4.heap.size:=szl hb
  replace p0:=bl_cell hx p0
  replace p1:=bl_cell hx p1
  replace p2:=bl_cell hx p2
  replace p3:=bl_cell hx p3
  replace p4:=bl_cell hx p4
  replace p5:=bl_cell hx p5
  obtain⟨s0,s1,s2,s3⟩:=b4 (w3.heap.size) xat xlv xhd none 0 0 hb
  have sR:=res_bl (b:=w3.heap.size) (res_new _ _ _ _ _ _ (by simp)) hb
  replace hB:Below w.heap.size w w4:=bl_then hB hx
  replace lb_p:=lbc p0
  have lb_s:=lbc s0
  clear hb hx
  go_wp2_with go_step3
  skip
  refine wp_abs (S0:=fun X=>(fun w'=>P6 w' (w.heap.size) k l d b cc o (S4 w' (w3.heap.size) xat xlv xhd none 0 0 (ResB w' (w3.heap.size)∧S4 w' (w4.heap.size) xat xlv xhd none 0 0 (ResB w' (w4.heap.size)∧Below w.heap.size w w')))) X∧w4.heap.size+1≤X.heap.size) ⟨⟨bl_cell (bl_alloc (bl_refl _) _) p0,bl_cell (bl_alloc (bl_refl _) _) p1,bl_cell (bl_alloc (bl_refl _) _) p2,bl_cell (bl_alloc (bl_refl _) _) p3,bl_cell (bl_alloc (bl_refl _) _) p4,bl_cell (bl_alloc (bl_refl _) _) p5,bl_cell (bl_alloc (bl_refl _) _) s0,bl_cell (bl_alloc (bl_refl _) _) s1,bl_cell (bl_alloc (bl_refl _) _) s2,bl_cell (bl_alloc (bl_refl _) _) s3,res_bl sR (bl_alloc (bl_refl _) _),by go_simp,by go_simp,by go_simp,by go_simp,res_new _ _ _ _ _ _ (by simp),bl_alloc (hB) _⟩,by simp⟩ ?_
  clear p0 p1 p2 p3 p4 p5 s0 s1 s2 s3 sR hB
  rintro w5 ⟨⟨p0,p1,p2,p3,p4,p5,s0,s1,s2,s3,sR,t0,t1,t2,t3,tR,hB⟩,hsz5⟩
  replace lb_p:=lbc p0
  replace lb_s:=lbc s0
  have lb_t:=lbc t0
  have hbps:w.heap.size<w3.heap.size:=by omega
  have hbst:w3.heap.size<w4.heap.size:=by omega
  go_loopw [14] (fun s14 wr=>∃ (j:Nat) (a a2:Option Addr) (n c c2:Nat),s14=.int .i64 j∧j≤m∧Hid ((fun w'=>P6 w' (w.heap.size) k l d b cc o (w'.cell? ⟨w3.heap.size,0,none⟩=some (.int .i64 (F j).at_)∧w'.cell? ⟨w3.heap.size,1,none⟩=some (.int .i64 (F j).level)∧w'.cell? ⟨w3.heap.size,2,none⟩=some (.int .i64 (F j).held)∧w'.cell? ⟨w3.heap.size,3,none⟩=some (.slice a n c)∧ResB w' (w3.heap.size)∧w'.cell? ⟨w4.heap.size,0,none⟩=some (.int .i64 (F j).at_)∧w'.cell? ⟨w4.heap.size,1,none⟩=some (.int .i64 (F j).level)∧w'.cell? ⟨w4.heap.size,2,none⟩=some (.int .i64 (F j).held)∧w'.cell? ⟨w4.heap.size,3,none⟩=some (.slice a2 n c2)∧ResB w' (w4.heap.size)∧LogAt w' a n c (F j).log∧LogAt w' a2 n c2 (F j).log∧Below w.heap.size w w')) wr∧Off a n (w3.heap.size)∧Off a n (w4.heap.size)∧Off a2 n (w3.heap.size)∧Off a2 n (w4.heap.size))) (fun s14 _=>m - (intOf s14).toNat)
  case atStart =>
    refine⟨0,none,none,0,0,0,rfl,Nat.zero_le _,⟨?_,(fun _ e=>by cases e),(fun _ e=>by cases e),(fun _ e=>by cases e),(fun _ e=>by cases e)⟩⟩
    rw[H0.out]
    exact⟨p0,p1,p2,p3,p4,p5,s0,s1,s2,s3,sR,t0,t1,t2,t3,tR,log_nil _ _ _ (by omega),log_nil _ _ _ (by omega),hB⟩
  case round =>
    clear p0 p1 p2 p3 p4 p5 s0 s1 s2 s3 sR t0 t1 t2 t3 tR hB
    obtain⟨j,a,a2,n,c,c2,rfl,hj,H⟩:=hrel
    obtain⟨⟨p0,p1,p2,p3,p4,p5,s0,s1,s2,s3,sR,t0,t1,t2,t3,tR,hLs,hLt,hB⟩,hO1,hO2,hO3,hO4⟩:=H.out
    clear H
    have hsa:=HSA.out (F j)
    by_cases hjm:j<m
    · obtain ⟨xb,xo,hla,q0,q1,q2⟩:=HA.out.2.2.2 j hjm
      subst hla
      have x0:=bl_cell hB q0
      have x1:=bl_cell hB q1
      have x2:=bl_cell hB q2
      clear q0 q1 q2
      have hst:=HST.out j hjm
      have hd1:=HD1.out (F j) (acts.getD j ⟨0,0,0⟩)
      have hd2:=HD2.out (F j) (acts.getD j ⟨0,0,0⟩)
      generalize acts.getD j ⟨0,0,0⟩=x at *
      generalize hFj:F j=st at *
      generalize doP ⟨k,l,d,b,cc,o⟩ st x=R at *
      obtain⟨ak,anow,acost⟩:=x
      obtain⟨sa,sl,sh,sL⟩:=st
      obtain⟨⟨ra,rl,rh,rL⟩,rok⟩:=R
      unfold Ac.v St.v Pol.v at hd1 hd2
      unfold St.v Pol.v at hsa
      dsimp only at *
      have HDA:=Go.Lib.hid hd1
      have HDB:=Go.Lib.hid hd2
      have HSB:=Go.Lib.hid hsa
      have HNX:=Go.Lib.hid hst
      clear hd1 hd2 hsa hst hFj
      have k0:(0:Int)≤(j:Int):=by omega
      have k1:(j:Int)<(m:Int):=by omega
      have hj1:j+1≤m:=hjm
      have hms:m - (j+1)<m - j:=by omega
      have wj:IntKind.i64.wrap ((j:Int)+1)=(j:Int)+1:=IntWalk.i64_in _ (by omega)
      have lb_p:=lbc p0
      have lb_s:=lbc s0
      have lb_t:=lbc t0
      have lb_x:=lbc x0
      go_wp2_with go_step3
      refine(HSB.out _ _ _ _ _ _ hLs hLt).mono ?_
      rintro e w31 ⟨rfl,hb⟩
      have hsz31:wr.heap.size+0≤w31.heap.size:=szl hb
      replace p0:=bl_cell hb p0
      replace p1:=bl_cell hb p1
      replace p2:=bl_cell hb p2
      replace p3:=bl_cell hb p3
      replace p4:=bl_cell hb p4
      replace p5:=bl_cell hb p5
      replace s0:=bl_cell hb s0
      replace s1:=bl_cell hb s1
      replace s2:=bl_cell hb s2
      replace s3:=bl_cell hb s3
      replace sR:=res_bl sR hb
      replace t0:=bl_cell hb t0
      replace t1:=bl_cell hb t1
      replace t2:=bl_cell hb t2
      replace t3:=bl_cell hb t3
      replace tR:=res_bl tR hb
      replace hLs:=log_bl hLs hb
      replace hLt:=log_bl hLt hb
      replace x0:=bl_cell hb x0
      replace x1:=bl_cell hb x1
      replace x2:=bl_cell hb x2
      replace hB:Below w.heap.size w w31:=bl_then hB hb
      replace lb_p:=lbc p0
      replace lb_s:=lbc s0
      replace lb_t:=lbc t0
      replace lb_x:=lbc x0
      clear hb
      go_wp2_with go_step3
      refine wp_region_held_drew (S:=fun w'=>P6 w' (w.heap.size) k l d b cc o (S4 w' (w3.heap.size) sa sl sh a n c (ResB w' (w3.heap.size)∧S4 w' (w4.heap.size) sa sl sh a2 n c2 (ResB w' (w4.heap.size)∧LogAt w' a n c sL∧LogAt w' a2 n c2 sL∧w'.cell? ⟨xb,xo+j*3,none⟩=some (.int .i64 ak)∧w'.cell? ⟨xb,xo+j*3+1,none⟩=some (.int .i64 anow)∧w'.cell? ⟨xb,xo+j*3+2,none⟩=some (.int .i64 acost)∧Below w.heap.size w w')))) (by kernel_rfl) ?_ (fun hHeld=>?_)
      · exact⟨p0,p1,p2,p3,p4,p5,s0,s1,s2,s3,sR,t0,t1,t2,t3,tR,hLs,hLt,x0,x1,x2,bl_drew hB⟩
      try simp only[Act.put,List.setIfInBounds_toArray,List.set_cons_zero,List.set_cons_succ]
      clear hB p0 p1 p2 p3 p4 p5 s0 s1 s2 s3 sR t0 t1 t2 t3 tR hLs hLt x0 x1 x2
      refine wpAnyH_abs (F:=fun _=>True) hHeld trivial ?_
      clear hHeld
      rintro X0 hHeld -
      refine tkx 0 ?_
      refine tkx 1 ?_
      refine tkx 2 ?_
      refine tkx 3 ?_
      refine tkx 4 ?_
      refine tkx 5 ?_
      refine callC2 (i:=6) (j:=10) rfl rfl ?_ ?_
      case' refine_1 =>
        intro K hK
        obtain⟨h_p0,h_p1,h_p2,h_p3,h_p4,h_p5,h_s0,h_s1,h_s2,h_s3,h_sR,h_t0,h_t1,h_t2,h_t3,h_tR,h_hLs,h_hLt,h_x0,h_x1,h_x2,h_B⟩:=(id hHeld)
        go_simp
        refine(HDA.out _ _ _ _ h_hLs).mono ?_
        rintro e X6 ⟨a3,n3,c3,rfl,hLu,hSr,hb⟩
        have hP1:=off_src hO1 hSr (World.block_lt_of_cell? _ _ h_s0)
        have hP2:=off_src hO2 hSr (World.block_lt_of_cell? _ _ h_t0)
        have hFr:=hSr
        clear hSr
        go_wp2_with fail
        refine hK.out _ _ ?_ (fun hHeld2=>?_)
        · (try dsimp only);exact⟨bl_cell hb h_p0,bl_cell hb h_p1,bl_cell hb h_p2,bl_cell hb h_p3,bl_cell hb h_p4,bl_cell hb h_p5,bl_cell hb h_s0,bl_cell hb h_s1,bl_cell hb h_s2,bl_cell hb h_s3,res_bl h_sR hb,bl_cell hb h_t0,bl_cell hb h_t1,bl_cell hb h_t2,bl_cell hb h_t3,res_bl h_tR hb,log_bl h_hLs hb,log_bl h_hLt hb,bl_cell hb h_x0,bl_cell hb h_x1,bl_cell hb h_x2,bl_then h_B hb⟩
        clear hHeld hK K h_p0 h_p1 h_p2 h_p3 h_p4 h_p5 h_s0 h_s1 h_s2 h_s3 h_sR h_t0 h_t1 h_t2 h_t3 h_tR h_hLs h_hLt h_x0 h_x1 h_x2 h_B hb
        have hHeld:=hHeld2
        clear hHeld2
        try simp only[Act.put,List.setIfInBounds_toArray,List.set_cons_zero,List.set_cons_succ]
        refine tkx 7 ?_
        refine tkx 8 ?_
        refine tkx 9 ?_
        refine callC (i:=10) rfl (fun K hK=>?_)
        obtain⟨h_p0,h_p1,h_p2,h_p3,h_p4,h_p5,h_s0,h_s1,h_s2,h_s3,h_sR,h_t0,h_t1,h_t2,h_t3,h_tR,h_hLs,h_hLt,h_x0,h_x1,h_x2,h_B⟩:=(id hHeld)
        go_simp
        refine hK.out _ _ ?_ (fun hHeld2=>?_)
        · (try dsimp only);exact⟨bl_cell (bl_alloc (bl_refl _) _) h_p0,bl_cell (bl_alloc (bl_refl _) _) h_p1,bl_cell (bl_alloc (bl_refl _) _) h_p2,bl_cell (bl_alloc (bl_refl _) _) h_p3,bl_cell (bl_alloc (bl_refl _) _) h_p4,bl_cell (bl_alloc (bl_refl _) _) h_p5,bl_cell (bl_alloc (bl_refl _) _) h_s0,bl_cell (bl_alloc (bl_refl _) _) h_s1,bl_cell (bl_alloc (bl_refl _) _) h_s2,bl_cell (bl_alloc (bl_refl _) _) h_s3,res_bl h_sR (bl_alloc (bl_refl _) _),bl_cell (bl_alloc (bl_refl _) _) h_t0,bl_cell (bl_alloc (bl_refl _) _) h_t1,bl_cell (bl_alloc (bl_refl _) _) h_t2,bl_cell (bl_alloc (bl_refl _) _) h_t3,res_bl h_tR (bl_alloc (bl_refl _) _),log_bl h_hLs (bl_alloc (bl_refl _) _),log_bl h_hLt (bl_alloc (bl_refl _) _),bl_cell (bl_alloc (bl_refl _) _) h_x0,bl_cell (bl_alloc (bl_refl _) _) h_x1,bl_cell (bl_alloc (bl_refl _) _) h_x2,bl_alloc h_B _⟩
        have rn0:=World.block_lt_of_cell? _ _ h_p0
        have rn1:=World.block_lt_of_cell? _ _ h_s0
        have rn2:=World.block_lt_of_cell? _ _ h_t0
        have rn3:=World.block_lt_of_cell? _ _ h_x0
        have LT_hLs:=log_lt h_hLs
        have LT_hLt:=log_lt h_hLt
        dsimp only at rn0 rn1 rn2 rn3
        have rB:=h_B.size
        have hne:=log_lt hLu
        replace hLu:=log_bl hLu (bl_alloc (bl_refl _) (.cells #[.int .i64 0,.int .i64 0,.int .i64 0,.slice none 0 0] 26))
        clear hHeld hK K h_p0 h_p1 h_p2 h_p3 h_p4 h_p5 h_s0 h_s1 h_s2 h_s3 h_sR h_t0 h_t1 h_t2 h_t3 h_tR h_hLs h_hLt h_x0 h_x1 h_x2 h_B
        have hHeld:=hHeld2
        clear hHeld2
        try simp only[Act.put,List.setIfInBounds_toArray,List.set_cons_zero,List.set_cons_succ]
        refine wpAnyH_abs (F:=fun X=>ResB X X6.heap.size∧LogAt X a3 n3 c3 rL) hHeld ⟨res_new _ _ _ _ _ _ rfl,hLu⟩ ?_
        clear hHeld hLu
        generalize X6.heap.size=ru at *
        replace hne:=fun ad e hn=>Nat.ne_of_lt (hne ad e hn)
        rintro X10 hHeld ⟨hRes,hLu⟩
        refine callC (i:=11) rfl (fun K hK=>?_)
        obtain⟨h_p0,h_p1,h_p2,h_p3,h_p4,h_p5,h_s0,h_s1,h_s2,h_s3,h_sR,h_t0,h_t1,h_t2,h_t3,h_tR,h_hLs,h_hLt,h_x0,h_x1,h_x2,h_B⟩:=(id hHeld)
        obtain⟨f0,f1,f2,f3,u0,u1,u2,u3,i0,i1,i2,i3⟩:=res_all hRes
        go_simp
        refine hK.out _ _ ?_ (fun hHeld2=>?_)
        · (try dsimp only);exact⟨far4 h_p0 (by dsimp only;omega),far4 h_p1 (by dsimp only;omega),far4 h_p2 (by dsimp only;omega),far4 h_p3 (by dsimp only;omega),far4 h_p4 (by dsimp only;omega),far4 h_p5 (by dsimp only;omega),far4 h_s0 (by dsimp only;omega),far4 h_s1 (by dsimp only;omega),far4 h_s2 (by dsimp only;omega),far4 h_s3 (by dsimp only;omega),res4 h_sR,far4 h_t0 (by dsimp only;omega),far4 h_t1 (by dsimp only;omega),far4 h_t2 (by dsimp only;omega),far4 h_t3 (by dsimp only;omega),res4 h_tR,log_set4 h_hLs (fun ad e hn=>by have:=LT_hLs ad e hn;omega),log_set4 h_hLt (fun ad e hn=>by have:=LT_hLt ad e hn;omega),far4 h_x0 (by dsimp only;omega),far4 h_x1 (by dsimp only;omega),far4 h_x2 (by dsimp only;omega),bl4 h_B (by omega)⟩
        obtain⟨z0,z1,z2,z3⟩:=set4r (v0:=.int .i64 ra) (v1:=.int .i64 rl) (v2:=.int .i64 rh) (v3:=.slice a3 n3 c3) hRes
        replace hLu:=log_set4 (b:=ru) (v0:=.int .i64 ra) (v1:=.int .i64 rl) (v2:=.int .i64 rh) (v3:=.slice a3 n3 c3) hLu hne
        replace hRes:=res4 (b:=ru) (v0:=.int .i64 ra) (v1:=.int .i64 rl) (v2:=.int .i64 rh) (v3:=.slice a3 n3 c3) hRes
        clear hHeld hK K h_p0 h_p1 h_p2 h_p3 h_p4 h_p5 h_s0 h_s1 h_s2 h_s3 h_sR h_t0 h_t1 h_t2 h_t3 h_tR h_hLs h_hLt h_x0 h_x1 h_x2 h_B f0 f1 f2 f3 i0 i1 i2 i3 u0 u1 u2 u3
        have hHeld:=hHeld2
        clear hHeld2
        try simp only[Act.put,List.setIfInBounds_toArray,List.set_cons_zero,List.set_cons_succ]
        refine tkx 12 ?_
        refine wpAnyH_done (by kernel_rfl) ?_ _
        refine then_abs (F:=fun X=>(fun w'=>P6 w' (w.heap.size) k l d b cc o (S4 w' (w3.heap.size) sa sl sh a n c (ResB w' (w3.heap.size)∧S4 w' (w4.heap.size) sa sl sh a2 n c2 (ResB w' (w4.heap.size)∧LogAt w' a n c sL∧LogAt w' a2 n c2 sL∧w'.cell? ⟨xb,xo+j*3,none⟩=some (.int .i64 ak)∧w'.cell? ⟨xb,xo+j*3+1,none⟩=some (.int .i64 anow)∧w'.cell? ⟨xb,xo+j*3+2,none⟩=some (.int .i64 acost)∧Below w.heap.size w w')))) X∧S4 X ru ra rl rh a3 n3 c3 (ResB X ru∧LogAt X a3 n3 c3 rL)) ⟨hHeld,z0,z1,z2,z3,hRes,hLu⟩ ?_
        clear hHeld z0 z1 z2 z3 hRes hLu
      case' refine_2 =>
        intro K hK
        obtain⟨h_p0,h_p1,h_p2,h_p3,h_p4,h_p5,h_s0,h_s1,h_s2,h_s3,h_sR,h_t0,h_t1,h_t2,h_t3,h_tR,h_hLs,h_hLt,h_x0,h_x1,h_x2,h_B⟩:=(id hHeld)
        go_simp
        refine hK.out _ _ ?_ (fun hHeld2=>?_)
        · (try dsimp only);exact⟨bl_cell (bl_alloc (bl_refl _) _) h_p0,bl_cell (bl_alloc (bl_refl _) _) h_p1,bl_cell (bl_alloc (bl_refl _) _) h_p2,bl_cell (bl_alloc (bl_refl _) _) h_p3,bl_cell (bl_alloc (bl_refl _) _) h_p4,bl_cell (bl_alloc (bl_refl _) _) h_p5,bl_cell (bl_alloc (bl_refl _) _) h_s0,bl_cell (bl_alloc (bl_refl _) _) h_s1,bl_cell (bl_alloc (bl_refl _) _) h_s2,bl_cell (bl_alloc (bl_refl _) _) h_s3,res_bl h_sR (bl_alloc (bl_refl _) _),bl_cell (bl_alloc (bl_refl _) _) h_t0,bl_cell (bl_alloc (bl_refl _) _) h_t1,bl_cell (bl_alloc (bl_refl _) _) h_t2,bl_cell (bl_alloc (bl_refl _) _) h_t3,res_bl h_tR (bl_alloc (bl_refl _) _),log_bl h_hLs (bl_alloc (bl_refl _) _),log_bl h_hLt (bl_alloc (bl_refl _) _),bl_cell (bl_alloc (bl_refl _) _) h_x0,bl_cell (bl_alloc (bl_refl _) _) h_x1,bl_cell (bl_alloc (bl_refl _) _) h_x2,bl_alloc h_B _⟩
        have rn0:=World.block_lt_of_cell? _ _ h_p0
        have rn1:=World.block_lt_of_cell? _ _ h_s0
        have rn2:=World.block_lt_of_cell? _ _ h_t0
        have rn3:=World.block_lt_of_cell? _ _ h_x0
        have LT_hLs:=log_lt h_hLs
        have LT_hLt:=log_lt h_hLt
        dsimp only at rn0 rn1 rn2 rn3
        have rB:=h_B.size
        clear hHeld hK K h_p0 h_p1 h_p2 h_p3 h_p4 h_p5 h_s0 h_s1 h_s2 h_s3 h_sR h_t0 h_t1 h_t2 h_t3 h_tR h_hLs h_hLt h_x0 h_x1 h_x2 h_B
        have hHeld:=hHeld2
        clear hHeld2
        try simp only[Act.put,List.setIfInBounds_toArray,List.set_cons_zero,List.set_cons_succ]
        refine wpAnyH_abs (F:=fun X=>ResB X X0.heap.size) hHeld (res_new _ _ _ _ _ _ rfl) ?_
        clear hHeld
        generalize X0.heap.size=ru at *
        rintro X6 hHeld hRes
        refine callC (i:=6) rfl (fun K hK=>?_)
        obtain⟨h_p0,h_p1,h_p2,h_p3,h_p4,h_p5,h_s0,h_s1,h_s2,h_s3,h_sR,h_t0,h_t1,h_t2,h_t3,h_tR,h_hLs,h_hLt,h_x0,h_x1,h_x2,h_B⟩:=(id hHeld)
        go_simp
        refine(HDA.out _ _ _ _ h_hLs).mono ?_
        rintro e X7 ⟨a3,n3,c3,rfl,hLu,hSr,hb⟩
        have hP1:=off_src hO1 hSr (World.block_lt_of_cell? _ _ h_s0)
        have hP2:=off_src hO2 hSr (World.block_lt_of_cell? _ _ h_t0)
        have hFr:=hSr
        clear hSr
        go_wp2_with fail
        refine hK.out _ _ ?_ (fun hHeld2=>?_)
        · (try dsimp only);exact⟨bl_cell hb h_p0,bl_cell hb h_p1,bl_cell hb h_p2,bl_cell hb h_p3,bl_cell hb h_p4,bl_cell hb h_p5,bl_cell hb h_s0,bl_cell hb h_s1,bl_cell hb h_s2,bl_cell hb h_s3,res_bl h_sR hb,bl_cell hb h_t0,bl_cell hb h_t1,bl_cell hb h_t2,bl_cell hb h_t3,res_bl h_tR hb,log_bl h_hLs hb,log_bl h_hLt hb,bl_cell hb h_x0,bl_cell hb h_x1,bl_cell hb h_x2,bl_then h_B hb⟩
        have hrl:=res_lt hRes
        have hne:∀ ad,a3=some ad→n3≠0→ad.block≠ru:=fun ad e hn=>by rcases hFr with h|⟨rfl,rfl⟩|h;exact absurd h hn;exact Nat.ne_of_lt (LT_hLs ad e hn);have:=h ad e;omega
        clear hrl
        replace hRes:=res_bl hRes hb
        clear hHeld hK K h_p0 h_p1 h_p2 h_p3 h_p4 h_p5 h_s0 h_s1 h_s2 h_s3 h_sR h_t0 h_t1 h_t2 h_t3 h_tR h_hLs h_hLt h_x0 h_x1 h_x2 h_B hb
        have hHeld:=hHeld2
        clear hHeld2
        try simp only[Act.put,List.setIfInBounds_toArray,List.set_cons_zero,List.set_cons_succ]
        refine tkx 7 ?_
        refine tkx 8 ?_
        refine tkx 9 ?_
        refine callC (i:=11) rfl (fun K hK=>?_)
        obtain⟨h_p0,h_p1,h_p2,h_p3,h_p4,h_p5,h_s0,h_s1,h_s2,h_s3,h_sR,h_t0,h_t1,h_t2,h_t3,h_tR,h_hLs,h_hLt,h_x0,h_x1,h_x2,h_B⟩:=(id hHeld)
        obtain⟨f0,f1,f2,f3,u0,u1,u2,u3,i0,i1,i2,i3⟩:=res_all hRes
        go_simp
        refine hK.out _ _ ?_ (fun hHeld2=>?_)
        · (try dsimp only);exact⟨far4 h_p0 (by dsimp only;omega),far4 h_p1 (by dsimp only;omega),far4 h_p2 (by dsimp only;omega),far4 h_p3 (by dsimp only;omega),far4 h_p4 (by dsimp only;omega),far4 h_p5 (by dsimp only;omega),far4 h_s0 (by dsimp only;omega),far4 h_s1 (by dsimp only;omega),far4 h_s2 (by dsimp only;omega),far4 h_s3 (by dsimp only;omega),res4 h_sR,far4 h_t0 (by dsimp only;omega),far4 h_t1 (by dsimp only;omega),far4 h_t2 (by dsimp only;omega),far4 h_t3 (by dsimp only;omega),res4 h_tR,log_set4 h_hLs (fun ad e hn=>by have:=LT_hLs ad e hn;omega),log_set4 h_hLt (fun ad e hn=>by have:=LT_hLt ad e hn;omega),far4 h_x0 (by dsimp only;omega),far4 h_x1 (by dsimp only;omega),far4 h_x2 (by dsimp only;omega),bl4 h_B (by omega)⟩
        obtain⟨z0,z1,z2,z3⟩:=set4r (v0:=.int .i64 ra) (v1:=.int .i64 rl) (v2:=.int .i64 rh) (v3:=.slice a3 n3 c3) hRes
        replace hLu:=log_set4 (b:=ru) (v0:=.int .i64 ra) (v1:=.int .i64 rl) (v2:=.int .i64 rh) (v3:=.slice a3 n3 c3) hLu hne
        replace hRes:=res4 (b:=ru) (v0:=.int .i64 ra) (v1:=.int .i64 rl) (v2:=.int .i64 rh) (v3:=.slice a3 n3 c3) hRes
        clear hHeld hK K h_p0 h_p1 h_p2 h_p3 h_p4 h_p5 h_s0 h_s1 h_s2 h_s3 h_sR h_t0 h_t1 h_t2 h_t3 h_tR h_hLs h_hLt h_x0 h_x1 h_x2 h_B f0 f1 f2 f3 i0 i1 i2 i3 u0 u1 u2 u3
        have hHeld:=hHeld2
        clear hHeld2
        try simp only[Act.put,List.setIfInBounds_toArray,List.set_cons_zero,List.set_cons_succ]
        refine tkx 12 ?_
        refine wpAnyH_done (by kernel_rfl) ?_ _
        refine then_abs (F:=fun X=>(fun w'=>P6 w' (w.heap.size) k l d b cc o (S4 w' (w3.heap.size) sa sl sh a n c (ResB w' (w3.heap.size)∧S4 w' (w4.heap.size) sa sl sh a2 n c2 (ResB w' (w4.heap.size)∧LogAt w' a n c sL∧LogAt w' a2 n c2 sL∧w'.cell? ⟨xb,xo+j*3,none⟩=some (.int .i64 ak)∧w'.cell? ⟨xb,xo+j*3+1,none⟩=some (.int .i64 anow)∧w'.cell? ⟨xb,xo+j*3+2,none⟩=some (.int .i64 acost)∧Below w.heap.size w w')))) X∧S4 X ru ra rl rh a3 n3 c3 (ResB X ru∧LogAt X a3 n3 c3 rL)) ⟨hHeld,z0,z1,z2,z3,hRes,hLu⟩ ?_
        clear hHeld z0 z1 z2 z3 hRes hLu
      all_goals rintro w32 ⟨⟨p0,p1,p2,p3,p4,p5,s0,s1,s2,s3,sR,t0,t1,t2,t3,tR,hLs,hLt,x0,x1,x2,hB⟩,u0,u1,u2,u3,uR,hLu⟩
      all_goals
        clear hFr
        have lb_p:=lbc p0
        have lb_s:=lbc s0
        have lb_t:=lbc t0
        have lb_x:=lbc x0
        have lb_u:=lbc u0
        go_wp2_with go_step3
        refine wp_region_held_drew (S:=fun w'=>P6 w' (w.heap.size) k l d b cc o (S4 w' (w3.heap.size) sa sl sh a n c (ResB w' (w3.heap.size)∧S4 w' (w4.heap.size) sa sl sh a2 n c2 (ResB w' (w4.heap.size)∧LogAt w' a n c sL∧LogAt w' a2 n c2 sL∧w'.cell? ⟨xb,xo+j*3,none⟩=some (.int .i64 ak)∧w'.cell? ⟨xb,xo+j*3+1,none⟩=some (.int .i64 anow)∧w'.cell? ⟨xb,xo+j*3+2,none⟩=some (.int .i64 acost)∧S4 w' ru ra rl rh a3 n3 c3 (ResB w' ru∧LogAt w' a3 n3 c3 rL∧Below w.heap.size w w'))))) (by kernel_rfl) ?_ (fun hHeld=>?_)
        · exact⟨p0,p1,p2,p3,p4,p5,s0,s1,s2,s3,sR,t0,t1,t2,t3,tR,hLs,hLt,x0,x1,x2,u0,u1,u2,u3,uR,hLu,bl_drew hB⟩
        try simp only[Act.put,List.setIfInBounds_toArray,List.set_cons_zero,List.set_cons_succ]
        clear hB p0 p1 p2 p3 p4 p5 s0 s1 s2 s3 sR t0 t1 t2 t3 tR hLs hLt x0 x1 x2 u0 u1 u2 u3 uR hLu
        refine wpAnyH_abs (F:=fun _=>True) hHeld trivial ?_
        clear hHeld
        rintro X0 hHeld -
        refine tkx 0 ?_
        refine tkx 1 ?_
        refine tkx 2 ?_
        refine tkx 3 ?_
        refine tkx 4 ?_
        refine tkx 5 ?_
        refine callC2 (i:=6) (j:=10) rfl rfl ?_ ?_
        case' refine_1 =>
          intro K hK
          obtain⟨h_p0,h_p1,h_p2,h_p3,h_p4,h_p5,h_s0,h_s1,h_s2,h_s3,h_sR,h_t0,h_t1,h_t2,h_t3,h_tR,h_hLs,h_hLt,h_x0,h_x1,h_x2,h_u0,h_u1,h_u2,h_u3,h_uR,h_hLu,h_B⟩:=(id hHeld)
          go_simp
          refine(HDB.out _ _ _ _ h_hLt).mono ?_
          rintro e X6 ⟨a4,n4,c4,rfl,hLv,hSr,hb⟩
          have hQ1:=off_src hO3 hSr (World.block_lt_of_cell? _ _ h_s0)
          have hQ2:=off_src hO4 hSr (World.block_lt_of_cell? _ _ h_t0)
          have hFr:=hSr
          clear hSr
          go_wp2_with fail
          refine hK.out _ _ ?_ (fun hHeld2=>?_)
          · (try dsimp only);exact⟨bl_cell hb h_p0,bl_cell hb h_p1,bl_cell hb h_p2,bl_cell hb h_p3,bl_cell hb h_p4,bl_cell hb h_p5,bl_cell hb h_s0,bl_cell hb h_s1,bl_cell hb h_s2,bl_cell hb h_s3,res_bl h_sR hb,bl_cell hb h_t0,bl_cell hb h_t1,bl_cell hb h_t2,bl_cell hb h_t3,res_bl h_tR hb,log_bl h_hLs hb,log_bl h_hLt hb,bl_cell hb h_x0,bl_cell hb h_x1,bl_cell hb h_x2,bl_cell hb h_u0,bl_cell hb h_u1,bl_cell hb h_u2,bl_cell hb h_u3,res_bl h_uR hb,log_bl h_hLu hb,bl_then h_B hb⟩
          clear hHeld hK K h_p0 h_p1 h_p2 h_p3 h_p4 h_p5 h_s0 h_s1 h_s2 h_s3 h_sR h_t0 h_t1 h_t2 h_t3 h_tR h_hLs h_hLt h_x0 h_x1 h_x2 h_u0 h_u1 h_u2 h_u3 h_uR h_hLu h_B hb
          have hHeld:=hHeld2
          clear hHeld2
          try simp only[Act.put,List.setIfInBounds_toArray,List.set_cons_zero,List.set_cons_succ]
          refine tkx 7 ?_
          refine tkx 8 ?_
          refine tkx 9 ?_
          refine callC (i:=10) rfl (fun K hK=>?_)
          obtain⟨h_p0,h_p1,h_p2,h_p3,h_p4,h_p5,h_s0,h_s1,h_s2,h_s3,h_sR,h_t0,h_t1,h_t2,h_t3,h_tR,h_hLs,h_hLt,h_x0,h_x1,h_x2,h_u0,h_u1,h_u2,h_u3,h_uR,h_hLu,h_B⟩:=(id hHeld)
          go_simp
          refine hK.out _ _ ?_ (fun hHeld2=>?_)
          · (try dsimp only);exact⟨bl_cell (bl_alloc (bl_refl _) _) h_p0,bl_cell (bl_alloc (bl_refl _) _) h_p1,bl_cell (bl_alloc (bl_refl _) _) h_p2,bl_cell (bl_alloc (bl_refl _) _) h_p3,bl_cell (bl_alloc (bl_refl _) _) h_p4,bl_cell (bl_alloc (bl_refl _) _) h_p5,bl_cell (bl_alloc (bl_refl _) _) h_s0,bl_cell (bl_alloc (bl_refl _) _) h_s1,bl_cell (bl_alloc (bl_refl _) _) h_s2,bl_cell (bl_alloc (bl_refl _) _) h_s3,res_bl h_sR (bl_alloc (bl_refl _) _),bl_cell (bl_alloc (bl_refl _) _) h_t0,bl_cell (bl_alloc (bl_refl _) _) h_t1,bl_cell (bl_alloc (bl_refl _) _) h_t2,bl_cell (bl_alloc (bl_refl _) _) h_t3,res_bl h_tR (bl_alloc (bl_refl _) _),log_bl h_hLs (bl_alloc (bl_refl _) _),log_bl h_hLt (bl_alloc (bl_refl _) _),bl_cell (bl_alloc (bl_refl _) _) h_x0,bl_cell (bl_alloc (bl_refl _) _) h_x1,bl_cell (bl_alloc (bl_refl _) _) h_x2,bl_cell (bl_alloc (bl_refl _) _) h_u0,bl_cell (bl_alloc (bl_refl _) _) h_u1,bl_cell (bl_alloc (bl_refl _) _) h_u2,bl_cell (bl_alloc (bl_refl _) _) h_u3,res_bl h_uR (bl_alloc (bl_refl _) _),log_bl h_hLu (bl_alloc (bl_refl _) _),bl_alloc h_B _⟩
          have rn0:=World.block_lt_of_cell? _ _ h_u0
          have rn1:=World.block_lt_of_cell? _ _ h_p0
          have rn2:=World.block_lt_of_cell? _ _ h_s0
          have rn3:=World.block_lt_of_cell? _ _ h_t0
          have rn4:=World.block_lt_of_cell? _ _ h_x0
          have LT_hLs:=log_lt h_hLs
          have LT_hLt:=log_lt h_hLt
          have LT_hLu:=log_lt h_hLu
          dsimp only at rn0 rn1 rn2 rn3 rn4
          have rB:=h_B.size
          have hne:=log_lt hLv
          replace hLv:=log_bl hLv (bl_alloc (bl_refl _) (.cells #[.int .i64 0,.int .i64 0,.int .i64 0,.slice none 0 0] 26))
          clear hHeld hK K h_p0 h_p1 h_p2 h_p3 h_p4 h_p5 h_s0 h_s1 h_s2 h_s3 h_sR h_t0 h_t1 h_t2 h_t3 h_tR h_hLs h_hLt h_x0 h_x1 h_x2 h_u0 h_u1 h_u2 h_u3 h_uR h_hLu h_B
          have hHeld:=hHeld2
          clear hHeld2
          try simp only[Act.put,List.setIfInBounds_toArray,List.set_cons_zero,List.set_cons_succ]
          refine wpAnyH_abs (F:=fun X=>ResB X X6.heap.size∧LogAt X a4 n4 c4 rL) hHeld ⟨res_new _ _ _ _ _ _ rfl,hLv⟩ ?_
          clear hHeld hLv
          generalize X6.heap.size=rv at *
          replace hne:=fun ad e hn=>Nat.ne_of_lt (hne ad e hn)
          rintro X10 hHeld ⟨hRes,hLv⟩
          refine callC (i:=11) rfl (fun K hK=>?_)
          obtain⟨h_p0,h_p1,h_p2,h_p3,h_p4,h_p5,h_s0,h_s1,h_s2,h_s3,h_sR,h_t0,h_t1,h_t2,h_t3,h_tR,h_hLs,h_hLt,h_x0,h_x1,h_x2,h_u0,h_u1,h_u2,h_u3,h_uR,h_hLu,h_B⟩:=(id hHeld)
          obtain⟨f0,f1,f2,f3,u0,u1,u2,u3,i0,i1,i2,i3⟩:=res_all hRes
          go_simp
          refine hK.out _ _ ?_ (fun hHeld2=>?_)
          · (try dsimp only);exact⟨far4 h_p0 (by dsimp only;omega),far4 h_p1 (by dsimp only;omega),far4 h_p2 (by dsimp only;omega),far4 h_p3 (by dsimp only;omega),far4 h_p4 (by dsimp only;omega),far4 h_p5 (by dsimp only;omega),far4 h_s0 (by dsimp only;omega),far4 h_s1 (by dsimp only;omega),far4 h_s2 (by dsimp only;omega),far4 h_s3 (by dsimp only;omega),res4 h_sR,far4 h_t0 (by dsimp only;omega),far4 h_t1 (by dsimp only;omega),far4 h_t2 (by dsimp only;omega),far4 h_t3 (by dsimp only;omega),res4 h_tR,log_set4 h_hLs (fun ad e hn=>by have:=LT_hLs ad e hn;omega),log_set4 h_hLt (fun ad e hn=>by have:=LT_hLt ad e hn;omega),far4 h_x0 (by dsimp only;omega),far4 h_x1 (by dsimp only;omega),far4 h_x2 (by dsimp only;omega),far4 h_u0 (by dsimp only;omega),far4 h_u1 (by dsimp only;omega),far4 h_u2 (by dsimp only;omega),far4 h_u3 (by dsimp only;omega),res4 h_uR,log_set4 h_hLu (fun ad e hn=>by have:=LT_hLu ad e hn;omega),bl4 h_B (by omega)⟩
          obtain⟨z0,z1,z2,z3⟩:=set4r (v0:=.int .i64 ra) (v1:=.int .i64 rl) (v2:=.int .i64 rh) (v3:=.slice a4 n4 c4) hRes
          replace hLv:=log_set4 (b:=rv) (v0:=.int .i64 ra) (v1:=.int .i64 rl) (v2:=.int .i64 rh) (v3:=.slice a4 n4 c4) hLv hne
          replace hRes:=res4 (b:=rv) (v0:=.int .i64 ra) (v1:=.int .i64 rl) (v2:=.int .i64 rh) (v3:=.slice a4 n4 c4) hRes
          clear hHeld hK K h_p0 h_p1 h_p2 h_p3 h_p4 h_p5 h_s0 h_s1 h_s2 h_s3 h_sR h_t0 h_t1 h_t2 h_t3 h_tR h_hLs h_hLt h_x0 h_x1 h_x2 h_u0 h_u1 h_u2 h_u3 h_uR h_hLu h_B f0 f1 f2 f3 i0 i1 i2 i3 u0 u1 u2 u3
          have hHeld:=hHeld2
          clear hHeld2
          try simp only[Act.put,List.setIfInBounds_toArray,List.set_cons_zero,List.set_cons_succ]
          refine tkx 12 ?_
          refine wpAnyH_done (by kernel_rfl) ?_ _
          refine then_abs (F:=fun X=>(fun w'=>P6 w' (w.heap.size) k l d b cc o (S4 w' (w3.heap.size) sa sl sh a n c (ResB w' (w3.heap.size)∧S4 w' (w4.heap.size) sa sl sh a2 n c2 (ResB w' (w4.heap.size)∧LogAt w' a n c sL∧LogAt w' a2 n c2 sL∧w'.cell? ⟨xb,xo+j*3,none⟩=some (.int .i64 ak)∧w'.cell? ⟨xb,xo+j*3+1,none⟩=some (.int .i64 anow)∧w'.cell? ⟨xb,xo+j*3+2,none⟩=some (.int .i64 acost)∧S4 w' ru ra rl rh a3 n3 c3 (ResB w' ru∧LogAt w' a3 n3 c3 rL∧Below w.heap.size w w'))))) X∧S4 X rv ra rl rh a4 n4 c4 (ResB X rv∧LogAt X a4 n4 c4 rL)) ⟨hHeld,z0,z1,z2,z3,hRes,hLv⟩ ?_
          clear hHeld z0 z1 z2 z3 hRes hLv
        case' refine_2 =>
          intro K hK
          obtain⟨h_p0,h_p1,h_p2,h_p3,h_p4,h_p5,h_s0,h_s1,h_s2,h_s3,h_sR,h_t0,h_t1,h_t2,h_t3,h_tR,h_hLs,h_hLt,h_x0,h_x1,h_x2,h_u0,h_u1,h_u2,h_u3,h_uR,h_hLu,h_B⟩:=(id hHeld)
          go_simp
          refine hK.out _ _ ?_ (fun hHeld2=>?_)
          · (try dsimp only);exact⟨bl_cell (bl_alloc (bl_refl _) _) h_p0,bl_cell (bl_alloc (bl_refl _) _) h_p1,bl_cell (bl_alloc (bl_refl _) _) h_p2,bl_cell (bl_alloc (bl_refl _) _) h_p3,bl_cell (bl_alloc (bl_refl _) _) h_p4,bl_cell (bl_alloc (bl_refl _) _) h_p5,bl_cell (bl_alloc (bl_refl _) _) h_s0,bl_cell (bl_alloc (bl_refl _) _) h_s1,bl_cell (bl_alloc (bl_refl _) _) h_s2,bl_cell (bl_alloc (bl_refl _) _) h_s3,res_bl h_sR (bl_alloc (bl_refl _) _),bl_cell (bl_alloc (bl_refl _) _) h_t0,bl_cell (bl_alloc (bl_refl _) _) h_t1,bl_cell (bl_alloc (bl_refl _) _) h_t2,bl_cell (bl_alloc (bl_refl _) _) h_t3,res_bl h_tR (bl_alloc (bl_refl _) _),log_bl h_hLs (bl_alloc (bl_refl _) _),log_bl h_hLt (bl_alloc (bl_refl _) _),bl_cell (bl_alloc (bl_refl _) _) h_x0,bl_cell (bl_alloc (bl_refl _) _) h_x1,bl_cell (bl_alloc (bl_refl _) _) h_x2,bl_cell (bl_alloc (bl_refl _) _) h_u0,bl_cell (bl_alloc (bl_refl _) _) h_u1,bl_cell (bl_alloc (bl_refl _) _) h_u2,bl_cell (bl_alloc (bl_refl _) _) h_u3,res_bl h_uR (bl_alloc (bl_refl _) _),log_bl h_hLu (bl_alloc (bl_refl _) _),bl_alloc h_B _⟩
          have rn0:=World.block_lt_of_cell? _ _ h_u0
          have rn1:=World.block_lt_of_cell? _ _ h_p0
          have rn2:=World.block_lt_of_cell? _ _ h_s0
          have rn3:=World.block_lt_of_cell? _ _ h_t0
          have rn4:=World.block_lt_of_cell? _ _ h_x0
          have LT_hLs:=log_lt h_hLs
          have LT_hLt:=log_lt h_hLt
          have LT_hLu:=log_lt h_hLu
          dsimp only at rn0 rn1 rn2 rn3 rn4
          have rB:=h_B.size
          clear hHeld hK K h_p0 h_p1 h_p2 h_p3 h_p4 h_p5 h_s0 h_s1 h_s2 h_s3 h_sR h_t0 h_t1 h_t2 h_t3 h_tR h_hLs h_hLt h_x0 h_x1 h_x2 h_u0 h_u1 h_u2 h_u3 h_uR h_hLu h_B
          have hHeld:=hHeld2
          clear hHeld2
          try simp only[Act.put,List.setIfInBounds_toArray,List.set_cons_zero,List.set_cons_succ]
          refine wpAnyH_abs (F:=fun X=>ResB X X0.heap.size) hHeld (res_new _ _ _ _ _ _ rfl) ?_
          clear hHeld
          generalize X0.heap.size=rv at *
          rintro X6 hHeld hRes
          refine callC (i:=6) rfl (fun K hK=>?_)
          obtain⟨h_p0,h_p1,h_p2,h_p3,h_p4,h_p5,h_s0,h_s1,h_s2,h_s3,h_sR,h_t0,h_t1,h_t2,h_t3,h_tR,h_hLs,h_hLt,h_x0,h_x1,h_x2,h_u0,h_u1,h_u2,h_u3,h_uR,h_hLu,h_B⟩:=(id hHeld)
          go_simp
          refine(HDB.out _ _ _ _ h_hLt).mono ?_
          rintro e X7 ⟨a4,n4,c4,rfl,hLv,hSr,hb⟩
          have hQ1:=off_src hO3 hSr (World.block_lt_of_cell? _ _ h_s0)
          have hQ2:=off_src hO4 hSr (World.block_lt_of_cell? _ _ h_t0)
          have hFr:=hSr
          clear hSr
          go_wp2_with fail
          refine hK.out _ _ ?_ (fun hHeld2=>?_)
          · (try dsimp only);exact⟨bl_cell hb h_p0,bl_cell hb h_p1,bl_cell hb h_p2,bl_cell hb h_p3,bl_cell hb h_p4,bl_cell hb h_p5,bl_cell hb h_s0,bl_cell hb h_s1,bl_cell hb h_s2,bl_cell hb h_s3,res_bl h_sR hb,bl_cell hb h_t0,bl_cell hb h_t1,bl_cell hb h_t2,bl_cell hb h_t3,res_bl h_tR hb,log_bl h_hLs hb,log_bl h_hLt hb,bl_cell hb h_x0,bl_cell hb h_x1,bl_cell hb h_x2,bl_cell hb h_u0,bl_cell hb h_u1,bl_cell hb h_u2,bl_cell hb h_u3,res_bl h_uR hb,log_bl h_hLu hb,bl_then h_B hb⟩
          have hrl:=res_lt hRes
          have hne:∀ ad,a4=some ad→n4≠0→ad.block≠rv:=fun ad e hn=>by rcases hFr with h|⟨rfl,rfl⟩|h;exact absurd h hn;exact Nat.ne_of_lt (LT_hLt ad e hn);have:=h ad e;omega
          clear hrl
          replace hRes:=res_bl hRes hb
          clear hHeld hK K h_p0 h_p1 h_p2 h_p3 h_p4 h_p5 h_s0 h_s1 h_s2 h_s3 h_sR h_t0 h_t1 h_t2 h_t3 h_tR h_hLs h_hLt h_x0 h_x1 h_x2 h_u0 h_u1 h_u2 h_u3 h_uR h_hLu h_B hb
          have hHeld:=hHeld2
          clear hHeld2
          try simp only[Act.put,List.setIfInBounds_toArray,List.set_cons_zero,List.set_cons_succ]
          refine tkx 7 ?_
          refine tkx 8 ?_
          refine tkx 9 ?_
          refine callC (i:=11) rfl (fun K hK=>?_)
          obtain⟨h_p0,h_p1,h_p2,h_p3,h_p4,h_p5,h_s0,h_s1,h_s2,h_s3,h_sR,h_t0,h_t1,h_t2,h_t3,h_tR,h_hLs,h_hLt,h_x0,h_x1,h_x2,h_u0,h_u1,h_u2,h_u3,h_uR,h_hLu,h_B⟩:=(id hHeld)
          obtain⟨f0,f1,f2,f3,u0,u1,u2,u3,i0,i1,i2,i3⟩:=res_all hRes
          go_simp
          refine hK.out _ _ ?_ (fun hHeld2=>?_)
          · (try dsimp only);exact⟨far4 h_p0 (by dsimp only;omega),far4 h_p1 (by dsimp only;omega),far4 h_p2 (by dsimp only;omega),far4 h_p3 (by dsimp only;omega),far4 h_p4 (by dsimp only;omega),far4 h_p5 (by dsimp only;omega),far4 h_s0 (by dsimp only;omega),far4 h_s1 (by dsimp only;omega),far4 h_s2 (by dsimp only;omega),far4 h_s3 (by dsimp only;omega),res4 h_sR,far4 h_t0 (by dsimp only;omega),far4 h_t1 (by dsimp only;omega),far4 h_t2 (by dsimp only;omega),far4 h_t3 (by dsimp only;omega),res4 h_tR,log_set4 h_hLs (fun ad e hn=>by have:=LT_hLs ad e hn;omega),log_set4 h_hLt (fun ad e hn=>by have:=LT_hLt ad e hn;omega),far4 h_x0 (by dsimp only;omega),far4 h_x1 (by dsimp only;omega),far4 h_x2 (by dsimp only;omega),far4 h_u0 (by dsimp only;omega),far4 h_u1 (by dsimp only;omega),far4 h_u2 (by dsimp only;omega),far4 h_u3 (by dsimp only;omega),res4 h_uR,log_set4 h_hLu (fun ad e hn=>by have:=LT_hLu ad e hn;omega),bl4 h_B (by omega)⟩
          obtain⟨z0,z1,z2,z3⟩:=set4r (v0:=.int .i64 ra) (v1:=.int .i64 rl) (v2:=.int .i64 rh) (v3:=.slice a4 n4 c4) hRes
          replace hLv:=log_set4 (b:=rv) (v0:=.int .i64 ra) (v1:=.int .i64 rl) (v2:=.int .i64 rh) (v3:=.slice a4 n4 c4) hLv hne
          replace hRes:=res4 (b:=rv) (v0:=.int .i64 ra) (v1:=.int .i64 rl) (v2:=.int .i64 rh) (v3:=.slice a4 n4 c4) hRes
          clear hHeld hK K h_p0 h_p1 h_p2 h_p3 h_p4 h_p5 h_s0 h_s1 h_s2 h_s3 h_sR h_t0 h_t1 h_t2 h_t3 h_tR h_hLs h_hLt h_x0 h_x1 h_x2 h_u0 h_u1 h_u2 h_u3 h_uR h_hLu h_B f0 f1 f2 f3 i0 i1 i2 i3 u0 u1 u2 u3
          have hHeld:=hHeld2
          clear hHeld2
          try simp only[Act.put,List.setIfInBounds_toArray,List.set_cons_zero,List.set_cons_succ]
          refine tkx 12 ?_
          refine wpAnyH_done (by kernel_rfl) ?_ _
          refine then_abs (F:=fun X=>(fun w'=>P6 w' (w.heap.size) k l d b cc o (S4 w' (w3.heap.size) sa sl sh a n c (ResB w' (w3.heap.size)∧S4 w' (w4.heap.size) sa sl sh a2 n c2 (ResB w' (w4.heap.size)∧LogAt w' a n c sL∧LogAt w' a2 n c2 sL∧w'.cell? ⟨xb,xo+j*3,none⟩=some (.int .i64 ak)∧w'.cell? ⟨xb,xo+j*3+1,none⟩=some (.int .i64 anow)∧w'.cell? ⟨xb,xo+j*3+2,none⟩=some (.int .i64 acost)∧S4 w' ru ra rl rh a3 n3 c3 (ResB w' ru∧LogAt w' a3 n3 c3 rL∧Below w.heap.size w w'))))) X∧S4 X rv ra rl rh a4 n4 c4 (ResB X rv∧LogAt X a4 n4 c4 rL)) ⟨hHeld,z0,z1,z2,z3,hRes,hLv⟩ ?_
          clear hHeld z0 z1 z2 z3 hRes hLv
        all_goals rintro w33 ⟨⟨p0,p1,p2,p3,p4,p5,s0,s1,s2,s3,sR,t0,t1,t2,t3,tR,hLs,hLt,x0,x1,x2,u0,u1,u2,u3,uR,hLu,hB⟩,v0,v1,v2,v3,vR,hLv⟩
        all_goals
          have hnn:n3=n4:=hLu.1.symm.trans hLv.1
          subst hnn
          have lb_p:=lbc p0
          have lb_s:=lbc s0
          have lb_t:=lbc t0
          have lb_x:=lbc x0
          have lb_u:=lbc u0
          have lb_v:=lbc v0
          clear hLs hLt x0 x1 x2
          obtain⟨fa0,fa1,fa2,fa3,ua0,ua1,ua2,ua3,ia0,ia1,ia2,ia3⟩:=res_all sR
          obtain⟨fb0,fb1,fb2,fb3,ub0,ub1,ub2,ub3,ib0,ib1,ib2,ib3⟩:=res_all tR
          go_wp2_with go_step3
          have fr0:=True.intro
          have fr1:=True.intro
          have fr2:=True.intro
          have fr3:=True.intro
          obtain⟨z0,z1,z2,z3⟩:=set4r (v0:=.int .i64 ra) (v1:=.int .i64 rl) (v2:=.int .i64 rh) (v3:=.slice a3 n3 c3) sR
          replace p0:=far4 (b:=w3.heap.size) (v0:=.int .i64 ra) (v1:=.int .i64 rl) (v2:=.int .i64 rh) (v3:=.slice a3 n3 c3) p0 (by dsimp only;omega)
          replace p1:=far4 (b:=w3.heap.size) (v0:=.int .i64 ra) (v1:=.int .i64 rl) (v2:=.int .i64 rh) (v3:=.slice a3 n3 c3) p1 (by dsimp only;omega)
          replace p2:=far4 (b:=w3.heap.size) (v0:=.int .i64 ra) (v1:=.int .i64 rl) (v2:=.int .i64 rh) (v3:=.slice a3 n3 c3) p2 (by dsimp only;omega)
          replace p3:=far4 (b:=w3.heap.size) (v0:=.int .i64 ra) (v1:=.int .i64 rl) (v2:=.int .i64 rh) (v3:=.slice a3 n3 c3) p3 (by dsimp only;omega)
          replace p4:=far4 (b:=w3.heap.size) (v0:=.int .i64 ra) (v1:=.int .i64 rl) (v2:=.int .i64 rh) (v3:=.slice a3 n3 c3) p4 (by dsimp only;omega)
          replace p5:=far4 (b:=w3.heap.size) (v0:=.int .i64 ra) (v1:=.int .i64 rl) (v2:=.int .i64 rh) (v3:=.slice a3 n3 c3) p5 (by dsimp only;omega)
          replace s0:=z0
          replace s1:=z1
          replace s2:=z2
          replace s3:=z3
          replace sR:=res4 (b:=w3.heap.size) (v0:=.int .i64 ra) (v1:=.int .i64 rl) (v2:=.int .i64 rh) (v3:=.slice a3 n3 c3) sR
          replace t0:=far4 (b:=w3.heap.size) (v0:=.int .i64 ra) (v1:=.int .i64 rl) (v2:=.int .i64 rh) (v3:=.slice a3 n3 c3) t0 (by dsimp only;omega)
          replace t1:=far4 (b:=w3.heap.size) (v0:=.int .i64 ra) (v1:=.int .i64 rl) (v2:=.int .i64 rh) (v3:=.slice a3 n3 c3) t1 (by dsimp only;omega)
          replace t2:=far4 (b:=w3.heap.size) (v0:=.int .i64 ra) (v1:=.int .i64 rl) (v2:=.int .i64 rh) (v3:=.slice a3 n3 c3) t2 (by dsimp only;omega)
          replace t3:=far4 (b:=w3.heap.size) (v0:=.int .i64 ra) (v1:=.int .i64 rl) (v2:=.int .i64 rh) (v3:=.slice a3 n3 c3) t3 (by dsimp only;omega)
          replace tR:=res4 (b:=w3.heap.size) (v0:=.int .i64 ra) (v1:=.int .i64 rl) (v2:=.int .i64 rh) (v3:=.slice a3 n3 c3) tR
          replace u0:=far4 (b:=w3.heap.size) (v0:=.int .i64 ra) (v1:=.int .i64 rl) (v2:=.int .i64 rh) (v3:=.slice a3 n3 c3) u0 (by dsimp only;omega)
          replace u1:=far4 (b:=w3.heap.size) (v0:=.int .i64 ra) (v1:=.int .i64 rl) (v2:=.int .i64 rh) (v3:=.slice a3 n3 c3) u1 (by dsimp only;omega)
          replace u2:=far4 (b:=w3.heap.size) (v0:=.int .i64 ra) (v1:=.int .i64 rl) (v2:=.int .i64 rh) (v3:=.slice a3 n3 c3) u2 (by dsimp only;omega)
          replace u3:=far4 (b:=w3.heap.size) (v0:=.int .i64 ra) (v1:=.int .i64 rl) (v2:=.int .i64 rh) (v3:=.slice a3 n3 c3) u3 (by dsimp only;omega)
          replace uR:=res4 (b:=w3.heap.size) (v0:=.int .i64 ra) (v1:=.int .i64 rl) (v2:=.int .i64 rh) (v3:=.slice a3 n3 c3) uR
          replace hLu:=log_set4 (b:=w3.heap.size) (v0:=.int .i64 ra) (v1:=.int .i64 rl) (v2:=.int .i64 rh) (v3:=.slice a3 n3 c3) hLu hP1
          replace v0:=far4 (b:=w3.heap.size) (v0:=.int .i64 ra) (v1:=.int .i64 rl) (v2:=.int .i64 rh) (v3:=.slice a3 n3 c3) v0 (by dsimp only;omega)
          replace v1:=far4 (b:=w3.heap.size) (v0:=.int .i64 ra) (v1:=.int .i64 rl) (v2:=.int .i64 rh) (v3:=.slice a3 n3 c3) v1 (by dsimp only;omega)
          replace v2:=far4 (b:=w3.heap.size) (v0:=.int .i64 ra) (v1:=.int .i64 rl) (v2:=.int .i64 rh) (v3:=.slice a3 n3 c3) v2 (by dsimp only;omega)
          replace v3:=far4 (b:=w3.heap.size) (v0:=.int .i64 ra) (v1:=.int .i64 rl) (v2:=.int .i64 rh) (v3:=.slice a3 n3 c3) v3 (by dsimp only;omega)
          replace vR:=res4 (b:=w3.heap.size) (v0:=.int .i64 ra) (v1:=.int .i64 rl) (v2:=.int .i64 rh) (v3:=.slice a3 n3 c3) vR
          replace hLv:=log_set4 (b:=w3.heap.size) (v0:=.int .i64 ra) (v1:=.int .i64 rl) (v2:=.int .i64 rh) (v3:=.slice a3 n3 c3) hLv hQ1
          replace hB:=bl4 (b:=w3.heap.size) (v0:=.int .i64 ra) (v1:=.int .i64 rl) (v2:=.int .i64 rh) (v3:=.slice a3 n3 c3) hB (by omega)
          clear z0 z1 z2 z3 fr0 fr1 fr2 fr3
          have fr0:=True.intro
          have fr1:=True.intro
          have fr2:=True.intro
          have fr3:=True.intro
          obtain⟨z0,z1,z2,z3⟩:=set4r (v0:=.int .i64 ra) (v1:=.int .i64 rl) (v2:=.int .i64 rh) (v3:=.slice a4 n3 c4) tR
          replace p0:=far4 (b:=w4.heap.size) (v0:=.int .i64 ra) (v1:=.int .i64 rl) (v2:=.int .i64 rh) (v3:=.slice a4 n3 c4) p0 (by dsimp only;omega)
          replace p1:=far4 (b:=w4.heap.size) (v0:=.int .i64 ra) (v1:=.int .i64 rl) (v2:=.int .i64 rh) (v3:=.slice a4 n3 c4) p1 (by dsimp only;omega)
          replace p2:=far4 (b:=w4.heap.size) (v0:=.int .i64 ra) (v1:=.int .i64 rl) (v2:=.int .i64 rh) (v3:=.slice a4 n3 c4) p2 (by dsimp only;omega)
          replace p3:=far4 (b:=w4.heap.size) (v0:=.int .i64 ra) (v1:=.int .i64 rl) (v2:=.int .i64 rh) (v3:=.slice a4 n3 c4) p3 (by dsimp only;omega)
          replace p4:=far4 (b:=w4.heap.size) (v0:=.int .i64 ra) (v1:=.int .i64 rl) (v2:=.int .i64 rh) (v3:=.slice a4 n3 c4) p4 (by dsimp only;omega)
          replace p5:=far4 (b:=w4.heap.size) (v0:=.int .i64 ra) (v1:=.int .i64 rl) (v2:=.int .i64 rh) (v3:=.slice a4 n3 c4) p5 (by dsimp only;omega)
          replace s0:=far4 (b:=w4.heap.size) (v0:=.int .i64 ra) (v1:=.int .i64 rl) (v2:=.int .i64 rh) (v3:=.slice a4 n3 c4) s0 (by dsimp only;omega)
          replace s1:=far4 (b:=w4.heap.size) (v0:=.int .i64 ra) (v1:=.int .i64 rl) (v2:=.int .i64 rh) (v3:=.slice a4 n3 c4) s1 (by dsimp only;omega)
          replace s2:=far4 (b:=w4.heap.size) (v0:=.int .i64 ra) (v1:=.int .i64 rl) (v2:=.int .i64 rh) (v3:=.slice a4 n3 c4) s2 (by dsimp only;omega)
          replace s3:=far4 (b:=w4.heap.size) (v0:=.int .i64 ra) (v1:=.int .i64 rl) (v2:=.int .i64 rh) (v3:=.slice a4 n3 c4) s3 (by dsimp only;omega)
          replace sR:=res4 (b:=w4.heap.size) (v0:=.int .i64 ra) (v1:=.int .i64 rl) (v2:=.int .i64 rh) (v3:=.slice a4 n3 c4) sR
          replace t0:=z0
          replace t1:=z1
          replace t2:=z2
          replace t3:=z3
          replace tR:=res4 (b:=w4.heap.size) (v0:=.int .i64 ra) (v1:=.int .i64 rl) (v2:=.int .i64 rh) (v3:=.slice a4 n3 c4) tR
          replace u0:=far4 (b:=w4.heap.size) (v0:=.int .i64 ra) (v1:=.int .i64 rl) (v2:=.int .i64 rh) (v3:=.slice a4 n3 c4) u0 (by dsimp only;omega)
          replace u1:=far4 (b:=w4.heap.size) (v0:=.int .i64 ra) (v1:=.int .i64 rl) (v2:=.int .i64 rh) (v3:=.slice a4 n3 c4) u1 (by dsimp only;omega)
          replace u2:=far4 (b:=w4.heap.size) (v0:=.int .i64 ra) (v1:=.int .i64 rl) (v2:=.int .i64 rh) (v3:=.slice a4 n3 c4) u2 (by dsimp only;omega)
          replace u3:=far4 (b:=w4.heap.size) (v0:=.int .i64 ra) (v1:=.int .i64 rl) (v2:=.int .i64 rh) (v3:=.slice a4 n3 c4) u3 (by dsimp only;omega)
          replace uR:=res4 (b:=w4.heap.size) (v0:=.int .i64 ra) (v1:=.int .i64 rl) (v2:=.int .i64 rh) (v3:=.slice a4 n3 c4) uR
          replace hLu:=log_set4 (b:=w4.heap.size) (v0:=.int .i64 ra) (v1:=.int .i64 rl) (v2:=.int .i64 rh) (v3:=.slice a4 n3 c4) hLu hP2
          replace v0:=far4 (b:=w4.heap.size) (v0:=.int .i64 ra) (v1:=.int .i64 rl) (v2:=.int .i64 rh) (v3:=.slice a4 n3 c4) v0 (by dsimp only;omega)
          replace v1:=far4 (b:=w4.heap.size) (v0:=.int .i64 ra) (v1:=.int .i64 rl) (v2:=.int .i64 rh) (v3:=.slice a4 n3 c4) v1 (by dsimp only;omega)
          replace v2:=far4 (b:=w4.heap.size) (v0:=.int .i64 ra) (v1:=.int .i64 rl) (v2:=.int .i64 rh) (v3:=.slice a4 n3 c4) v2 (by dsimp only;omega)
          replace v3:=far4 (b:=w4.heap.size) (v0:=.int .i64 ra) (v1:=.int .i64 rl) (v2:=.int .i64 rh) (v3:=.slice a4 n3 c4) v3 (by dsimp only;omega)
          replace vR:=res4 (b:=w4.heap.size) (v0:=.int .i64 ra) (v1:=.int .i64 rl) (v2:=.int .i64 rh) (v3:=.slice a4 n3 c4) vR
          replace hLv:=log_set4 (b:=w4.heap.size) (v0:=.int .i64 ra) (v1:=.int .i64 rl) (v2:=.int .i64 rh) (v3:=.slice a4 n3 c4) hLv hQ2
          replace hB:=bl4 (b:=w4.heap.size) (v0:=.int .i64 ra) (v1:=.int .i64 rl) (v2:=.int .i64 rh) (v3:=.slice a4 n3 c4) hB (by omega)
          clear z0 z1 z2 z3 fr0 fr1 fr2 fr3
          go_roundw
          case rel =>
            refine⟨j+1,a3,a4,n3,c3,c4,by go_num,hj1,⟨?_,hP1,hP2,hQ1,hQ2⟩⟩
            rw[HNX.out]
            exact⟨p0,p1,p2,p3,p4,p5,s0,s1,s2,s3,sR,t0,t1,t2,t3,tR,hLu,hLv,hB⟩
          case measure=>(simp[intOf];first|exact hms|omega)
    · have hje:j=m:=by omega
      subst hje
      generalize F j=st at *
      obtain⟨sa,sl,sh,sL⟩:=st
      unfold St.v Pol.v at hsa
      dsimp only at *
      have HSB:=Go.Lib.hid hsa
      clear hsa
      go_wp2_with go_step3
      refine(HSB.out _ _ _ _ _ _ hLs hLt).mono ?_
      rintro e w61 ⟨rfl,hb⟩
      have hsz61:wr.heap.size+0≤w61.heap.size:=szl hb
      replace p0:=bl_cell hb p0
      replace p1:=bl_cell hb p1
      replace p2:=bl_cell hb p2
      replace p3:=bl_cell hb p3
      replace p4:=bl_cell hb p4
      replace p5:=bl_cell hb p5
      replace s0:=bl_cell hb s0
      replace s1:=bl_cell hb s1
      replace s2:=bl_cell hb s2
      replace s3:=bl_cell hb s3
      replace sR:=res_bl sR hb
      replace t0:=bl_cell hb t0
      replace t1:=bl_cell hb t1
      replace t2:=bl_cell hb t2
      replace t3:=bl_cell hb t3
      replace tR:=res_bl tR hb
      replace hLs:=log_bl hLs hb
      replace hLt:=log_bl hLt hb
      replace hB:Below w.heap.size w w61:=bl_then hB hb
      have lb_p:=lbc p0
      have lb_s:=lbc s0
      have lb_t:=lbc t0
      clear hb
      go_wp2_with go_step3
      refine(HKN.out _).mono ?_
      rintro e w9 ⟨rfl,hb9⟩
      go_wp2_with go_step3
      go_ret
      exact⟨rfl,bl_then hB hb9⟩
theorem steps_row (p:Pol) (start:Int) (la:Option Addr) (m lc:Nat) (acts:List Ac) (now cost:Int) (w:World) (h1 : -9223372036854775808≤start) (h2:start≤9223372036854775807) (hA:ActsIn w la m lc acts) (h3 : -9223372036854775808≤now) (h4:now≤9223372036854775807) (h5 : -9223372036854775808≤cost) (h6:cost≤9223372036854775807) :
    Calls Tryz.prog 4 #[p.v,.int .i64 start,.slice la m lc,.int .i64 now,.int .i64 cost] w fun e w'=>e=.returned (.bool true)∧Below w.heap.size w w':=by
  by_cases hm:(m:Int)≤60
  · exact steps_yes p start la m lc acts now cost w hm hA
  · exact steps_long p start la m lc acts now cost w hm
end Go.Proofs.YtmhikkbdhboodaaGreat

namespace Go.Proofs.YtmhikkbdhboodaaGreat
open Go.RowKit Go.ChangeShapes Go.WideShapes Go.Deep
set_option linter.unusedVariables false
set_option linter.unusedSimpArgs false

theorem entry_fields:∃ f0 f1:Field,Tryz.prog.underlying 82=some (.struct #[f0,f1])∧(f0.offset=0∧f0.type=3)∧(f1.offset=1∧f1.type=3) :=
  ⟨_,_,Tryz.underlying82,⟨rfl,rfl⟩,⟨rfl,rfl⟩⟩
theorem act_fields:∃ f0 f1 f2:Field,Tryz.prog.underlying 46=some (.struct #[f0,f1,f2])∧(f0.offset=0∧f0.type=3)∧(f1.offset=1∧f1.type=3)∧(f2.offset=2∧f2.type=3) :=
  ⟨_,_,_,Tryz.underlying46,⟨rfl,rfl⟩,⟨rfl,rfl⟩,⟨rfl,rfl⟩⟩
theorem state_fields:∃ f0 f1 f2 f3:Field,Tryz.prog.underlying 26=some (.struct #[f0,f1,f2,f3])∧(f0.offset=0∧f0.type=3)∧(f1.offset=1∧f1.type=3)∧(f2.offset=2∧f2.type=3)∧(f3.offset=3∧f3.type=24) :=
  ⟨_,_,_,_,Tryz.underlying26,⟨rfl,rfl⟩,⟨rfl,rfl⟩,⟨rfl,rfl⟩,⟨rfl,rfl⟩⟩
theorem pol_fields:∃ f0 f1 f2 f3 f4 f5:Field,Tryz.prog.underlying 23=some (.struct #[f0,f1,f2,f3,f4,f5])∧(f0.offset=0∧f0.type=3)∧(f1.offset=1∧f1.type=3)∧(f2.offset=2∧f2.type=3)∧(f3.offset=3∧f3.type=3)∧(f4.offset=4∧f4.type=3)∧(f5.offset=5∧f5.type=4) :=
  ⟨_,_,_,_,_,_,Tryz.underlying23,⟨rfl,rfl⟩,⟨rfl,rfl⟩,⟨rfl,rfl⟩,⟨rfl,rfl⟩,⟨rfl,rfl⟩,⟨rfl,rfl⟩⟩
theorem lcells_int:Tryz.prog.cellsOf 3=1:=by kernel_rfl
theorem lcells_bool:Tryz.prog.cellsOf 4=1:=by kernel_rfl
theorem lcells_entries:Tryz.prog.cellsOf 24=1:=by kernel_rfl
theorem lcells_entry:Tryz.prog.cellsOf 82=2:=by kernel_rfl
theorem lcells_act:Tryz.prog.cellsOf 46=3:=by kernel_rfl
theorem lcells_state:Tryz.prog.cellsOf 26=4:=by kernel_rfl
theorem lcells_pol:Tryz.prog.cellsOf 23=6:=by kernel_rfl

theorem le_max {c:Nat} (h:c≤maxLen):c≤9223372036854775807:=by
  have e:maxLen=9223372036854775807:=by kernel_rfl
  rw[e] at h;exact h

section
variable {H:Type} {enc:TypeId × Value→H} {w:World} {base:Nat} {spare:Nat→Bool} {held:Bool}

theorem bool_cell {n:Nat} {c:List Value} {y:DataW H × List MemPlace} (h:DataW.trod enc Tryz.prog w base spare held n 4 c=some y) (hc:c.length=1):∃ b,c=[.bool b]:=by
  match c,hc with
  | [v],_ =>
    cases n with
    | zero=>simp[DataW.trod] at h
    | succ n =>
      unfold DataW.trod at h
      rw[Tryz.underlying4] at h
      cases v <;> simp at h
      exact⟨_,rfl⟩
theorem entry_cells {n:Nat} {cs:List Value} {y:DataW H × List MemPlace} (h:DataW.trod enc Tryz.prog w base spare held n 82 cs=some y) :
    ∃ e:Int × Int,cs=[.int .i64 e.1,.int .i64 e.2]:=by
  obtain⟨f0,f1,hu,⟨o0,t0⟩,⟨o1,t1⟩⟩:=entry_fields
  obtain⟨xs,m,_,_,hl,hx,hg⟩:=DataW.trod_struct hu h
  rw[lcells_entry] at hl
  match cs,hl with
  | [c0,c1],_ =>
    match xs,hx with
    | [y0,y1],_ =>
      have g0:=hg 0 f0 rfl
      have g1:=hg 1 f1 rfl
      rw[o0,t0,lcells_int] at g0
      rw[o1,t1,lcells_int] at g1
      obtain⟨n0,e0,_,_⟩:=DataW.trod_int Tryz.underlying3 (g0.trans rfl)
      obtain⟨n1,e1,_,_⟩:=DataW.trod_int Tryz.underlying3 (g1.trans rfl)
      simp at e0 e1
      subst e0 e1
      exact⟨(n0,n1),rfl⟩
theorem act_cells {n:Nat} {cs:List Value} {y:DataW H × List MemPlace} (h:DataW.trod enc Tryz.prog w base spare held n 46 cs=some y) :
    ∃ x:Ac,cs=[.int .i64 x.kind,.int .i64 x.now,.int .i64 x.cost]:=by
  obtain⟨f0,f1,f2,hu,⟨o0,t0⟩,⟨o1,t1⟩,⟨o2,t2⟩⟩:=act_fields
  obtain⟨xs,m,_,_,hl,hx,hg⟩:=DataW.trod_struct hu h
  rw[lcells_act] at hl
  match cs,hl with
  | [c0,c1,c2],_ =>
    match xs,hx with
    | [y0,y1,y2],_ =>
      have g0:=hg 0 f0 rfl
      have g1:=hg 1 f1 rfl
      have g2:=hg 2 f2 rfl
      rw[o0,t0,lcells_int] at g0
      rw[o1,t1,lcells_int] at g1
      rw[o2,t2,lcells_int] at g2
      obtain⟨n0,e0,_,_⟩:=DataW.trod_int Tryz.underlying3 (g0.trans rfl)
      obtain⟨n1,e1,_,_⟩:=DataW.trod_int Tryz.underlying3 (g1.trans rfl)
      obtain⟨n2,e2,_,_⟩:=DataW.trod_int Tryz.underlying3 (g2.trans rfl)
      simp at e0 e1 e2
      subst e0 e1 e2
      exact⟨⟨n0,n1,n2⟩,rfl⟩
/-- The entries of a slice. -/
theorem open_log {fuel:Nat} {cs:List Value} {x:DataW H × List MemPlace} (h:DataW.trod enc Tryz.prog w base spare held fuel 24 cs=some x):∃ a n c L,cs=[.slice a n c]∧LogAt w a n c L:=by
  rcases open_slice Tryz.underlying24 h with⟨rfl,_⟩|⟨ad,len,cap,m,n,D,Pl,rfl,_,hl,hm,hmm,_,hi⟩
  · exact⟨none,0,0,[],rfl,log_nil _ _ _ (by omega)⟩
  · have hle:len≤m:=by rw[hmm];split <;> omega
    have key:∀ i,∃ e:Int × Int,i<len→∃ b off,ad=⟨b,off,none⟩∧w.cell? ⟨b,off+i*2,none⟩=some (.int .i64 e.1)∧w.cell? ⟨b,off+i*2+1,none⟩=some (.int .i64 e.2):=fun i=>by
      by_cases hlt:i<len
      · obtain ⟨cs',hc,ht⟩:=hi i (by omega)
        rw[lcells_entry] at hc
        obtain⟨e,rfl⟩:=entry_cells ht
        obtain⟨_,_,hat⟩:=World.cells?_some hc
        obtain⟨cs0,hc0,_⟩:=hi 0 (by omega)
        rw[lcells_entry] at hc0
        obtain⟨_,hl0,hat0⟩:=World.cells?_some hc0
        obtain⟨b,off,spot⟩:=ad
        have hsp:spot=none:=by
          have h1:=hat0 0 (by omega)
          rw[List.getElem?_eq_getElem (by omega)] at h1
          simpa [Addr.add] using World.cell?_spot h1
        subst hsp
        have plain:∀ j,((⟨b,off,none⟩:Addr).add (i*2)).add j=⟨b,off+i*2+j,none⟩:=fun j=>by
          unfold Addr.add
          split <;> split <;> simp_all <;> omega
        refine⟨e,fun _=>⟨b,off,rfl,?_,?_⟩⟩
        · have:=hat 0 (by omega);rw[plain] at this;simpa using this
        · have:=hat 1 (by omega);rw[plain] at this;simpa using this
      · exact⟨(0,0),fun h=>absurd h hlt⟩
    refine⟨some ad,len,cap,(List.range len).map (fun i=>Classical.choose (key i)),rfl,by simp,hl,le_max hm,fun i hlt=>?_⟩
    obtain⟨b,off,h2,h3⟩:=Classical.choose_spec (key i) hlt
    have e1:((List.range len).map (fun i=>Classical.choose (key i))).getD i (0,0)=Classical.choose (key i):=by
      rw[List.getD_eq_getElem?_getD,List.getElem?_map,List.getElem?_range hlt];rfl
    rw[e1]
    exact⟨b,off,by rw[h2],h3⟩
/-- The acts of a slice. -/
theorem open_acts {fuel:Nat} {a:Option Addr} {len cap:Nat} {x:DataW H × List MemPlace} (h:DataW.trod enc Tryz.prog w base spare held fuel 27 [.slice a len cap]=some x):∃ L,ActsIn w a len cap L:=by
  rcases open_slice Tryz.underlying27 h with⟨e,_⟩|⟨ad,len',cap',m,n,D,Pl,e,_,hl,hm,hmm,_,hi⟩
  · injection e with e _
    injection e with _ e2 e3
    subst e2 e3
    exact⟨[],rfl,Nat.le_refl _,by omega,fun i hi=>by omega⟩
  · injection e with e _
    injection e with e1 e2 e3
    subst e1 e2 e3
    have hle:len≤m:=by rw[hmm];split <;> omega
    have key:∀ i,∃ e:Ac,i<len→∃ b off,ad=⟨b,off,none⟩∧w.cell? ⟨b,off+i*3,none⟩=some (.int .i64 e.kind)∧w.cell? ⟨b,off+i*3+1,none⟩=some (.int .i64 e.now)∧w.cell? ⟨b,off+i*3+2,none⟩=some (.int .i64 e.cost):=fun i=>by
      by_cases hlt:i<len
      · obtain ⟨cs',hc,ht⟩:=hi i (by omega)
        rw[lcells_act] at hc
        obtain⟨e,rfl⟩:=act_cells ht
        obtain⟨_,_,hat⟩:=World.cells?_some hc
        obtain⟨cs0,hc0,_⟩:=hi 0 (by omega)
        rw[lcells_act] at hc0
        obtain⟨_,hl0,hat0⟩:=World.cells?_some hc0
        obtain⟨b,off,spot⟩:=ad
        have hsp:spot=none:=by
          have h1:=hat0 0 (by omega)
          rw[List.getElem?_eq_getElem (by omega)] at h1
          simpa [Addr.add] using World.cell?_spot h1
        subst hsp
        have plain:∀ j,((⟨b,off,none⟩:Addr).add (i*3)).add j=⟨b,off+i*3+j,none⟩:=fun j=>by
          unfold Addr.add
          split <;> split <;> simp_all <;> omega
        refine⟨e,fun _=>⟨b,off,rfl,?_,?_,?_⟩⟩
        · have:=hat 0 (by omega);rw[plain] at this;simpa using this
        · have:=hat 1 (by omega);rw[plain] at this;simpa using this
        · have:=hat 2 (by omega);rw[plain] at this;simpa using this
      · exact⟨⟨0,0,0⟩,fun h=>absurd h hlt⟩
    refine⟨(List.range len).map (fun i=>Classical.choose (key i)),by simp,hl,le_max hm,fun i hlt=>?_⟩
    obtain⟨b,off,h2,h3⟩:=Classical.choose_spec (key i) hlt
    have e1:((List.range len).map (fun i=>Classical.choose (key i))).getD i ⟨0,0,0⟩=Classical.choose (key i):=by
      rw[List.getD_eq_getElem?_getD,List.getElem?_map,List.getElem?_range hlt];rfl
    rw[e1]
    exact⟨b,off,by rw[h2],h3⟩
theorem open_act {v:Value} {r:Reach} {b0:Nat} {d:DataW H} {p:List MemPlace} (hv:Value.okWide Tryz.prog w r b0 46 v) (h:∃ fuel,DataW.trod enc Tryz.prog w base spare held fuel 46 v.cells.toList=some (d,p)):∃ x:Ac,v=x.v:=by
  obtain⟨f0,f1,f2,hu,-⟩:=act_fields
  obtain⟨cs,rfl,-⟩:=okWide_struct hu hv
  obtain⟨fuel,h⟩:=h
  obtain⟨x,hx⟩:=act_cells h
  refine⟨x,congrArg Value.agg ?_⟩
  apply Array.toList_inj.1
  simpa [Value.cells] using hx
theorem open_pol {v:Value} {r:Reach} {b0:Nat} {d:DataW H} {p:List MemPlace} (hv:Value.okWide Tryz.prog w r b0 23 v) (h:∃ fuel,DataW.trod enc Tryz.prog w base spare held fuel 23 v.cells.toList=some (d,p)):∃ x:Pol,v=x.v:=by
  obtain⟨f0,f1,f2,f3,f4,f5,hu,⟨o0,t0⟩,⟨o1,t1⟩,⟨o2,t2⟩,⟨o3,t3⟩,⟨o4,t4⟩,⟨o5,t5⟩⟩:=pol_fields
  obtain⟨cs,rfl,-⟩:=okWide_struct hu hv
  obtain⟨fuel,h⟩:=h
  obtain⟨xs,m,_,_,hl,hx,hg⟩:=DataW.trod_struct hu h
  rw[lcells_pol] at hl
  obtain⟨cl⟩:=cs
  simp only[Value.cells] at hl hg
  match cl,hl with
  | [c0,c1,c2,c3,c4,c5],_ =>
    match xs,hx with
    | [y0,y1,y2,y3,y4,y5],_ =>
      have g0:=hg 0 f0 rfl
      have g1:=hg 1 f1 rfl
      have g2:=hg 2 f2 rfl
      have g3:=hg 3 f3 rfl
      have g4:=hg 4 f4 rfl
      have g5:=hg 5 f5 rfl
      rw[o0,t0,lcells_int] at g0
      rw[o1,t1,lcells_int] at g1
      rw[o2,t2,lcells_int] at g2
      rw[o3,t3,lcells_int] at g3
      rw[o4,t4,lcells_int] at g4
      rw[o5,t5,lcells_bool] at g5
      obtain⟨n0,e0,_,_⟩:=DataW.trod_int Tryz.underlying3 (g0.trans rfl)
      obtain⟨n1,e1,_,_⟩:=DataW.trod_int Tryz.underlying3 (g1.trans rfl)
      obtain⟨n2,e2,_,_⟩:=DataW.trod_int Tryz.underlying3 (g2.trans rfl)
      obtain⟨n3,e3,_,_⟩:=DataW.trod_int Tryz.underlying3 (g3.trans rfl)
      obtain⟨n4,e4,_,_⟩:=DataW.trod_int Tryz.underlying3 (g4.trans rfl)
      obtain⟨n5,e5⟩:=bool_cell (g5.trans rfl) (by simp)
      simp at e0 e1 e2 e3 e4 e5
      subst e0 e1 e2 e3 e4 e5
      exact⟨⟨n0,n1,n2,n3,n4,n5⟩,rfl⟩
theorem open_st {v:Value} {r:Reach} {b0:Nat} {d:DataW H} {p:List MemPlace} (hv:Value.okWide Tryz.prog w r b0 26 v) (h:∃ fuel,DataW.trod enc Tryz.prog w base spare held fuel 26 v.cells.toList=some (d,p)):∃ (s:St) (a:Option Addr) (n c:Nat),v=s.v a n c∧LogAt w a n c s.log:=by
  obtain⟨f0,f1,f2,f3,hu,⟨o0,t0⟩,⟨o1,t1⟩,⟨o2,t2⟩,⟨o3,t3⟩⟩:=state_fields
  obtain⟨cs,rfl,-⟩:=okWide_struct hu hv
  obtain⟨fuel,h⟩:=h
  obtain⟨xs,m,_,_,hl,hx,hg⟩:=DataW.trod_struct hu h
  rw[lcells_state] at hl
  obtain⟨cl⟩:=cs
  simp only[Value.cells] at hl hg
  match cl,hl with
  | [c0,c1,c2,c3],_ =>
    match xs,hx with
    | [y0,y1,y2,y3],_ =>
      have g0:=hg 0 f0 rfl
      have g1:=hg 1 f1 rfl
      have g2:=hg 2 f2 rfl
      have g3:=hg 3 f3 rfl
      rw[o0,t0,lcells_int] at g0
      rw[o1,t1,lcells_int] at g1
      rw[o2,t2,lcells_int] at g2
      rw[o3,t3,lcells_entries] at g3
      obtain⟨n0,e0,_,_⟩:=DataW.trod_int Tryz.underlying3 (g0.trans rfl)
      obtain⟨n1,e1,_,_⟩:=DataW.trod_int Tryz.underlying3 (g1.trans rfl)
      obtain⟨n2,e2,_,_⟩:=DataW.trod_int Tryz.underlying3 (g2.trans rfl)
      obtain⟨a,n,c,L,e3,hL⟩:=open_log (g3.trans rfl)
      simp at e0 e1 e2 e3
      subst e0 e1 e2 e3
      exact⟨⟨n0,n1,n2,L⟩,a,n,c,rfl,hL⟩
end
end Go.Proofs.YtmhikkbdhboodaaGreat
