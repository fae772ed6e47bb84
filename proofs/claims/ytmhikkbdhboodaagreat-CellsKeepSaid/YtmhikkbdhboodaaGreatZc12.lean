/-
  What tapsterref06.logged answers.
  What tapsterref06.Do answers.
  No condition.
-/
import Derived.Test.YtmhikkbdhboodaaGreatZc1
import Derived.Test.YtmhikkbdhboodaaGreatZc2
import Derived.Test.YtmhikkbdhboodaaGreatZc6
import Derived.Test.YtmhikkbdhboodaaGreatZc8
import Derived.Test.YtmhikkbdhboodaaGreatZc9
import Derived.Test.YtmhikkbdhboodaaGreatZc11
set_option maxHeartbeats 8000000
set_option maxRecDepth 100000
namespace Go.Proofs.YtmhikkbdhboodaaGreat
open Go.RowKit
set_option linter.unusedVariables false
set_option linter.unusedSimpArgs false

theorem own_form {w:World} {base n:Nat} {v:Value} {L:List (Int × Int)} (h:OwnLog w base v n L):v=.slice none 0 0∧n=0∨∃ g cap,v=.slice (some ⟨g,0,none⟩) n cap:=by
 rcases h.2 with⟨rfl,hx⟩|⟨g,cap,cur,rfl,-⟩
 ·exact .inl ⟨rfl,hx⟩
 ·exact .inr ⟨g,cap,rfl⟩
theorem logged_same (p:Pol) (s:St) (a:Option Addr) (n c:Nat) (cost:Int) (w:World) (hl:LogAt w a n c s.log) (hn:n≤100) (hlev:s.level=0) (hcost:0≤cost∧cost≤1048576) (hbd:∀ e ∈ s.log,0≤e.2∧e.2≤1048576) (m:Nat) (hm:n=m+1) (E1 E2:Int) (hE1:(s.log.getD m (0,0)).1=E1) (hE2:(s.log.getD m (0,0)).2=E2) (hE:E1=s.at_):Calls Tryz.prog 136 #[p.v,s.v a n c,.int .i64 cost] w fun e w'=>StOwn (noted p s cost) w.heap.size e w'∧Below w.heap.size w w':=by
 have hlen:s.log.length=m+1:=by have:=hl.1;omega
 have hinto:into (decide ((s.log.length:Int)=p.cap)) s.at_ s.log:=by
  refine⟨by intro h;rw[h] at hlen;simp at hlen,?_⟩
  rw[hlen,Nat.add_sub_cancel,hE1]
  exact .inl hE
 have hnote:=note_into (decide ((s.log.length:Int)=p.cap)) s.at_ cost s.log hinto
 rw[hlen,Nat.add_sub_cancel,hE2] at hnote
 have hg2:=cellsL_get s.log m (by omega)
 rw[hE1,hE2] at hg2
 have hE2b:0≤E2∧E2≤1048576:=by rw[← hE2];refine hbd _ ?_;rw[List.getD_eq_getElem?_getD,List.getElem?_eq_getElem (by omega)];exact List.getElem_mem _
 have hln2:(s.log.length:Int)=((m+1:Nat):Int):=by omega
 unfold noted
 rw[hln2]
 obtain⟨k,l,d,b,cc,o⟩:=p
 obtain⟨at_,level,held,L⟩:=s
 unfold St.v Pol.v at *
 dsimp only at *
 subst hm hlev
 generalize hNL:noteL (decide (((m+1:Nat):Int)=cc)) at_ cost L=NL at *
 have HN:=Go.Lib.hid hnote.1
 have HG:=Go.Lib.hid hg2
 have hw1:IntKind.i64.wrap (m:Int)=(m:Int):=IntWalk.i64_in _ (by omega)
 have hw2:IntKind.i64.wrap (E2+cost)=E2+cost:=IntWalk.i64_in _ (by omega)
 have k0:(0:Int)≤(m:Int):=by omega
 have k1:(m:Int)<(m:Int)+1:=by omega
 have k2:(0:Int)<(m:Int)+1:=by omega
 have z1:decide (E1=at_)=true:=decide_eq_true hE
 have z1':(E1 == at_)=true:=z1
 clear hinto hnote hlen hE1 hE2 hg2 hE2b hcost hbd hln2 hNL hE
 have HL:=Go.Lib.hid hl
 clear hl
 go_enter Tryz.func136,Tryz.ntmps136
 go_wp2_with (at_builtin;refine wpList_log _ rfl _ _ rfl rfl a (m+1) c L rfl (log_bl HL.out ?q1) (by omega) ?_)
 case q1=>exact bl_alloc (bl_alloc (bl_alloc (bl_refl _) _) _) _
 intro v' w1 hown hbx
 have hb:=(show Below _ _ w1 from hbx)
 clear hbx
 have hx:Below w.heap.size w w1:=bl_then (bl_alloc (bl_alloc (bl_alloc (bl_refl _) _) _) _) hb
 have hsz1:w.heap.size+3≤w1.heap.size:=szl hb
 obtain⟨p0,p1,p2,p3,p4,p5⟩:=b6 (w.heap.size) k l d b cc o hb
 obtain⟨s0,s1,s2,s3⟩:=b4 (w.heap.size+1) at_ 0 held a (m+1) c hb
 have rR:=res_bl (b:=w.heap.size+1+1) (res_new _ _ _ _ _ _ (by simp)) hb
 have hB:Below w.heap.size w w1:=hx
 have lb_p:=lbc p0
 have lb_s:=lbc s0
 clear hb hx
 have ho:OwnLog w1 (w.heap.size+1+1+1) v' (m+1) L:=own_mono hown (by simp)
 clear hown
 obtain ⟨g,cap,rfl⟩:∃ g cap,v'=.slice (some ⟨g,0,none⟩) (m+1) cap:=by
  rcases own_form ho with⟨-,h⟩|h
  ·omega
  ·exact h
 have hgl:=World.ownsRow.lt ho g rfl
 have x1:w1.cell? ⟨g,m*2,none⟩=some (.int .i64 E1):=by rw[World.ownsRow.cellAt ho (m*2) (by omega)];exact HG.out.1
 have x2:w1.cell? ⟨g,m*2+1,none⟩=some (.int .i64 E2):=by rw[World.ownsRow.cellAt ho (m*2+1) (by omega)];exact HG.out.2
 have hgs:g<w1.heap.size:=hgl.2
 have ow:=ho
 clear ho
 go_wp2_with fail
 refine wp_region_held_drew (S:=fun w'=>P6 w' (w.heap.size) k l d b cc o (S4 w' (w.heap.size+1) at_ 0 held a (m+1) c (ResB w' (w.heap.size+1+1)∧w'.cell? ⟨g,m*2,none⟩=some (.int .i64 E1)∧w'.cell? ⟨g,m*2+1,none⟩=some (.int .i64 E2)∧OwnLog w' (w.heap.size+1+1+1) (.slice (some ⟨g,0,none⟩) (m+1) cap) (m+1) L∧Below w.heap.size w w'))) (by kernel_rfl) ?_ (fun hHeld=>?_)
 ·exact⟨p0,p1,p2,p3,p4,p5,s0,s1,s2,s3,rR,x1,x2,ow,bl_drew hB⟩
 try simp only[Act.put,List.setIfInBounds_toArray,List.set_cons_zero,List.set_cons_succ]
 refine tkx 0 ?_
 refine tkx 1 ?_
 refine tkx 2 ?_
 first|refine tqx 3 ?_|refine tkx 3 ?_
 first|refine tqx 4 ?_|refine tkx 4 ?_
 first|refine tqx 5 ?_|refine tkx 5 ?_
 first|refine tqx 6 ?_|refine tkx 6 ?_
 first|refine tqx 7 ?_|refine tkx 7 ?_
 first|refine tqx 8 ?_|refine tkx 8 ?_
 first|refine tqx 9 ?_|refine tkx 9 ?_
 first|refine tqx 10 ?_|refine tkx 10 ?_
 first|refine tqx 11 ?_|refine tkx 11 ?_
 first|refine tqx 12 ?_|refine tkx 12 ?_
 first|refine tqx 13 ?_|refine tkx 13 ?_
 first|refine tqx 14 ?_|refine tkx 14 ?_
 first|refine tqx 15 ?_|refine tkx 15 ?_
 first|refine tqx 16 ?_|refine tkx 16 ?_
 first|refine tqx 17 ?_|refine tkx 17 ?_
 refine tkx 18 ?_
 refine wpAnyH_done (by kernel_rfl) ?_ _
 refine then_abs (F:=fun w'=>P6 w' (w.heap.size) k l d b cc o (S4 w' (w.heap.size+1) at_ 0 held a (m+1) c (ResB w' (w.heap.size+1+1)∧w'.cell? ⟨g,m*2,none⟩=some (.int .i64 E1)∧w'.cell? ⟨g,m*2+1,none⟩=some (.int .i64 E2)∧OwnLog w' (w.heap.size+1+1+1) (.slice (some ⟨g,0,none⟩) (m+1) cap) (m+1) L∧Below w.heap.size w w'))) hHeld ?_
 clear hHeld hB p0 p1 p2 p3 p4 p5 s0 s1 s2 s3 rR x1 x2 ow
 rintro w1 ⟨p0,p1,p2,p3,p4,p5,s0,s1,s2,s3,rR,x1,x2,ow,hB⟩
 replace lb_p:=lbc p0
 replace lb_s:=lbc s0
 have hgb:=hgl.1
 have y0:=World.ownsRow.frozenAt ow (m*2)
 have y1:=World.ownsRow.frozenAt ow (m*2+1)
 obtain⟨f0,f1,f2,f3,u0,u1,u2,u3,i0,i1,i2,i3⟩:=res_all rR
 have hO2:=(World.ownsRow.stored (World.ownsRow.stored ow (m*2) (.int .i64 at_)).1 (m*2+1) (.int .i64 (E2+cost))).1
 rw[← HN.out] at hO2
 have HO2:=Go.Lib.hid hO2
 clear hO2
 have ne1:g≠w.heap.size:=by omega
 have ne2:g≠w.heap.size+1:=by omega
 have ne3:g≠w.heap.size+1+1:=by omega
 go_wp2_with fail
 (try simp only[Exit.inBlock,Exit.then,Exit.noGoto_ret])
 refine bodyPost_ret (results_state rfl _ _ (by rfl) (set4r (res_set (res_set rR _ _) _ _))) rfl ⟨⟨_,m+1,rfl,own_mono (own_set4 (b:=w.heap.size+1+1) HO2.out (by omega)) (by omega)⟩,bl4 (bl_set (bl_set hB (by dsimp only;omega) _) (by dsimp only;omega) _) (by omega)⟩
theorem logged_full (p:Pol) (s:St) (a:Option Addr) (n c:Nat) (cost:Int) (w:World) (hl:LogAt w a n c s.log) (hn:n≤100) (hlev:s.level=0) (hcost:0≤cost∧cost≤1048576) (hbd:∀ e ∈ s.log,0≤e.2∧e.2≤1048576) (m:Nat) (hm:n=m+1) (E1 E2:Int) (hE1:(s.log.getD m (0,0)).1=E1) (hE2:(s.log.getD m (0,0)).2=E2) (hE:¬ E1=s.at_) (hc:(m:Int)+1=p.cap):Calls Tryz.prog 136 #[p.v,s.v a n c,.int .i64 cost] w fun e w'=>StOwn (noted p s cost) w.heap.size e w'∧Below w.heap.size w w':=by
 have hlen:s.log.length=m+1:=by have:=hl.1;omega
 have hinto:into (decide ((s.log.length:Int)=p.cap)) s.at_ s.log:=by
  refine⟨by intro h;rw[h] at hlen;simp at hlen,?_⟩
  rw[hlen,Nat.add_sub_cancel,hE1]
  exact .inr (by rw[decide_eq_true_eq];omega)
 have hnote:=note_into (decide ((s.log.length:Int)=p.cap)) s.at_ cost s.log hinto
 rw[hlen,Nat.add_sub_cancel,hE2] at hnote
 have hg2:=cellsL_get s.log m (by omega)
 rw[hE1,hE2] at hg2
 have hE2b:0≤E2∧E2≤1048576:=by rw[← hE2];refine hbd _ ?_;rw[List.getD_eq_getElem?_getD,List.getElem?_eq_getElem (by omega)];exact List.getElem_mem _
 have hln2:(s.log.length:Int)=((m+1:Nat):Int):=by omega
 unfold noted
 rw[hln2]
 obtain⟨k,l,d,b,cc,o⟩:=p
 obtain⟨at_,level,held,L⟩:=s
 unfold St.v Pol.v at *
 dsimp only at *
 subst hm hlev
 generalize hNL:noteL (decide (((m+1:Nat):Int)=cc)) at_ cost L=NL at *
 have HN:=Go.Lib.hid hnote.1
 have HG:=Go.Lib.hid hg2
 have hw1:IntKind.i64.wrap (m:Int)=(m:Int):=IntWalk.i64_in _ (by omega)
 have hw2:IntKind.i64.wrap (E2+cost)=E2+cost:=IntWalk.i64_in _ (by omega)
 have k0:(0:Int)≤(m:Int):=by omega
 have k1:(m:Int)<(m:Int)+1:=by omega
 have k2:(0:Int)<(m:Int)+1:=by omega
 have z1:decide (E1=at_)=false:=decide_eq_false hE
 have z1':(E1 == at_)=false:=z1
 have z2:decide ((m:Int)+1=cc)=true:=decide_eq_true hc
 have z2':((m:Int)+1 == cc)=true:=z2
 clear hinto hnote hlen hE1 hE2 hg2 hE2b hcost hbd hln2 hNL hE hc
 have HL:=Go.Lib.hid hl
 clear hl
 go_enter Tryz.func136,Tryz.ntmps136
 go_wp2_with (at_builtin;refine wpList_log _ rfl _ _ rfl rfl a (m+1) c L rfl (log_bl HL.out ?q1) (by omega) ?_)
 case q1=>exact bl_alloc (bl_alloc (bl_alloc (bl_refl _) _) _) _
 intro v' w1 hown hbx
 have hb:=(show Below _ _ w1 from hbx)
 clear hbx
 have hx:Below w.heap.size w w1:=bl_then (bl_alloc (bl_alloc (bl_alloc (bl_refl _) _) _) _) hb
 have hsz1:w.heap.size+3≤w1.heap.size:=szl hb
 obtain⟨p0,p1,p2,p3,p4,p5⟩:=b6 (w.heap.size) k l d b cc o hb
 obtain⟨s0,s1,s2,s3⟩:=b4 (w.heap.size+1) at_ 0 held a (m+1) c hb
 have rR:=res_bl (b:=w.heap.size+1+1) (res_new _ _ _ _ _ _ (by simp)) hb
 have hB:Below w.heap.size w w1:=hx
 have lb_p:=lbc p0
 have lb_s:=lbc s0
 clear hb hx
 have ho:OwnLog w1 (w.heap.size+1+1+1) v' (m+1) L:=own_mono hown (by simp)
 clear hown
 obtain ⟨g,cap,rfl⟩:∃ g cap,v'=.slice (some ⟨g,0,none⟩) (m+1) cap:=by
  rcases own_form ho with⟨-,h⟩|h
  ·omega
  ·exact h
 have hgl:=World.ownsRow.lt ho g rfl
 have x1:w1.cell? ⟨g,m*2,none⟩=some (.int .i64 E1):=by rw[World.ownsRow.cellAt ho (m*2) (by omega)];exact HG.out.1
 have x2:w1.cell? ⟨g,m*2+1,none⟩=some (.int .i64 E2):=by rw[World.ownsRow.cellAt ho (m*2+1) (by omega)];exact HG.out.2
 have hgs:g<w1.heap.size:=hgl.2
 have ow:=ho
 clear ho
 go_wp2_with fail
 refine wp_region_held_drew (S:=fun w'=>P6 w' (w.heap.size) k l d b cc o (S4 w' (w.heap.size+1) at_ 0 held a (m+1) c (ResB w' (w.heap.size+1+1)∧w'.cell? ⟨g,m*2,none⟩=some (.int .i64 E1)∧w'.cell? ⟨g,m*2+1,none⟩=some (.int .i64 E2)∧OwnLog w' (w.heap.size+1+1+1) (.slice (some ⟨g,0,none⟩) (m+1) cap) (m+1) L∧Below w.heap.size w w'))) (by kernel_rfl) ?_ (fun hHeld=>?_)
 ·exact⟨p0,p1,p2,p3,p4,p5,s0,s1,s2,s3,rR,x1,x2,ow,bl_drew hB⟩
 try simp only[Act.put,List.setIfInBounds_toArray,List.set_cons_zero,List.set_cons_succ]
 refine tkx 0 ?_
 refine tkx 1 ?_
 refine tkx 2 ?_
 first|refine tqx 3 ?_|refine tkx 3 ?_
 first|refine tqx 4 ?_|refine tkx 4 ?_
 first|refine tqx 5 ?_|refine tkx 5 ?_
 first|refine tqx 6 ?_|refine tkx 6 ?_
 first|refine tqx 7 ?_|refine tkx 7 ?_
 first|refine tqx 8 ?_|refine tkx 8 ?_
 first|refine tqx 9 ?_|refine tkx 9 ?_
 first|refine tqx 10 ?_|refine tkx 10 ?_
 first|refine tqx 11 ?_|refine tkx 11 ?_
 first|refine tqx 12 ?_|refine tkx 12 ?_
 first|refine tqx 13 ?_|refine tkx 13 ?_
 first|refine tqx 14 ?_|refine tkx 14 ?_
 first|refine tqx 15 ?_|refine tkx 15 ?_
 first|refine tqx 16 ?_|refine tkx 16 ?_
 first|refine tqx 17 ?_|refine tkx 17 ?_
 refine tkx 18 ?_
 refine wpAnyH_done (by kernel_rfl) ?_ _
 refine then_abs (F:=fun w'=>P6 w' (w.heap.size) k l d b cc o (S4 w' (w.heap.size+1) at_ 0 held a (m+1) c (ResB w' (w.heap.size+1+1)∧w'.cell? ⟨g,m*2,none⟩=some (.int .i64 E1)∧w'.cell? ⟨g,m*2+1,none⟩=some (.int .i64 E2)∧OwnLog w' (w.heap.size+1+1+1) (.slice (some ⟨g,0,none⟩) (m+1) cap) (m+1) L∧Below w.heap.size w w'))) hHeld ?_
 clear hHeld hB p0 p1 p2 p3 p4 p5 s0 s1 s2 s3 rR x1 x2 ow
 rintro w1 ⟨p0,p1,p2,p3,p4,p5,s0,s1,s2,s3,rR,x1,x2,ow,hB⟩
 replace lb_p:=lbc p0
 replace lb_s:=lbc s0
 have hgb:=hgl.1
 have y0:=World.ownsRow.frozenAt ow (m*2)
 have y1:=World.ownsRow.frozenAt ow (m*2+1)
 obtain⟨f0,f1,f2,f3,u0,u1,u2,u3,i0,i1,i2,i3⟩:=res_all rR
 have hO2:=(World.ownsRow.stored (World.ownsRow.stored ow (m*2) (.int .i64 at_)).1 (m*2+1) (.int .i64 (E2+cost))).1
 rw[← HN.out] at hO2
 have HO2:=Go.Lib.hid hO2
 clear hO2
 have ne1:g≠w.heap.size:=by omega
 have ne2:g≠w.heap.size+1:=by omega
 have ne3:g≠w.heap.size+1+1:=by omega
 go_wp2_with fail
 (try simp only[Exit.inBlock,Exit.then,Exit.noGoto_ret])
 refine bodyPost_ret (results_state rfl _ _ (by rfl) (set4r (res_set (res_set rR _ _) _ _))) rfl ⟨⟨_,m+1,rfl,own_mono (own_set4 (b:=w.heap.size+1+1) HO2.out (by omega)) (by omega)⟩,bl4 (bl_set (bl_set hB (by dsimp only;omega) _) (by dsimp only;omega) _) (by omega)⟩
theorem logged_none (p:Pol) (s:St) (a:Option Addr) (n c:Nat) (cost:Int) (w:World) (hl:LogAt w a n c s.log) (hn:n≤100) (hlev:s.level=0) (hcost:0≤cost∧cost≤1048576) (hbd:∀ e ∈ s.log,0≤e.2∧e.2≤1048576) (hm:n=0):Calls Tryz.prog 136 #[p.v,s.v a n c,.int .i64 cost] w fun e w'=>StOwn (noted p s cost) w.heap.size e w'∧Below w.heap.size w w':=by
 have hlen:s.log.length=0:=by have:=hl.1;omega
 have hinto:¬ into (decide ((s.log.length:Int)=p.cap)) s.at_ s.log:=by
  rintro⟨h,-⟩
  exact h (List.length_eq_zero_iff.1 hlen)
 have hnote:=note_app (decide ((s.log.length:Int)=p.cap)) s.at_ cost s.log hinto
 unfold noted
 rw[hnote]
 obtain⟨k,l,d,b,cc,o⟩:=p
 obtain⟨at_,level,held,L⟩:=s
 unfold St.v Pol.v at *
 dsimp only at *
 subst hm hlev
 obtain⟨i0',hi,hz0,hz1,hz2⟩:=info_parts infoE
 have HI:=Go.Lib.hid (And.intro hi (And.intro hz0 (And.intro hz1 hz2)))
 clear hinto hnote hlen hcost hbd hi hz0 hz1 hz2
 have HL:=Go.Lib.hid hl
 clear hl
 go_enter Tryz.func136,Tryz.ntmps136
 go_wp2_with (at_builtin;refine wpList_log _ rfl _ _ rfl rfl a 0 c L rfl (log_bl HL.out ?q1) (by omega) ?_)
 case q1=>exact bl_alloc (bl_alloc (bl_alloc (bl_refl _) _) _) _
 intro v' w1 hown hbx
 have hb:=(show Below _ _ w1 from hbx)
 clear hbx
 have hx:Below w.heap.size w w1:=bl_then (bl_alloc (bl_alloc (bl_alloc (bl_refl _) _) _) _) hb
 have hsz1:w.heap.size+3≤w1.heap.size:=szl hb
 obtain⟨p0,p1,p2,p3,p4,p5⟩:=b6 (w.heap.size) k l d b cc o hb
 obtain⟨s0,s1,s2,s3⟩:=b4 (w.heap.size+1) at_ 0 held a 0 c hb
 have rR:=res_bl (b:=w.heap.size+1+1) (res_new _ _ _ _ _ _ (by simp)) hb
 have hB:Below w.heap.size w w1:=hx
 have lb_p:=lbc p0
 have lb_s:=lbc s0
 clear hb hx
 have ho:OwnLog w1 (w.heap.size+1+1+1) v' 0 L:=own_mono hown (by simp)
 clear hown
 obtain⟨ga,cap,rfl,-⟩:=own_log ho
 have ow:=ho
 clear ho
 go_wp2_with fail
 refine wp_region_held_drew (S:=fun w'=>P6 w' (w.heap.size) k l d b cc o (S4 w' (w.heap.size+1) at_ 0 held a 0 c (ResB w' (w.heap.size+1+1)∧OwnLog w' (w.heap.size+1+1+1) (.slice ga 0 cap) 0 L∧Below w.heap.size w w'))) (by kernel_rfl) ?_ (fun hHeld=>?_)
 ·exact⟨p0,p1,p2,p3,p4,p5,s0,s1,s2,s3,rR,ow,bl_drew hB⟩
 try simp only[Act.put,List.setIfInBounds_toArray,List.set_cons_zero,List.set_cons_succ]
 refine tkx 0 ?_
 refine tkx 1 ?_
 refine tkx 2 ?_
 first|refine tqx 3 ?_|refine tkx 3 ?_
 first|refine tqx 4 ?_|refine tkx 4 ?_
 first|refine tqx 5 ?_|refine tkx 5 ?_
 first|refine tqx 6 ?_|refine tkx 6 ?_
 first|refine tqx 7 ?_|refine tkx 7 ?_
 first|refine tqx 8 ?_|refine tkx 8 ?_
 first|refine tqx 9 ?_|refine tkx 9 ?_
 first|refine tqx 10 ?_|refine tkx 10 ?_
 first|refine tqx 11 ?_|refine tkx 11 ?_
 first|refine tqx 12 ?_|refine tkx 12 ?_
 first|refine tqx 13 ?_|refine tkx 13 ?_
 first|refine tqx 14 ?_|refine tkx 14 ?_
 first|refine tqx 15 ?_|refine tkx 15 ?_
 first|refine tqx 16 ?_|refine tkx 16 ?_
 first|refine tqx 17 ?_|refine tkx 17 ?_
 refine tkx 18 ?_
 refine wpAnyH_done (by kernel_rfl) ?_ _
 refine then_abs (F:=fun w'=>P6 w' (w.heap.size) k l d b cc o (S4 w' (w.heap.size+1) at_ 0 held a 0 c (ResB w' (w.heap.size+1+1)∧OwnLog w' (w.heap.size+1+1+1) (.slice ga 0 cap) 0 L∧Below w.heap.size w w'))) hHeld ?_
 clear hHeld hB p0 p1 p2 p3 p4 p5 s0 s1 s2 s3 rR ow
 rintro w1 ⟨p0,p1,p2,p3,p4,p5,s0,s1,s2,s3,rR,ow,hB⟩
 replace lb_p:=lbc p0
 replace lb_s:=lbc s0
 have u22:∀ w,Sem.run Tryz.prog (underlying 24) w=.ok (TypeDesc.slice 82) w:=run_underlying undS
 have z23:∀ w,(Go.sizeOf 82).run Tryz.prog w=.ok 2 w:=by intro w;kernel_rfl
 have hi:=HI.out
 have hsz:=hB.size
 have hrs:=res_lt rR
 go_wp2_with (at_builtin;refine wpList_append_own _ rfl _ _ 24 rfl (w.heap.size+1+1+1) 82 i0' (.agg #[.int .i64 0,.int .i64 0]) 2 16 undS hi.1 hi.2.1 hi.2.2.1 hi.2.2.2 rfl (by decide) _ 0 (cellsL L) rfl ?qc0 ⟨w1.heap.size,0,none⟩ 1 1 [.int .i64 at_,.int .i64 cost] rfl ?qc1 ?qc2 ?qc3 ?qc4 ?qc5 ?qc6 ?_)
 case qc0=>exact World.ownsRow.alloc ow _
 case qc1=>rfl
 case qc2=>exact World.ownsRow.cells (World.ownsRow_lit w1 #[.int .i64 at_,.int .i64 cost] 1 (base:=w.heap.size+1+1+1) (size:=2) (by omega) (by simp[maxLen]) rfl) rfl
 case qc3=>intro u hu;simp at hu;rcases hu with rfl|rfl <;> rfl
 case qc4=>simp only[maxLen];omega
 case qc5=>omega
 case qc6=>rw[World.size_alloc];omega
 intro v5 w5 hown hgrow hnil
 have hown2:OwnLog w5 (w.heap.size+1+1+1) v5 (0+1) (L ++ [(at_,cost)]):=by unfold OwnLog;rw[cellsL_append];exact hown
 have hne:∀ gg,Value.ownBlock (.slice ga 0 cap)=some gg→w.heap.size+1+1+1≤gg:=fun gg hgg=>(World.ownsRow.lt ow gg hgg).1
 replace p0:=grown_cell hgrow (bl_cell (bl_alloc (bl_refl w1) _) p0) (by intro he;have:=hne _ he.symm;omega)
 replace p1:=grown_cell hgrow (bl_cell (bl_alloc (bl_refl w1) _) p1) (by intro he;have:=hne _ he.symm;omega)
 replace p2:=grown_cell hgrow (bl_cell (bl_alloc (bl_refl w1) _) p2) (by intro he;have:=hne _ he.symm;omega)
 replace p3:=grown_cell hgrow (bl_cell (bl_alloc (bl_refl w1) _) p3) (by intro he;have:=hne _ he.symm;omega)
 replace p4:=grown_cell hgrow (bl_cell (bl_alloc (bl_refl w1) _) p4) (by intro he;have:=hne _ he.symm;omega)
 replace p5:=grown_cell hgrow (bl_cell (bl_alloc (bl_refl w1) _) p5) (by intro he;have:=hne _ he.symm;omega)
 replace s0:=grown_cell hgrow (bl_cell (bl_alloc (bl_refl w1) _) s0) (by intro he;have:=hne _ he.symm;omega)
 replace s1:=grown_cell hgrow (bl_cell (bl_alloc (bl_refl w1) _) s1) (by intro he;have:=hne _ he.symm;omega)
 replace s2:=grown_cell hgrow (bl_cell (bl_alloc (bl_refl w1) _) s2) (by intro he;have:=hne _ he.symm;omega)
 replace s3:=grown_cell hgrow (bl_cell (bl_alloc (bl_refl w1) _) s3) (by intro he;have:=hne _ he.symm;omega)
 replace rR:=grown_res hgrow (res_bl rR (bl_alloc (bl_refl w1) _)) (by intro he;have:=hne _ he.symm;omega)
 replace hB:Below w.heap.size w w5:=(hB.alloc (by omega) _).grown hgrow (by rw[World.size_alloc];omega) (fun gg hgg=>by have:=hne gg hgg;omega)
 obtain⟨a9,c9,rfl,-⟩:=own_log hown2
 clear hown hnil hgrow ow
 obtain⟨f0,f1,f2,f3,u0,u1,u2,u3,i0,i1,i2,i3⟩:=res_all rR
 go_wp2_with fail
 (try simp only[Exit.inBlock,Exit.then,Exit.noGoto_ret])
 refine bodyPost_ret (results_state rfl _ _ (by rfl) (set4r rR)) rfl ⟨⟨_,_,rfl,own_mono (own_set4 (b:=w.heap.size+1+1) hown2 (by omega)) (by omega)⟩,bl4 hB (by omega)⟩
theorem logged_more (p:Pol) (s:St) (a:Option Addr) (n c:Nat) (cost:Int) (w:World) (hl:LogAt w a n c s.log) (hn:n≤100) (hlev:s.level=0) (hcost:0≤cost∧cost≤1048576) (hbd:∀ e ∈ s.log,0≤e.2∧e.2≤1048576) (m:Nat) (hm:n=m+1) (E1:Int) (hE1:(s.log.getD m (0,0)).1=E1) (hE:¬ E1=s.at_) (hc:¬ (m:Int)+1=p.cap):Calls Tryz.prog 136 #[p.v,s.v a n c,.int .i64 cost] w fun e w'=>StOwn (noted p s cost) w.heap.size e w'∧Below w.heap.size w w':=by
 have hlen:s.log.length=(m+1):=by have:=hl.1;omega
 have hinto:¬ into (decide ((s.log.length:Int)=p.cap)) s.at_ s.log:=by
  rintro⟨-,h⟩
  rw[hlen,Nat.add_sub_cancel,hE1] at h
  rcases h with h|h
  ·exact hE h
  ·rw[decide_eq_true_eq] at h;exact hc (by omega)
 have hg2:=cellsL_get s.log m (by omega)
 rw[hE1] at hg2
 have hnote:=note_app (decide ((s.log.length:Int)=p.cap)) s.at_ cost s.log hinto
 unfold noted
 rw[hnote]
 obtain⟨k,l,d,b,cc,o⟩:=p
 obtain⟨at_,level,held,L⟩:=s
 unfold St.v Pol.v at *
 dsimp only at *
 subst hm hlev
 obtain⟨i0',hi,hz0,hz1,hz2⟩:=info_parts infoE
 have HI:=Go.Lib.hid (And.intro hi (And.intro hz0 (And.intro hz1 hz2)))
 have HG:=Go.Lib.hid hg2
 have hw1:IntKind.i64.wrap (m:Int)=(m:Int):=IntWalk.i64_in _ (by omega)
 have k0:(0:Int)≤(m:Int):=by omega
 have k1:(m:Int)<(m:Int)+1:=by omega
 have k2:(0:Int)<(m:Int)+1:=by omega
 have z1:decide (E1=at_)=false:=decide_eq_false hE
 have z1':(E1 == at_)=false:=z1
 have z2:decide ((m:Int)+1=cc)=false:=decide_eq_false hc
 have z2':((m:Int)+1 == cc)=false:=z2
 clear hE1 hg2 hE hc
 clear hinto hnote hlen hcost hbd hi hz0 hz1 hz2
 have HL:=Go.Lib.hid hl
 clear hl
 go_enter Tryz.func136,Tryz.ntmps136
 go_wp2_with (at_builtin;refine wpList_log _ rfl _ _ rfl rfl a (m+1) c L rfl (log_bl HL.out ?q1) (by omega) ?_)
 case q1=>exact bl_alloc (bl_alloc (bl_alloc (bl_refl _) _) _) _
 intro v' w1 hown hbx
 have hb:=(show Below _ _ w1 from hbx)
 clear hbx
 have hx:Below w.heap.size w w1:=bl_then (bl_alloc (bl_alloc (bl_alloc (bl_refl _) _) _) _) hb
 have hsz1:w.heap.size+3≤w1.heap.size:=szl hb
 obtain⟨p0,p1,p2,p3,p4,p5⟩:=b6 (w.heap.size) k l d b cc o hb
 obtain⟨s0,s1,s2,s3⟩:=b4 (w.heap.size+1) at_ 0 held a (m+1) c hb
 have rR:=res_bl (b:=w.heap.size+1+1) (res_new _ _ _ _ _ _ (by simp)) hb
 have hB:Below w.heap.size w w1:=hx
 have lb_p:=lbc p0
 have lb_s:=lbc s0
 clear hb hx
 have ho:OwnLog w1 (w.heap.size+1+1+1) v' (m+1) L:=own_mono hown (by simp)
 clear hown
 obtain ⟨g,cap,rfl⟩:∃ g cap,v'=.slice (some ⟨g,0,none⟩) (m+1) cap:=by
  rcases own_form ho with⟨-,h⟩|h
  ·omega
  ·exact h
 have x1:w1.cell? ⟨g,m*2,none⟩=some (.int .i64 E1):=by rw[World.ownsRow.cellAt ho (m*2) (by omega)];exact HG.out.1
 have ow:=ho
 clear ho
 go_wp2_with fail
 refine wp_region_held_drew (S:=fun w'=>P6 w' (w.heap.size) k l d b cc o (S4 w' (w.heap.size+1) at_ 0 held a (m+1) c (ResB w' (w.heap.size+1+1)∧w'.cell? ⟨g,m*2,none⟩=some (.int .i64 E1)∧OwnLog w' (w.heap.size+1+1+1) (.slice (some ⟨g,0,none⟩) (m+1) cap) (m+1) L∧Below w.heap.size w w'))) (by kernel_rfl) ?_ (fun hHeld=>?_)
 ·exact⟨p0,p1,p2,p3,p4,p5,s0,s1,s2,s3,rR,x1,ow,bl_drew hB⟩
 try simp only[Act.put,List.setIfInBounds_toArray,List.set_cons_zero,List.set_cons_succ]
 refine tkx 0 ?_
 refine tkx 1 ?_
 refine tkx 2 ?_
 first|refine tqx 3 ?_|refine tkx 3 ?_
 first|refine tqx 4 ?_|refine tkx 4 ?_
 first|refine tqx 5 ?_|refine tkx 5 ?_
 first|refine tqx 6 ?_|refine tkx 6 ?_
 first|refine tqx 7 ?_|refine tkx 7 ?_
 first|refine tqx 8 ?_|refine tkx 8 ?_
 first|refine tqx 9 ?_|refine tkx 9 ?_
 first|refine tqx 10 ?_|refine tkx 10 ?_
 first|refine tqx 11 ?_|refine tkx 11 ?_
 first|refine tqx 12 ?_|refine tkx 12 ?_
 first|refine tqx 13 ?_|refine tkx 13 ?_
 first|refine tqx 14 ?_|refine tkx 14 ?_
 first|refine tqx 15 ?_|refine tkx 15 ?_
 first|refine tqx 16 ?_|refine tkx 16 ?_
 first|refine tqx 17 ?_|refine tkx 17 ?_
 refine tkx 18 ?_
 refine wpAnyH_done (by kernel_rfl) ?_ _
 refine then_abs (F:=fun w'=>P6 w' (w.heap.size) k l d b cc o (S4 w' (w.heap.size+1) at_ 0 held a (m+1) c (ResB w' (w.heap.size+1+1)∧w'.cell? ⟨g,m*2,none⟩=some (.int .i64 E1)∧OwnLog w' (w.heap.size+1+1+1) (.slice (some ⟨g,0,none⟩) (m+1) cap) (m+1) L∧Below w.heap.size w w'))) hHeld ?_
 clear hHeld hB p0 p1 p2 p3 p4 p5 s0 s1 s2 s3 rR x1 ow
 rintro w1 ⟨p0,p1,p2,p3,p4,p5,s0,s1,s2,s3,rR,x1,ow,hB⟩
 replace lb_p:=lbc p0
 replace lb_s:=lbc s0
 have u22:∀ w,Sem.run Tryz.prog (underlying 24) w=.ok (TypeDesc.slice 82) w:=run_underlying undS
 have z23:∀ w,(Go.sizeOf 82).run Tryz.prog w=.ok 2 w:=by intro w;kernel_rfl
 have hi:=HI.out
 have hsz:=hB.size
 have hrs:=res_lt rR
 go_wp2_with (at_builtin;refine wpList_append_own _ rfl _ _ 24 rfl (w.heap.size+1+1+1) 82 i0' (.agg #[.int .i64 0,.int .i64 0]) 2 16 undS hi.1 hi.2.1 hi.2.2.1 hi.2.2.2 rfl (by decide) _ (m+1) (cellsL L) rfl ?qc0 ⟨w1.heap.size,0,none⟩ 1 1 [.int .i64 at_,.int .i64 cost] rfl ?qc1 ?qc2 ?qc3 ?qc4 ?qc5 ?qc6 ?_)
 case qc0=>exact World.ownsRow.alloc ow _
 case qc1=>rfl
 case qc2=>exact World.ownsRow.cells (World.ownsRow_lit w1 #[.int .i64 at_,.int .i64 cost] 1 (base:=w.heap.size+1+1+1) (size:=2) (by omega) (by simp[maxLen]) rfl) rfl
 case qc3=>intro u hu;simp at hu;rcases hu with rfl|rfl <;> rfl
 case qc4=>simp only[maxLen];omega
 case qc5=>omega
 case qc6=>rw[World.size_alloc];omega
 intro v5 w5 hown hgrow hnil
 have hown2:OwnLog w5 (w.heap.size+1+1+1) v5 ((m+1)+1) (L ++ [(at_,cost)]):=by unfold OwnLog;rw[cellsL_append];exact hown
 have hne:∀ gg,Value.ownBlock (.slice (some ⟨g,0,none⟩) (m+1) cap)=some gg→w.heap.size+1+1+1≤gg:=fun gg hgg=>(World.ownsRow.lt ow gg hgg).1
 replace p0:=grown_cell hgrow (bl_cell (bl_alloc (bl_refl w1) _) p0) (by intro he;have:=hne _ he.symm;omega)
 replace p1:=grown_cell hgrow (bl_cell (bl_alloc (bl_refl w1) _) p1) (by intro he;have:=hne _ he.symm;omega)
 replace p2:=grown_cell hgrow (bl_cell (bl_alloc (bl_refl w1) _) p2) (by intro he;have:=hne _ he.symm;omega)
 replace p3:=grown_cell hgrow (bl_cell (bl_alloc (bl_refl w1) _) p3) (by intro he;have:=hne _ he.symm;omega)
 replace p4:=grown_cell hgrow (bl_cell (bl_alloc (bl_refl w1) _) p4) (by intro he;have:=hne _ he.symm;omega)
 replace p5:=grown_cell hgrow (bl_cell (bl_alloc (bl_refl w1) _) p5) (by intro he;have:=hne _ he.symm;omega)
 replace s0:=grown_cell hgrow (bl_cell (bl_alloc (bl_refl w1) _) s0) (by intro he;have:=hne _ he.symm;omega)
 replace s1:=grown_cell hgrow (bl_cell (bl_alloc (bl_refl w1) _) s1) (by intro he;have:=hne _ he.symm;omega)
 replace s2:=grown_cell hgrow (bl_cell (bl_alloc (bl_refl w1) _) s2) (by intro he;have:=hne _ he.symm;omega)
 replace s3:=grown_cell hgrow (bl_cell (bl_alloc (bl_refl w1) _) s3) (by intro he;have:=hne _ he.symm;omega)
 replace rR:=grown_res hgrow (res_bl rR (bl_alloc (bl_refl w1) _)) (by intro he;have:=hne _ he.symm;omega)
 replace hB:Below w.heap.size w w5:=(hB.alloc (by omega) _).grown hgrow (by rw[World.size_alloc];omega) (fun gg hgg=>by have:=hne gg hgg;omega)
 obtain⟨a9,c9,rfl,-⟩:=own_log hown2
 clear hown hnil hgrow ow x1
 obtain⟨f0,f1,f2,f3,u0,u1,u2,u3,i0,i1,i2,i3⟩:=res_all rR
 go_wp2_with fail
 (try simp only[Exit.inBlock,Exit.then,Exit.noGoto_ret])
 refine bodyPost_ret (results_state rfl _ _ (by rfl) (set4r rR)) rfl ⟨⟨_,_,rfl,own_mono (own_set4 (b:=w.heap.size+1+1) hown2 (by omega)) (by omega)⟩,bl4 hB (by omega)⟩
theorem logged_any (p:Pol) (s:St) (a:Option Addr) (n c:Nat) (cost:Int) (w:World) (hl:LogAt w a n c s.log) (hn:n≤100) (hlev:s.level=0) (hcost:0≤cost∧cost≤1048576) (hbd:∀ e ∈ s.log,0≤e.2∧e.2≤1048576):Calls Tryz.prog 136 #[p.v,s.v a n c,.int .i64 cost] w fun e w'=>StOwn (noted p s cost) w.heap.size e w'∧Below w.heap.size w w':=by
 cases hm:n with
 | zero=>subst hm;exact logged_none p s a 0 c cost w hl hn hlev hcost hbd rfl
 | succ m =>
  subst hm
  by_cases h1:(s.log.getD m (0,0)).1=s.at_
  ·exact logged_same p s a (m+1) c cost w hl hn hlev hcost hbd m rfl _ _ rfl rfl h1
  ·by_cases h2:(m:Int)+1=p.cap
   ·exact logged_full p s a (m+1) c cost w hl hn hlev hcost hbd m rfl _ _ rfl rfl h1 h2
   ·exact logged_more p s a (m+1) c cost w hl hn hlev hcost hbd m rfl _ rfl h1 h2
theorem r6do_no (p:Pol) (s:St) (a:Option Addr) (n c:Nat) (ak now cost:Int) (w:World) (hl:LogAt w a n c s.log) (h:¬ rightL p s):Calls Tryz.prog 69 #[p.v,s.v a n c,.agg #[.int .i64 ak,.int .i64 now,.int .i64 cost]] w (PostSB a n (doL p s ⟨ak,now,cost⟩) w):=by
 have hrt:=fun w hw=>r6right_any p s a n c  w hw
 rw[decide_eq_false h] at hrt
 rw[show doL p s ⟨ak,now,cost⟩=(St.none,false) from if_neg h]
 refine Calls.mono (R:=fun e w'=>e=.returned (.tuple #[.agg #[.int .i64 0,.int .i64 0,.int .i64 0,.slice none 0 0],.bool false])∧Below w.heap.size w w') ?_ (fun e w' hh=>sb_none hh)
 clear h
 obtain⟨k,l,d,b,cc,o⟩:=p
 obtain⟨at_,level,held,L⟩:=s
 unfold St.v Pol.v at *
 dsimp only at *
 have HRT:=Go.Lib.hid hrt
 have HL:=Go.Lib.hid hl
 clear hrt hl
 go_enter Tryz.func69,Tryz.ntmps69
 go_wp2_with go_step3
 refine(HRT.out _ (log_bl HL.out k4)).mono ?_
 rintro e w1 ⟨rfl,hb⟩
 have hx:Below w.heap.size w w1:=bl_then k4 hb
 have hsz1:w.heap.size+4≤w1.heap.size:=szl hb
 obtain⟨p0,p1,p2,p3,p4,p5⟩:=b6 (w.heap.size) k l d b cc o hb
 obtain⟨s0,s1,s2,s3⟩:=b4 (w.heap.size+1) at_ level held a n c hb
 have sR:=res_bl (b:=w.heap.size+1) (res_bl (res_bl (res_new _ _ _ _ _ _ (by simp)) k1) k1) hb
 obtain⟨x0,x1,x2⟩:=b3 (w.heap.size+1+1) ak now cost hb
 have rR:=res_bl (b:=w.heap.size+1+1+1) (res_new _ _ _ _ _ _ (by simp)) hb
 have hB:Below w.heap.size w w1:=hx
 have lb_p:=lbc p0
 have lb_s:=lbc s0
 have lb_x:=lbc x0
 clear hb hx
 obtain⟨f0,f1,f2,f3,u0,u1,u2,u3,i0,i1,i2,i3⟩:=res_all rR
 go_wp2_with go_step3
 (try simp only[Exit.inBlock,Exit.then,Exit.noGoto_ret])
 refine bodyPost_ret (results_state2 rfl _ _ (by rfl) (set4r (rR))) rfl ⟨rfl,bl4 (hB) (by omega)⟩
theorem sb_log {w w':World} {a0:Option Addr} {n0:Nat} {t l h:Int} {lg:List (Int × Int)} {ok:Bool} {a1:Option Addr} {n1 c1:Nat} (hl:LogAt w' a1 n1 c1 lg) (hs:Src a0 n0 w a1 n1) (hb:Below w.heap.size w w') :
  PostSB a0 n0 (⟨t,l,h,lg⟩,ok) w (.returned (.tuple #[.agg #[.int .i64 t,.int .i64 l,.int .i64 h,.slice a1 n1 c1],.bool ok])) w':=⟨a1,n1,c1,rfl,hl,hs,hb⟩
theorem log_setn {w:World} {g:Addr} {v:Value} {a:Option Addr} {n c:Nat} {L:List (Int × Int)} (h:LogAt w a n c L) (hne:∀ ad,a=some ad→n≠0→ad.block≠g.block):LogAt (w.setCell g v) a n c L :=
 ⟨h.1,h.2.1,h.2.2.1,fun i hi=>by
  obtain⟨b,off,e,h1,h2⟩:=h.2.2.2 i hi
  have h3:=hne _ e (by omega)
  exact⟨b,off,e,far_set h1 _ _ (fun e=>h3 e.symm),far_set h2 _ _ (fun e=>h3 e.symm)⟩⟩
theorem log_set4b {w:World} {a:Option Addr} {n c b:Nat} {L:List (Int × Int)} {v0 v1 v2 v3:Value} (h:LogAt w a n c L) (hne:∀ ad,a=some ad→n≠0→ad.block≠b) :
  LogAt ((((w.setCell ⟨b,0,none⟩ v0).setCell ⟨b,1,none⟩ v1).setCell ⟨b,2,none⟩ v2).setCell ⟨b,3,none⟩ v3) a n c L:=log_set4 h hne
theorem src_far {w w1:World} {a0 a:Option Addr} {n0 n c0 b:Nat} {L0:List (Int × Int)} (h0:LogAt w a0 n0 c0 L0) (h:Src a0 n0 w1 a n) (hb:w.heap.size≤b) (hb2:b<w1.heap.size):∀ ad,a=some ad→n≠0→ad.block≠b:=src_ne h0 h hb hb2
theorem r6do_yes (p:Pol) (s:St) (a:Option Addr) (n c:Nat) (ak now cost:Int) (w:World) (hl:LogAt w a n c s.log) (h:rightL p s):Calls Tryz.prog 69 #[p.v,s.v a n c,.agg #[.int .i64 ak,.int .i64 now,.int .i64 cost]] w (PostSB a n (doL p s ⟨ak,now,cost⟩) w):=by
  have hrt:=fun w hw=>r6right_any p s a n c w hw
  rw[decide_eq_true h] at hrt
  have hav:=fun w hw=>r6adv_any p s a n c now w hw
  unfold PostS at hav
  have hro:=fun w hw=>r6room_any p s a n c now w hw
  have hd:=doL_all (now:=now) (c:=cost) (k:=ak) h
  have hlv:=advL_n (now:=now) h
  have hlz:(advL p s now).level=0:=by rw[advL_all h]
  have hlg:=fun(HH:Int) (hc0:0≤cost∧cost≤1048576) (ad:Option Addr) n1 c1 w (hw:LogAt w ad n1 c1 (advL p s now).log)=>logged_any p { advL p s now with held:=HH } ad n1 c1 cost w hw (by have h1:=hw.1;have h2:=hlv.1;omega) hlz hc0 hlv.2.1
  have hlm:=h.1.2.2.2.2.1
  have hl1m:=h.1.2.1
  have hh0:=h.2.2.2.1
  have hh1:=h.2.2.2.2.1
  have hro1:roomL p s now≤p.limit:=by unfold roomL;rw[if_pos h];omega
  generalize doL p s ⟨ak,now,cost⟩=DR at *
  generalize roomL p s now=RO at *
  generalize advL p s now=A at *
  clear h
  obtain⟨aat,alv,ahd,alg⟩:=A
  obtain⟨k,l,d,b,cc,o⟩:=p
  obtain⟨at_,level,held,L⟩:=s
  unfold StOwn noted at hlg
  unfold DoAll noted at hd
  unfold St.v Pol.v at *
  dsimp only at *
  subst hlz
  obtain rfl:held=ahd:=hlv.2.2.2.2.2.2.symm
  have hl0:=log_lt hl
  have HBD:=Go.Lib.hid ((And.intro hlm (And.intro hl1m (And.intro hh0 (And.intro hh1 hro1)))))
  have HRT:=Go.Lib.hid hrt
  have HAV:=Go.Lib.hid hav
  have HRO:=Go.Lib.hid hro
  have HL:=Go.Lib.hid hl
  have HLG:=Go.Lib.hid hlg
  have HD:=Go.Lib.hid hd
  clear hrt hav hro hl hlg hd
  clear hlv hl0 hlm hl1m hh0 hh1 hro1
  go_enter Tryz.func69,Tryz.ntmps69
  go_wp2_with go_step3
  refine(HRT.out _ (log_bl HL.out k4)).mono ?_
  rintro e w1 ⟨rfl,hb⟩
  have hx:Below w.heap.size w w1:=bl_then k4 hb
  have hsz1:w.heap.size+4≤w1.heap.size:=szl hb
  obtain⟨p0,p1,p2,p3,p4,p5⟩:=b6 (w.heap.size) k l d b cc o hb
  obtain⟨s0,s1,s2,s3⟩:=b4 (w.heap.size+1) at_ level held a n c hb
  have sR:=res_bl (b:=w.heap.size+1) (res_bl (res_bl (res_new _ _ _ _ _ _ (by simp)) k1) k1) hb
  obtain⟨x0,x1,x2⟩:=b3 (w.heap.size+1+1) ak now cost hb
  have rR:=res_bl (b:=w.heap.size+1+1+1) (res_new _ _ _ _ _ _ (by simp)) hb
  have hB:Below w.heap.size w w1:=hx
  have lb_p:=lbc p0
  have lb_s:=lbc s0
  have lb_x:=lbc x0
  clear hb hx
  go_wp2_with go_step3
  refine(HAV.out _ (log_bl HL.out (hB))).mono ?_
  rintro e w2 ⟨a1,n1,c1,rfl,hl1,hs1,hb⟩
  have hsz2:w1.heap.size+0≤w2.heap.size:=szl hb
  replace p0:=bl_cell hb p0
  replace p1:=bl_cell hb p1
  replace p2:=bl_cell hb p2
  replace p3:=bl_cell hb p3
  replace p4:=bl_cell hb p4
  replace p5:=bl_cell hb p5
  replace s0:=bl_cell hb s0
  replace s1:=bl_cell hb s1
  replace s2:=bl_cell hb s2
  replace s3:=bl_cell hb s3
  replace sR:=res_bl sR hb
  replace x0:=bl_cell hb x0
  replace x1:=bl_cell hb x1
  replace x2:=bl_cell hb x2
  replace rR:=res_bl rR hb
  replace hB:Below w.heap.size w w2:=bl_then hB hb
  replace lb_p:=lbc p0
  replace lb_s:=lbc s0
  replace lb_x:=lbc x0
  clear hb
  have hne1:=src_far (b:=w.heap.size+1+1+1) HL.out hs1 (by omega) (by omega)
  replace hs1:=src_out hs1 (show w.heap.size≤_ by omega)
  have hlt1:=log_lt hl1
  go_wp2_with go_step3
  skip
  refine wp_abs (S0:=fun X=>(fun w'=>P6 w' (w.heap.size) k l d b cc o (S4 w' (w.heap.size+1) at_ level held a n c (ResB w' (w.heap.size+1)∧X3 w' (w.heap.size+1+1) ak now cost (ResB w' (w.heap.size+1+1+1)∧LogAt w' a1 n1 c1 alg∧S4 w' (w2.heap.size) aat 0 held a1 n1 c1 (ResB w' (w2.heap.size)∧Below w.heap.size w w'))))) X∧w2.heap.size+1≤X.heap.size) ⟨⟨bl_cell k1 p0,bl_cell k1 p1,bl_cell k1 p2,bl_cell k1 p3,bl_cell k1 p4,bl_cell k1 p5,bl_cell k1 s0,bl_cell k1 s1,bl_cell k1 s2,bl_cell k1 s3,res_bl sR k1,bl_cell k1 x0,bl_cell k1 x1,bl_cell k1 x2,res_bl rR k1,log_bl hl1 k1,by go_simp,by go_simp,by go_simp,by go_simp,res_new _ _ _ _ _ _ (by simp),bl_alloc (hB) _⟩,by simp⟩ ?_
  clear p0 p1 p2 p3 p4 p5 s0 s1 s2 s3 sR x0 x1 x2 rR hl1 hB
  rintro w3 ⟨⟨p0,p1,p2,p3,p4,p5,s0,s1,s2,s3,sR,x0,x1,x2,rR,hl1,t0,t1,t2,t3,tR,hB⟩,hsz3⟩
  replace lb_p:=lbc p0
  replace lb_s:=lbc s0
  replace lb_x:=lbc x0
  have lb_t:=lbc t0
  have lwt:=res_lt tR
  have hneT:∀ ad,a1=some ad→n1≠0→ad.block≠w2.heap.size:=fun ad e hn=>Nat.ne_of_lt (hlt1 ad e hn)
  clear hlt1
  have HN:=Go.Lib.hid (And.intro hne1 (And.intro hneT hs1))
  clear hne1 hneT hs1
  obtain⟨g1,hg1⟩:∃ g,decide (cost<1)=g:=⟨_,rfl⟩
  obtain⟨g2,hg2⟩:∃ g,decide (ak<1)=g:=⟨_,rfl⟩
  obtain⟨g3,hg3⟩:∃ g,decide (4<ak)=g:=⟨_,rfl⟩
  obtain⟨g4,hg4⟩:∃ g,decide (ak≤2)=g:=⟨_,rfl⟩
  obtain⟨g5,hg5⟩:∃ g,decide (RO<cost)=g:=⟨_,rfl⟩
  obtain⟨g6,hg6⟩:∃ g,decide (3≤ak)=g:=⟨_,rfl⟩
  obtain⟨g7,hg7⟩:∃ g,decide (held<cost)=g:=⟨_,rfl⟩
  refine wp_region_held_drew (S:=fun w'=>P6 w' (w.heap.size) k l d b cc o (S4 w' (w.heap.size+1) at_ level held a n c (ResB w' (w.heap.size+1)∧X3 w' (w.heap.size+1+1) ak now cost (ResB w' (w.heap.size+1+1+1)∧LogAt w' a1 n1 c1 alg∧S4 w' (w2.heap.size) aat 0 held a1 n1 c1 (ResB w' (w2.heap.size)∧Below w.heap.size w w'))))) (by kernel_rfl) ?_ (fun hHeld=>?_)
  · exact⟨p0,p1,p2,p3,p4,p5,s0,s1,s2,s3,sR,x0,x1,x2,rR,hl1,t0,t1,t2,t3,tR,bl_drew hB⟩
  try simp only[Act.put,List.setIfInBounds_toArray,List.set_cons_zero,List.set_cons_succ]
  clear hB p0 p1 p2 p3 p4 p5 s0 s1 s2 s3 sR x0 x1 x2 rR hl1 t0 t1 t2 t3 tR
  all_goals refine tkx 0 ?_
  all_goals refine tkx 1 ?_
  all_goals refine tkx 2 ?_
  all_goals(first|((fail_if_success (clear hg1 g1));cases g1)|skip)
  all_goals refine tkx 3 ?_
  all_goals(first|refine tqx 4 ?_|refine tkx 4 ?_)
  all_goals(first|refine tqx 5 ?_|refine tkx 5 ?_)
  all_goals(first|refine tqx 6 ?_|refine tkx 6 ?_)
  all_goals(first|((fail_if_success (clear hg2 g2));cases g2)|skip)
  all_goals refine tkx 7 ?_
  all_goals refine tkx 8 ?_
  all_goals(first|refine tqx 9 ?_|refine tkx 9 ?_)
  all_goals(first|refine tqx 10 ?_|refine tkx 10 ?_)
  all_goals(first|refine tqx 11 ?_|refine tkx 11 ?_)
  all_goals(first|((fail_if_success (clear hg3 g3));cases g3)|skip)
  all_goals refine tkx 12 ?_
  all_goals refine tkx 13 ?_
  all_goals(first|refine tqx 14 ?_|refine tkx 14 ?_)
  all_goals(first|refine tqx 15 ?_|refine tkx 15 ?_)
  all_goals(first|refine tqx 16 ?_|refine tkx 16 ?_)
  all_goals(first|((fail_if_success (clear hg4 g4));cases g4)|skip)
  all_goals(first|refine tqx 17 ?_|refine tkx 17 ?_)
  all_goals(first|refine tqx 18 ?_|refine tkx 18 ?_)
  all_goals(first|refine tqx 19 ?_|refine tkx 19 ?_)
  all_goals(first|refine tqx 20 ?_|refine tkx 20 ?_)
  all_goals(first|refine tqx 21 ?_|refine tkx 21 ?_)
  all_goals(first|refine tqx 22 ?_|refine tkx 22 ?_)
  all_goals(first|refine tqx 23 ?_|refine tkx 23 ?_)
  all_goals(first|refine tqx 24 ?_|(refine callH (i:=24) rfl hHeld (fun W hW K hK=>?_);clear hHeld;(try dsimp only at hW);obtain⟨h_p0,h_p1,h_p2,h_p3,h_p4,h_p5,h_s0,h_s1,h_s2,h_s3,h_sR,h_x0,h_x1,h_x2,h_rR,h_hl1,h_t0,h_t1,h_t2,h_t3,h_tR,h_B⟩:=hW;go_simp;refine(HRO.out W (log_bl HL.out h_B)).mono ?_;rintro e w9 ⟨rfl,hb⟩;go_wp2_with fail;refine hK.out _ _ ?_ (fun hHeld=>?_);(focus((try dsimp only);exact⟨bl_cell hb h_p0,bl_cell hb h_p1,bl_cell hb h_p2,bl_cell hb h_p3,bl_cell hb h_p4,bl_cell hb h_p5,bl_cell hb h_s0,bl_cell hb h_s1,bl_cell hb h_s2,bl_cell hb h_s3,res_bl h_sR hb,bl_cell hb h_x0,bl_cell hb h_x1,bl_cell hb h_x2,res_bl h_rR hb,log_bl h_hl1 hb,bl_cell hb h_t0,bl_cell hb h_t1,bl_cell hb h_t2,bl_cell hb h_t3,res_bl h_tR hb,bl_then h_B hb⟩));clear hK K;clear h_p0 h_p1 h_p2 h_p3 h_p4 h_p5 h_s0 h_s1 h_s2 h_s3 h_sR h_x0 h_x1 h_x2 h_rR h_hl1 h_t0 h_t1 h_t2 h_t3 h_tR h_B;try simp only[Act.put,List.setIfInBounds_toArray,List.set_cons_zero,List.set_cons_succ]))
  all_goals(first|refine tqx 25 ?_|refine tkx 25 ?_)
  all_goals(first|((fail_if_success (clear hg5 g5));cases g5)|skip)
  all_goals(first|refine tqx 26 ?_|refine tkx 26 ?_)
  all_goals refine tkx 27 ?_
  all_goals refine tkx 28 ?_
  all_goals(first|refine tqx 29 ?_|refine tkx 29 ?_)
  all_goals(first|refine tqx 30 ?_|refine tkx 30 ?_)
  all_goals(first|refine tqx 31 ?_|refine tkx 31 ?_)
  all_goals(first|((fail_if_success (clear hg6 g6));cases g6)|skip)
  all_goals(first|refine tqx 32 ?_|refine tkx 32 ?_)
  all_goals(first|refine tqx 33 ?_|refine tkx 33 ?_)
  all_goals(first|refine tqx 34 ?_|refine tkx 34 ?_)
  all_goals(first|refine tqx 35 ?_|refine tkx 35 ?_)
  all_goals(first|refine tqx 36 ?_|refine tkx 36 ?_)
  all_goals(first|refine tqx 37 ?_|refine tkx 37 ?_)
  all_goals(first|((fail_if_success (clear hg7 g7));cases g7)|skip)
  all_goals(first|refine tqx 38 ?_|refine tkx 38 ?_)
  all_goals refine tkx 39 ?_
  all_goals(refine wpAnyH_done (by kernel_rfl) ?_ _)
  all_goals(try simp only[decide_eq_true_eq,decide_eq_false_iff_not] at hg1 hg2 hg3 hg4 hg5 hg6 hg7)
  all_goals(refine then_abs (F:=fun w'=>P6 w' (w.heap.size) k l d b cc o (S4 w' (w.heap.size+1) at_ level held a n c (ResB w' (w.heap.size+1)∧X3 w' (w.heap.size+1+1) ak now cost (ResB w' (w.heap.size+1+1+1)∧LogAt w' a1 n1 c1 alg∧S4 w' (w2.heap.size) aat 0 held a1 n1 c1 (ResB w' (w2.heap.size)∧Below w.heap.size w w'))))) hHeld ?_;clear hHeld;rintro wL ⟨p0,p1,p2,p3,p4,p5,s0,s1,s2,s3,sR,x0,x1,x2,rR,hl1,t0,t1,t2,t3,tR,hB⟩)
  all_goals(obtain⟨f0,f1,f2,f3,u0,u1,u2,u3,i0,i1,i2,i3⟩:=res_all rR;have ltR:=res_lt rR)
  all_goals first
    | (exfalso;omega)
    | (have hbad:=HD.out.1 (by omega)
       have HBB:=Go.Lib.hid hbad
       clear hbad
       go_wp2_with go_step3
       (try simp only[Exit.inBlock,Exit.then,Exit.noGoto_ret])
       refine bodyPost_ret (results_state2 rfl _ _ (by rfl) (set4r rR)) rfl ?_
       rw[HBB.out]
       exact sb_same HL.out ⟨rfl,bl4 hB (by omega)⟩)
    | (have ltT:=res_lt tR
       have hk:ak=1∨ak=2∨ak=3∨ak=4:=by omega
       obtain⟨hlm,hl1m,hh0,hh1,hro1⟩:=HBD.out
       obtain⟨hne1,hneT,hs1⟩:=HN.out
       rcases hk with rfl|rfl|rfl|rfl
       · first
           | (exfalso;omega)
           | (have hdn:=Go.Lib.hid (HD.out.2.1 (by rfl) (by omega) (by omega))
              have hlg:=HLG.out (held) (by omega)
              (try dsimp only at hlg)
              have HLH:=Go.Lib.hid hlg
              clear hlg
              clear hg1 hg2 hg3 hg4 hg5 hg6 hg7 hlm hl1m hh0 hh1 hro1
              obtain⟨ft0,ft1,ft2,ft3,ut0,ut1,ut2,ut3,it0,it1,it2,it3⟩:=res_all tR
              go_wp2_with go_step3
              clear ft0 ft1 ft2 ft3 it0 it1 it2 it3
              have hszp:w2.heap.size+1≤wL.heap.size:=by(try simp only[World.size_setCell]);omega
              have hszq:w.heap.size+4≤wL.heap.size:=by(try simp only[World.size_setCell]);omega
              refine(HLH.out a1 n1 c1 _ hl1).mono ?_
              rintro e w61 ⟨⟨v5,m5,rfl,hO5⟩,hb⟩
              have hsz61:wL.heap.size+0≤w61.heap.size:=szl hb
              replace p0:=bl_cell hb p0
              replace p1:=bl_cell hb p1
              replace p2:=bl_cell hb p2
              replace p3:=bl_cell hb p3
              replace p4:=bl_cell hb p4
              replace p5:=bl_cell hb p5
              replace s0:=bl_cell hb s0
              replace s1:=bl_cell hb s1
              replace s2:=bl_cell hb s2
              replace s3:=bl_cell hb s3
              replace sR:=res_bl sR hb
              replace x0:=bl_cell hb x0
              replace x1:=bl_cell hb x1
              replace x2:=bl_cell hb x2
              replace rR:=res_bl rR hb
              replace hl1:=log_bl hl1 hb
              replace t0:=bl_cell hb t0
              replace t1:=bl_cell hb t1
              replace t2:=bl_cell hb t2
              replace t3:=bl_cell hb t3
              replace tR:=res_bl tR hb
              replace hB:Below w.heap.size w w61:=bl_then hB hb
              have lb_p:=lbc p0
              have lb_s:=lbc s0
              have lb_x:=lbc x0
              have lb_t:=lbc t0
              clear hb
              obtain⟨a5,c5,rfl,hl5⟩:=own_log hO5
              have hg5:∀ ad,a5=some ad→wL.heap.size≤ad.block:=fun ad e=>by subst e;exact(World.ownsRow.lt hO5 _ rfl).1
              have hs5:Src a n w a5 m5:=.inr (.inr fun ad e=>by have:=hg5 ad e;omega)
              obtain⟨ft0,ft1,ft2,ft3,ut0,ut1,ut2,ut3,it0,it1,it2,it3⟩:=res_all tR
              obtain⟨f0,f1,f2,f3,u0,u1,u2,u3,i0,i1,i2,i3⟩:=res_all rR
              go_wp2_with go_step3
              (try simp only[Exit.inBlock,Exit.then,Exit.noGoto_ret])
              refine bodyPost_ret (results_state2 rfl _ _ (by rfl) (set4r (res4 rR))) rfl ?_
              rw[hdn.out]
              exact sb_log (log_set4b (log_set4b hl5 (fun ad e hn=>by have:=hg5 ad e;omega)) (fun ad e hn=>by have:=hg5 ad e;omega)) hs5 (bl4 (bl4 hB (by omega)) (by omega)))
       · first
           | (exfalso;omega)
           | (have hdn:=Go.Lib.hid (HD.out.2.2.1 (by rfl) (by omega) (by omega))
              have wa1:IntKind.i64.wrap (held+cost)=held+cost:=IntWalk.i64_in _ (by omega)
              clear hg1 hg2 hg3 hg4 hg5 hg6 hg7 hlm hl1m hh0 hh1 hro1
              obtain⟨ft0,ft1,ft2,ft3,ut0,ut1,ut2,ut3,it0,it1,it2,it3⟩:=res_all tR
              go_wp2_with go_step3
              (try simp only[Exit.inBlock,Exit.then,Exit.noGoto_ret])
              refine bodyPost_ret (results_state2 rfl _ _ (by rfl) (set4r (res_set rR _ _))) rfl ?_
              rw[hdn.out]
              exact sb_log (log_set4b (log_setn hl1 hneT) hne1) hs1 (bl4 (bl_set hB (by dsimp only;omega) _) (by omega)))
       · first
           | (exfalso;omega)
           | (have hdn:=Go.Lib.hid (HD.out.2.2.2.1 (by rfl) (by omega) (by omega))
              have wa1:IntKind.i64.wrap (held - cost)=held - cost:=IntWalk.i64_in _ (by omega)
              clear hg1 hg2 hg3 hg4 hg5 hg6 hg7 hlm hl1m hh0 hh1 hro1
              obtain⟨ft0,ft1,ft2,ft3,ut0,ut1,ut2,ut3,it0,it1,it2,it3⟩:=res_all tR
              go_wp2_with go_step3
              (try simp only[Exit.inBlock,Exit.then,Exit.noGoto_ret])
              refine bodyPost_ret (results_state2 rfl _ _ (by rfl) (set4r (res_set rR _ _))) rfl ?_
              rw[hdn.out]
              exact sb_log (log_set4b (log_setn hl1 hneT) hne1) hs1 (bl4 (bl_set hB (by dsimp only;omega) _) (by omega)))
       · first
           | (exfalso;omega)
           | (have hdn:=Go.Lib.hid (HD.out.2.2.2.2 (by rfl) (by omega) (by omega))
              have wa1:IntKind.i64.wrap (held - cost)=held - cost:=IntWalk.i64_in _ (by omega)
              have hlg:=HLG.out (held - cost) (by omega)
              (try dsimp only at hlg)
              have HLH:=Go.Lib.hid hlg
              clear hlg
              clear hg1 hg2 hg3 hg4 hg5 hg6 hg7 hlm hl1m hh0 hh1 hro1
              obtain⟨ft0,ft1,ft2,ft3,ut0,ut1,ut2,ut3,it0,it1,it2,it3⟩:=res_all tR
              go_wp2_with go_step3
              replace p0:=far_set p0 ⟨w2.heap.size,2,none⟩ (.int .i64 (held - cost)) (by dsimp only;omega)
              replace p1:=far_set p1 ⟨w2.heap.size,2,none⟩ (.int .i64 (held - cost)) (by dsimp only;omega)
              replace p2:=far_set p2 ⟨w2.heap.size,2,none⟩ (.int .i64 (held - cost)) (by dsimp only;omega)
              replace p3:=far_set p3 ⟨w2.heap.size,2,none⟩ (.int .i64 (held - cost)) (by dsimp only;omega)
              replace p4:=far_set p4 ⟨w2.heap.size,2,none⟩ (.int .i64 (held - cost)) (by dsimp only;omega)
              replace p5:=far_set p5 ⟨w2.heap.size,2,none⟩ (.int .i64 (held - cost)) (by dsimp only;omega)
              replace s0:=far_set s0 ⟨w2.heap.size,2,none⟩ (.int .i64 (held - cost)) (by dsimp only;omega)
              replace s1:=far_set s1 ⟨w2.heap.size,2,none⟩ (.int .i64 (held - cost)) (by dsimp only;omega)
              replace s2:=far_set s2 ⟨w2.heap.size,2,none⟩ (.int .i64 (held - cost)) (by dsimp only;omega)
              replace s3:=far_set s3 ⟨w2.heap.size,2,none⟩ (.int .i64 (held - cost)) (by dsimp only;omega)
              replace sR:=res_set sR ⟨w2.heap.size,2,none⟩ (.int .i64 (held - cost))
              replace x0:=far_set x0 ⟨w2.heap.size,2,none⟩ (.int .i64 (held - cost)) (by dsimp only;omega)
              replace x1:=far_set x1 ⟨w2.heap.size,2,none⟩ (.int .i64 (held - cost)) (by dsimp only;omega)
              replace x2:=far_set x2 ⟨w2.heap.size,2,none⟩ (.int .i64 (held - cost)) (by dsimp only;omega)
              replace rR:=res_set rR ⟨w2.heap.size,2,none⟩ (.int .i64 (held - cost))
              replace hl1:=log_setn (g:=⟨w2.heap.size,2,none⟩) (v:=.int .i64 (held - cost)) hl1 hneT
              replace t0:=set_other (a:=⟨w2.heap.size,2,none⟩) t0 (.int .i64 (held - cost)) (by simp)
              replace t1:=set_other (a:=⟨w2.heap.size,2,none⟩) t1 (.int .i64 (held - cost)) (by simp)
              replace t2:=World.cell?_setCell_same' wL ⟨w2.heap.size,2,none⟩ (.int .i64 (held - cost)) (by rw[t2];rfl)
              replace t3:=set_other (a:=⟨w2.heap.size,2,none⟩) t3 (.int .i64 (held - cost)) (by simp)
              replace tR:=res_set tR ⟨w2.heap.size,2,none⟩ (.int .i64 (held - cost))
              replace hB:=bl_set hB (a:=⟨w2.heap.size,2,none⟩) (by dsimp only;omega) (.int .i64 (held - cost))
              clear ft0 ft1 ft2 ft3 it0 it1 it2 it3
              have hszp:w2.heap.size+1≤(wL.setCell ⟨w2.heap.size,2,none⟩ (.int .i64 (held - cost))).heap.size:=by(try simp only[World.size_setCell]);omega
              have hszq:w.heap.size+4≤(wL.setCell ⟨w2.heap.size,2,none⟩ (.int .i64 (held - cost))).heap.size:=by(try simp only[World.size_setCell]);omega
              refine(HLH.out a1 n1 c1 _ hl1).mono ?_
              rintro e w61 ⟨⟨v5,m5,rfl,hO5⟩,hb⟩
              have hsz61:(wL.setCell ⟨w2.heap.size,2,none⟩ (.int .i64 (held - cost))).heap.size+0≤w61.heap.size:=szl hb
              replace p0:=bl_cell hb p0
              replace p1:=bl_cell hb p1
              replace p2:=bl_cell hb p2
              replace p3:=bl_cell hb p3
              replace p4:=bl_cell hb p4
              replace p5:=bl_cell hb p5
              replace s0:=bl_cell hb s0
              replace s1:=bl_cell hb s1
              replace s2:=bl_cell hb s2
              replace s3:=bl_cell hb s3
              replace sR:=res_bl sR hb
              replace x0:=bl_cell hb x0
              replace x1:=bl_cell hb x1
              replace x2:=bl_cell hb x2
              replace rR:=res_bl rR hb
              replace hl1:=log_bl hl1 hb
              replace t0:=bl_cell hb t0
              replace t1:=bl_cell hb t1
              replace t2:=bl_cell hb t2
              replace t3:=bl_cell hb t3
              replace tR:=res_bl tR hb
              replace hB:Below w.heap.size w w61:=bl_then hB hb
              have lb_p:=lbc p0
              have lb_s:=lbc s0
              have lb_x:=lbc x0
              have lb_t:=lbc t0
              clear hb
              obtain⟨a5,c5,rfl,hl5⟩:=own_log hO5
              have hg5:∀ ad,a5=some ad→(wL.setCell ⟨w2.heap.size,2,none⟩ (.int .i64 (held - cost))).heap.size≤ad.block:=fun ad e=>by subst e;exact(World.ownsRow.lt hO5 _ rfl).1
              have hs5:Src a n w a5 m5:=.inr (.inr fun ad e=>by have:=hg5 ad e;omega)
              obtain⟨ft0,ft1,ft2,ft3,ut0,ut1,ut2,ut3,it0,it1,it2,it3⟩:=res_all tR
              obtain⟨f0,f1,f2,f3,u0,u1,u2,u3,i0,i1,i2,i3⟩:=res_all rR
              go_wp2_with go_step3
              (try simp only[Exit.inBlock,Exit.then,Exit.noGoto_ret])
              refine bodyPost_ret (results_state2 rfl _ _ (by rfl) (set4r (res4 rR))) rfl ?_
              rw[hdn.out]
              exact sb_log (log_set4b (log_set4b hl5 (fun ad e hn=>by have:=hg5 ad e;omega)) (fun ad e hn=>by have:=hg5 ad e;omega)) hs5 (bl4 (bl4 hB (by omega)) (by omega))))
theorem r6do_any (p:Pol) (s:St) (a:Option Addr) (n c:Nat) (x:Ac) (w:World) (hl:LogAt w a n c s.log):Calls Tryz.prog 69 #[p.v,s.v a n c,x.v] w (PostSB a n (doL p s x) w):=by
 obtain⟨ak,now,cost⟩:=x
 by_cases h:rightL p s
 ·exact r6do_yes p s a n c ak now cost w hl h
 ·exact r6do_no p s a n c ak now cost w hl h
end Go.Proofs.YtmhikkbdhboodaaGreat
