/-
  What tapsterref06.Right answers.
  What tapsterref06.Advance answers.
  What tapsterref06.used answers.
  What tapsterref06.Room, Until and Retry answer.
  No condition.
-/
import Derived.Test.YtmhikkbdhboodaaGreatZc1
import Derived.Test.YtmhikkbdhboodaaGreatZc2
import Derived.Test.YtmhikkbdhboodaaGreatZc6
import Derived.Test.YtmhikkbdhboodaaGreatZc9
set_option maxHeartbeats 8000000
set_option maxRecDepth 100000
namespace Go.Proofs.YtmhikkbdhboodaaGreat
open Go.RowKit
set_option linter.unusedVariables false
set_option linter.unusedSimpArgs false

theorem r6right_neg (k l d b cc at_ level held:Int) (o:Bool) (L:List (Int × Int)) (a:Option Addr) (n c:Nat) (w:World) (R:Bool) (hok:okL ⟨k,l,d,b,cc,o⟩) (hr:R=true↔0≤at_∧at_≤9007199254740992∧0≤held∧held≤l∧level=0∧risen l at_ 0 L∧(n:Int)≤cc∧held+sumL L≤l) (h0:held<0):Calls Tryz.prog 85 #[Pol.v ⟨k,l,d,b,cc,o⟩,St.v ⟨at_,level,held,L⟩ a n c] w fun e w'=>e=.returned (.bool R)∧Below w.heap.size w w':=by
 have hck:=r6chk ⟨k,l,d,b,cc,o⟩
 rw[show chkL ⟨k,l,d,b,cc,o⟩=0 from if_pos hok] at hck
 unfold St.v Pol.v at *
 dsimp only at *
 obtain⟨q0,q1,q2,q3,q4,q5,q6,q7⟩:=hok
 dsimp only at q0 q1 q2 q3 q4 q5 q6 q7
 clear q0 q7
 have hf:R=false:=by rw[Bool.eq_false_iff];intro h;have:=hr.1 h;omega
 clear hr
 subst hf
 have HCK:=Go.Lib.hid hck
 clear hck
 go_enter Tryz.func85,Tryz.ntmps85
 go_wp2_with fail
 refine(HCK.out _).mono ?_
 rintro e w1 ⟨rfl,hb⟩
 have hx:Below w.heap.size w w1:=bl_then (bl_alloc (bl_alloc (bl_refl _) _) _) hb
 have hsz1:w.heap.size+2≤w1.heap.size:=szl hb
 obtain⟨p0,p1,p2,p3,p4,p5⟩:=b6 (w.heap.size) k l d b cc o hb
 obtain⟨s0,s1,s2,s3⟩:=b4 (w.heap.size+1) at_ level held a n c hb
 have hB:Below w.heap.size w w1:=hx
 have lb_p:=lbc p0
 have lb_s:=lbc s0
 clear hb hx
 go_wp2_with fail
 all_goals
  go_ret
  exact⟨rfl,hB⟩
theorem r6right_much (k l d b cc at_ level held:Int) (o:Bool) (L:List (Int × Int)) (a:Option Addr) (n c:Nat) (w:World) (R:Bool) (hok:okL ⟨k,l,d,b,cc,o⟩) (hr:R=true↔0≤at_∧at_≤9007199254740992∧0≤held∧held≤l∧level=0∧risen l at_ 0 L∧(n:Int)≤cc∧held+sumL L≤l) (h0:¬ held<0) (h1:l<held):Calls Tryz.prog 85 #[Pol.v ⟨k,l,d,b,cc,o⟩,St.v ⟨at_,level,held,L⟩ a n c] w fun e w'=>e=.returned (.bool R)∧Below w.heap.size w w':=by
 have hck:=r6chk ⟨k,l,d,b,cc,o⟩
 rw[show chkL ⟨k,l,d,b,cc,o⟩=0 from if_pos hok] at hck
 unfold St.v Pol.v at *
 dsimp only at *
 obtain⟨q0,q1,q2,q3,q4,q5,q6,q7⟩:=hok
 dsimp only at q0 q1 q2 q3 q4 q5 q6 q7
 clear q0 q7
 have hf:R=false:=by rw[Bool.eq_false_iff];intro h;have:=hr.1 h;omega
 clear hr
 subst hf
 have HCK:=Go.Lib.hid hck
 clear hck
 go_enter Tryz.func85,Tryz.ntmps85
 go_wp2_with fail
 refine(HCK.out _).mono ?_
 rintro e w1 ⟨rfl,hb⟩
 have hx:Below w.heap.size w w1:=bl_then (bl_alloc (bl_alloc (bl_refl _) _) _) hb
 have hsz1:w.heap.size+2≤w1.heap.size:=szl hb
 obtain⟨p0,p1,p2,p3,p4,p5⟩:=b6 (w.heap.size) k l d b cc o hb
 obtain⟨s0,s1,s2,s3⟩:=b4 (w.heap.size+1) at_ level held a n c hb
 have hB:Below w.heap.size w w1:=hx
 have lb_p:=lbc p0
 have lb_s:=lbc s0
 clear hb hx
 go_wp2_with fail
 all_goals
  go_ret
  exact⟨rfl,hB⟩
theorem r6right_early (k l d b cc at_ level held:Int) (o:Bool) (L:List (Int × Int)) (a:Option Addr) (n c:Nat) (w:World) (R:Bool) (hok:okL ⟨k,l,d,b,cc,o⟩) (hr:R=true↔0≤at_∧at_≤9007199254740992∧0≤held∧held≤l∧level=0∧risen l at_ 0 L∧(n:Int)≤cc∧held+sumL L≤l) (h0:¬ held<0) (h1:¬ l<held) (h2:at_<0):Calls Tryz.prog 85 #[Pol.v ⟨k,l,d,b,cc,o⟩,St.v ⟨at_,level,held,L⟩ a n c] w fun e w'=>e=.returned (.bool R)∧Below w.heap.size w w':=by
 have hck:=r6chk ⟨k,l,d,b,cc,o⟩
 rw[show chkL ⟨k,l,d,b,cc,o⟩=0 from if_pos hok] at hck
 unfold St.v Pol.v at *
 dsimp only at *
 obtain⟨q0,q1,q2,q3,q4,q5,q6,q7⟩:=hok
 dsimp only at q0 q1 q2 q3 q4 q5 q6 q7
 clear q0 q7
 have hf:R=false:=by rw[Bool.eq_false_iff];intro h;have:=hr.1 h;omega
 clear hr
 subst hf
 have HCK:=Go.Lib.hid hck
 clear hck
 go_enter Tryz.func85,Tryz.ntmps85
 go_wp2_with fail
 refine(HCK.out _).mono ?_
 rintro e w1 ⟨rfl,hb⟩
 have hx:Below w.heap.size w w1:=bl_then (bl_alloc (bl_alloc (bl_refl _) _) _) hb
 have hsz1:w.heap.size+2≤w1.heap.size:=szl hb
 obtain⟨p0,p1,p2,p3,p4,p5⟩:=b6 (w.heap.size) k l d b cc o hb
 obtain⟨s0,s1,s2,s3⟩:=b4 (w.heap.size+1) at_ level held a n c hb
 have hB:Below w.heap.size w w1:=hx
 have lb_p:=lbc p0
 have lb_s:=lbc s0
 clear hb hx
 go_wp2_with fail
 all_goals
  go_ret
  exact⟨rfl,hB⟩
theorem r6right_late (k l d b cc at_ level held:Int) (o:Bool) (L:List (Int × Int)) (a:Option Addr) (n c:Nat) (w:World) (R:Bool) (hok:okL ⟨k,l,d,b,cc,o⟩) (hr:R=true↔0≤at_∧at_≤9007199254740992∧0≤held∧held≤l∧level=0∧risen l at_ 0 L∧(n:Int)≤cc∧held+sumL L≤l) (h0:¬ held<0) (h1:¬ l<held) (h2:¬ at_<0) (h3:9007199254740992<at_):Calls Tryz.prog 85 #[Pol.v ⟨k,l,d,b,cc,o⟩,St.v ⟨at_,level,held,L⟩ a n c] w fun e w'=>e=.returned (.bool R)∧Below w.heap.size w w':=by
 have hck:=r6chk ⟨k,l,d,b,cc,o⟩
 rw[show chkL ⟨k,l,d,b,cc,o⟩=0 from if_pos hok] at hck
 unfold St.v Pol.v at *
 dsimp only at *
 obtain⟨q0,q1,q2,q3,q4,q5,q6,q7⟩:=hok
 dsimp only at q0 q1 q2 q3 q4 q5 q6 q7
 clear q0 q7
 have hf:R=false:=by rw[Bool.eq_false_iff];intro h;have:=hr.1 h;omega
 clear hr
 subst hf
 have HCK:=Go.Lib.hid hck
 clear hck
 go_enter Tryz.func85,Tryz.ntmps85
 go_wp2_with fail
 refine(HCK.out _).mono ?_
 rintro e w1 ⟨rfl,hb⟩
 have hx:Below w.heap.size w w1:=bl_then (bl_alloc (bl_alloc (bl_refl _) _) _) hb
 have hsz1:w.heap.size+2≤w1.heap.size:=szl hb
 obtain⟨p0,p1,p2,p3,p4,p5⟩:=b6 (w.heap.size) k l d b cc o hb
 obtain⟨s0,s1,s2,s3⟩:=b4 (w.heap.size+1) at_ level held a n c hb
 have hB:Below w.heap.size w w1:=hx
 have lb_p:=lbc p0
 have lb_s:=lbc s0
 clear hb hx
 go_wp2_with fail
 all_goals
  go_ret
  exact⟨rfl,hB⟩
theorem r6right_lev (k l d b cc at_ level held:Int) (o:Bool) (L:List (Int × Int)) (a:Option Addr) (n c:Nat) (w:World) (R:Bool) (hok:okL ⟨k,l,d,b,cc,o⟩) (hr:R=true↔0≤at_∧at_≤9007199254740992∧0≤held∧held≤l∧level=0∧risen l at_ 0 L∧(n:Int)≤cc∧held+sumL L≤l) (h0:¬ held<0) (h1:¬ l<held) (h2:¬ at_<0) (h3:¬ 9007199254740992<at_) (h4:¬ level=0):Calls Tryz.prog 85 #[Pol.v ⟨k,l,d,b,cc,o⟩,St.v ⟨at_,level,held,L⟩ a n c] w fun e w'=>e=.returned (.bool R)∧Below w.heap.size w w':=by
 have hck:=r6chk ⟨k,l,d,b,cc,o⟩
 rw[show chkL ⟨k,l,d,b,cc,o⟩=0 from if_pos hok] at hck
 unfold St.v Pol.v at *
 dsimp only at *
 obtain⟨q0,q1,q2,q3,q4,q5,q6,q7⟩:=hok
 dsimp only at q0 q1 q2 q3 q4 q5 q6 q7
 clear q0 q7
 have hf:R=false:=by rw[Bool.eq_false_iff];intro h;have:=hr.1 h;omega
 clear hr
 subst hf
 have HCK:=Go.Lib.hid hck
 clear hck
 go_enter Tryz.func85,Tryz.ntmps85
 go_wp2_with fail
 refine(HCK.out _).mono ?_
 rintro e w1 ⟨rfl,hb⟩
 have hx:Below w.heap.size w w1:=bl_then (bl_alloc (bl_alloc (bl_refl _) _) _) hb
 have hsz1:w.heap.size+2≤w1.heap.size:=szl hb
 obtain⟨p0,p1,p2,p3,p4,p5⟩:=b6 (w.heap.size) k l d b cc o hb
 obtain⟨s0,s1,s2,s3⟩:=b4 (w.heap.size+1) at_ level held a n c hb
 have hB:Below w.heap.size w w1:=hx
 have lb_p:=lbc p0
 have lb_s:=lbc s0
 clear hb hx
 go_wp2_with fail
 all_goals
  go_ret
  exact⟨rfl,hB⟩
theorem r6right_long (k l d b cc at_ level held:Int) (o:Bool) (L:List (Int × Int)) (a:Option Addr) (n c:Nat) (w:World) (R:Bool) (hok:okL ⟨k,l,d,b,cc,o⟩) (hr:R=true↔0≤at_∧at_≤9007199254740992∧0≤held∧held≤l∧level=0∧risen l at_ 0 L∧(n:Int)≤cc∧held+sumL L≤l) (h0:¬ held<0) (h1:¬ l<held) (h2:¬ at_<0) (h3:¬ 9007199254740992<at_) (h4:¬ ¬ level=0) (h5:cc<(n:Int)):Calls Tryz.prog 85 #[Pol.v ⟨k,l,d,b,cc,o⟩,St.v ⟨at_,level,held,L⟩ a n c] w fun e w'=>e=.returned (.bool R)∧Below w.heap.size w w':=by
 have hck:=r6chk ⟨k,l,d,b,cc,o⟩
 rw[show chkL ⟨k,l,d,b,cc,o⟩=0 from if_pos hok] at hck
 unfold St.v Pol.v at *
 dsimp only at *
 obtain⟨q0,q1,q2,q3,q4,q5,q6,q7⟩:=hok
 dsimp only at q0 q1 q2 q3 q4 q5 q6 q7
 clear q0 q7
 have hf:R=false:=by rw[Bool.eq_false_iff];intro h;have:=hr.1 h;omega
 clear hr
 subst hf
 have HCK:=Go.Lib.hid hck
 clear hck
 go_enter Tryz.func85,Tryz.ntmps85
 go_wp2_with fail
 refine(HCK.out _).mono ?_
 rintro e w1 ⟨rfl,hb⟩
 have hx:Below w.heap.size w w1:=bl_then (bl_alloc (bl_alloc (bl_refl _) _) _) hb
 have hsz1:w.heap.size+2≤w1.heap.size:=szl hb
 obtain⟨p0,p1,p2,p3,p4,p5⟩:=b6 (w.heap.size) k l d b cc o hb
 obtain⟨s0,s1,s2,s3⟩:=b4 (w.heap.size+1) at_ level held a n c hb
 have hB:Below w.heap.size w w1:=hx
 have lb_p:=lbc p0
 have lb_s:=lbc s0
 clear hb hx
 go_wp2_with fail
 all_goals
  go_ret
  exact⟨rfl,hB⟩
theorem r6right_main (k l d b cc at_ level held:Int) (o:Bool) (L:List (Int × Int)) (a:Option Addr) (n c:Nat) (w:World) (hl:LogAt w a n c L) (R:Bool) (hok:okL ⟨k,l,d,b,cc,o⟩) (hr:R=true↔0≤at_∧at_≤9007199254740992∧0≤held∧held≤l∧level=0∧risen l at_ 0 L∧(n:Int)≤cc∧held+sumL L≤l) (h0:¬ held<0) (h1:¬ l<held) (h2:¬ at_<0) (h3:¬ 9007199254740992<at_) (h4:¬ ¬ level=0) (h5:¬ cc<(n:Int)):Calls Tryz.prog 85 #[Pol.v ⟨k,l,d,b,cc,o⟩,St.v ⟨at_,level,held,L⟩ a n c] w fun e w'=>e=.returned (.bool R)∧Below w.heap.size w w':=by
  have hck:=r6chk ⟨k,l,d,b,cc,o⟩
  rw[show chkL ⟨k,l,d,b,cc,o⟩=0 from if_pos hok] at hck
  unfold St.v Pol.v at *
  dsimp only at *
  obtain⟨q0,q1,q2,q3,q4,q5,q6,q7⟩:=hok
  dsimp only at q0 q1 q2 q3 q4 q5 q6 q7
  clear q0 q7
  have hs:∀ j,j<n→∃ T C,(L.getD j (0,0)).1=T∧(L.getD j (0,0)).2=C∧L.drop j=(T,C) :: L.drop (j+1)∧sumL (L.take (j+1))=sumL (L.take j)+C:=fun j hj=>by
    have hj':j<L.length:=by have:=hl.1;omega
    exact⟨_,_,rfl,rfl,drop_getD L j hj',sumL_take L j hj'⟩
  have he:L.drop n=[]∧L.take n=L:=⟨List.drop_eq_nil_of_le (by rw[hl.1];exact Nat.le_refl _),by rw[← hl.1,List.take_length]⟩
  have hn100:n≤100:=by omega
  have HS:=Go.Lib.hid hs
  have HE:=Go.Lib.hid he
  have HL:=Go.Lib.hid hl
  have HR:=Go.Lib.hid hr
  have HCK:=Go.Lib.hid hck
  clear hs he hl hr hck
  go_enter Tryz.func85,Tryz.ntmps85
  go_wp2_with fail
  refine(HCK.out _).mono ?_
  rintro e w1 ⟨rfl,hb⟩
  have hx:Below w.heap.size w w1:=bl_then (bl_alloc (bl_alloc (bl_refl _) _) _) hb
  have hsz1:w.heap.size+2≤w1.heap.size:=szl hb
  obtain⟨p0,p1,p2,p3,p4,p5⟩:=b6 (w.heap.size) k l d b cc o hb
  obtain⟨s0,s1,s2,s3⟩:=b4 (w.heap.size+1) at_ level held a n c hb
  have hB:Below w.heap.size w w1:=hx
  have lb_p:=lbc p0
  have lb_s:=lbc s0
  clear hb hx
  go_wp2_with fail
  go_loopw [5,6] (fun s5 s6 wr=>∃ (j:Nat) (x:Int),s6=.int .i64 j∧j≤n∧s5=.int .i64 (held+sumL (L.take j))∧Hid (0≤x∧(j=0→x=0)∧(0<j→x=(L.getD (j - 1) (0,0)).1)∧0≤sumL (L.take j)∧sumL (L.take j)≤j*1048576∧(risen l at_ 0 L↔risen l at_ x (L.drop j)))∧Hid ((fun w'=>P6 w' (w.heap.size) k l d b cc o (S4 w' (w.heap.size+1) at_ level held a n c (Below w.heap.size w w'))) wr)) (fun _ s6 _=>n - (intOf s6).toNat)
  case atStart=>exact⟨0,0,rfl,Nat.zero_le _,by simp[sumL],⟨Int.le_refl _,fun _=>rfl,fun h=>absurd h (Nat.lt_irrefl _),by simp[sumL],by simp[sumL],by simp⟩,⟨p0,p1,p2,p3,p4,p5,s0,s1,s2,s3,hB⟩⟩
  case round =>
    obtain⟨j,x,rfl,hj,rfl,HI,H⟩:=hrel
    replace H:=H.out
    clear hB p0 p1 p2 p3 p4 p5 s0 s1 s2 s3
    obtain⟨p0,p1,p2,p3,p4,p5,s0,s1,s2,s3,hB⟩:=H
    replace lb_p:=lbc p0
    replace lb_s:=lbc s0
    obtain⟨i0,i1,i2,i3,i4,i5⟩:=HI.out
    clear HI
    by_cases hjn:j<n
    · obtain ⟨T,C,hT,hC,hdr,hsu⟩:=HS.out j hjn
      obtain⟨eb,eo,rfl,x0,x1⟩:=HL.out.2.2.2 j hjn
      have e0:=bl_cell hB x0
      have e1:=bl_cell hB x1
      clear x0 x1
      rw[hT] at e0
      rw[hC] at e1
      rw[hdr,risen_cons] at i5
      dsimp only at i5
      have hR:=HR.out
      have HBAD:=Go.Lib.hid (show ¬ (x≤T∧T≤at_∧1≤C∧C≤l)→R=false from fun z=>by rw[Bool.eq_false_iff];intro hh;have h1:=i5.1 (hR.1 hh).2.2.2.2.2.1;exact z ⟨h1.1,h1.2.1,h1.2.2.1,h1.2.2.2.1⟩)
      have HGOOD:=Go.Lib.hid (show(x≤T∧T≤at_∧1≤C∧C≤l)→(0≤T∧(j+1=0→T=0)∧(0<j+1→T=(L.getD (j+1 - 1) (0,0)).1)∧0≤sumL (L.take (j+1))∧sumL (L.take (j+1))≤((j+1:Nat):Int)*1048576∧(risen l at_ 0 L↔risen l at_ T (L.drop (j+1)))) from fun z=>by
        refine⟨by omega,fun h=>by omega,fun _=>hT.symm,by omega,by omega,?_⟩
        rw[i5]
        exact⟨fun h=>h.2.2.2.2,fun h=>⟨z.1,z.2.1,z.2.2.1,z.2.2.2,h⟩⟩)
      have HSU:=Go.Lib.hid hsu
      generalize hSJ:sumL (L.take j)=SJ at *
      clear hR i5 hdr hsu hT hC
      have k0:(0:Int)≤(j:Int):=by omega
      have k1:(j:Int)<(n:Int):=by omega
      have hj1:j+1≤n:=hjn
      have hms:n - (j+1)<n - j:=by omega
      have wj:IntKind.i64.wrap ((j:Int)+1)=(j:Int)+1:=IntWalk.i64_in _ (by omega)
      have HWS:=Go.Lib.hid (show 1≤C∧C≤l→IntKind.i64.wrap (held+SJ+C)=held+SJ+C from fun z=>IntWalk.i64_in _ (by omega))
      obtain⟨g1,hg1⟩:∃ g,decide (T<0)=g:=⟨_,rfl⟩
      obtain⟨g2,hg2⟩:∃ g,decide (at_<T)=g:=⟨_,rfl⟩
      obtain⟨g3,hg3⟩:∃ g,decide (C<1)=g:=⟨_,rfl⟩
      obtain⟨g4,hg4⟩:∃ g,decide (l<C)=g:=⟨_,rfl⟩
      by_cases hj0:0<j
      · have hx:=i2 hj0
        obtain⟨eb',eo',hee,x0,-⟩:=HL.out.2.2.2 (j - 1) (by omega)
        injection hee with hee
        injection hee with h1 h2
        subst h1 h2
        have e2:=bl_cell hB x0
        rw[← hx] at e2
        clear x0 hx i2
        have hd5:decide (0<(j:Int))=true:=decide_eq_true (by omega)
        have wj1:IntKind.i64.wrap ((j:Int) - 1)=(j:Int) - 1:=IntWalk.i64_in _ (by omega)
        have hi0:0≤(j:Int) - 1:=by omega
        have hi0':1≤(j:Int):=by omega
        have hi1:(j:Int) - 1<(n:Int):=by omega
        have htn:((j:Int) - 1).toNat=j - 1:=by omega
        obtain⟨g6,hg6⟩:∃ g,decide (T<x)=g:=⟨_,rfl⟩
        have HX:=Go.Lib.hid (show x≤T↔¬ T<x by omega)
        have HXX:=Go.Lib.hid (show ¬ T<x→x≤T by omega)
        have HI0:=Go.Lib.hid i0
        clear i0 i1 i3 i4
        go_wp2_with fail
        skip
        refine wp_abs (S0:=fun X=>(fun w'=>P6 w' (w.heap.size) k l d b cc o (S4 w' (w.heap.size+1) at_ level held (some ⟨eb,eo,none⟩) n c (w'.cell? ⟨eb,eo+j*2,none⟩=some (.int .i64 T)∧w'.cell? ⟨eb,eo+j*2+1,none⟩=some (.int .i64 C)∧w'.cell? ⟨eb,eo+(j - 1)*2,none⟩=some (.int .i64 x)∧w'.cell? ⟨wr.heap.size,0,none⟩=some (.int .i64 T)∧w'.cell? ⟨wr.heap.size,1,none⟩=some (.int .i64 C)∧Below w.heap.size w w'))) X∧wr.heap.size+1≤X.heap.size) ⟨⟨bl_cell (bl_alloc (bl_refl _) _) p0,bl_cell (bl_alloc (bl_refl _) _) p1,bl_cell (bl_alloc (bl_refl _) _) p2,bl_cell (bl_alloc (bl_refl _) _) p3,bl_cell (bl_alloc (bl_refl _) _) p4,bl_cell (bl_alloc (bl_refl _) _) p5,bl_cell (bl_alloc (bl_refl _) _) s0,bl_cell (bl_alloc (bl_refl _) _) s1,bl_cell (bl_alloc (bl_refl _) _) s2,bl_cell (bl_alloc (bl_refl _) _) s3,bl_cell (bl_alloc (bl_refl _) _) e0,bl_cell (bl_alloc (bl_refl _) _) e1,bl_cell (bl_alloc (bl_refl _) _) e2,by go_simp,by go_simp,bl_alloc (hB) _⟩,by simp⟩ ?_
        clear p0 p1 p2 p3 p4 p5 s0 s1 s2 s3 e0 e1 e2 hB
        rintro w21 ⟨⟨p0,p1,p2,p3,p4,p5,s0,s1,s2,s3,e0,e1,e2,v0,v1,hB⟩,hsz21⟩
        replace lb_p:=lbc p0
        replace lb_s:=lbc s0
        have lb_e:=lbc e0
        have lb_v:=lbc v0
        refine wp_region_held_drew (S:=fun w'=>P6 w' (w.heap.size) k l d b cc o (S4 w' (w.heap.size+1) at_ level held (some ⟨eb,eo,none⟩) n c (w'.cell? ⟨eb,eo+j*2,none⟩=some (.int .i64 T)∧w'.cell? ⟨eb,eo+j*2+1,none⟩=some (.int .i64 C)∧w'.cell? ⟨eb,eo+(j - 1)*2,none⟩=some (.int .i64 x)∧w'.cell? ⟨wr.heap.size,0,none⟩=some (.int .i64 T)∧w'.cell? ⟨wr.heap.size,1,none⟩=some (.int .i64 C)∧Below w.heap.size w w'))) (by kernel_rfl) ?_ (fun hHeld=>?_)
        · exact⟨p0,p1,p2,p3,p4,p5,s0,s1,s2,s3,e0,e1,e2,v0,v1,bl_drew hB⟩
        try simp only[Act.put,List.setIfInBounds_toArray,List.set_cons_zero,List.set_cons_succ]
        all_goals refine tkx 0 ?_
        all_goals refine tkx 1 ?_
        all_goals refine tkx 2 ?_
        all_goals(first|((fail_if_success (clear hg1 g1));cases g1)|skip)
        all_goals refine tkx 3 ?_
        all_goals(first|(refine tqx 4 ?_)|(refine tkx 4 ?_))
        all_goals(first|(refine tqx 5 ?_)|(refine tkx 5 ?_))
        all_goals(first|(refine tqx 6 ?_)|(refine tkx 6 ?_))
        all_goals(first|(refine tqx 7 ?_)|(refine tkx 7 ?_))
        all_goals(first|(refine tqx 8 ?_)|(refine tkx 8 ?_))
        all_goals(first|((fail_if_success (clear hg2 g2));cases g2)|skip)
        all_goals refine tkx 9 ?_
        all_goals refine tkx 10 ?_
        all_goals(first|(refine tqx 11 ?_)|(refine tkx 11 ?_))
        all_goals(first|(refine tqx 12 ?_)|(refine tkx 12 ?_))
        all_goals(first|(refine tqx 13 ?_)|(refine tkx 13 ?_))
        all_goals(first|((fail_if_success (clear hg3 g3));cases g3)|skip)
        all_goals refine tkx 14 ?_
        all_goals refine tkx 15 ?_
        all_goals(first|(refine tqx 16 ?_)|(refine tkx 16 ?_))
        all_goals(first|(refine tqx 17 ?_)|(refine tkx 17 ?_))
        all_goals(first|(refine tqx 18 ?_)|(refine tkx 18 ?_))
        all_goals(first|(refine tqx 19 ?_)|(refine tkx 19 ?_))
        all_goals(first|(refine tqx 20 ?_)|(refine tkx 20 ?_))
        all_goals(first|((fail_if_success (clear hg4 g4));cases g4)|skip)
        all_goals refine tkx 21 ?_
        all_goals refine tkx 22 ?_
        all_goals(first|(refine tqx 23 ?_)|(refine tkx 23 ?_))
        all_goals(first|(refine tqx 24 ?_)|(refine tkx 24 ?_))
        all_goals(first|(refine tqx 25 ?_)|(refine tkx 25 ?_))
        all_goals(first|(refine tqx 26 ?_)|(refine tkx 26 ?_))
        all_goals(first|(refine tqx 27 ?_)|(refine tkx 27 ?_))
        all_goals(first|(refine tqx 28 ?_)|(refine tkx 28 ?_))
        all_goals(first|(refine tqx 29 ?_)|(refine tkx 29 ?_))
        all_goals(first|(refine tqx 30 ?_)|(refine tkx 30 ?_))
        all_goals(first|(refine tqx 31 ?_)|(refine tkx 31 ?_))
        all_goals(first|(refine tqx 32 ?_)|(refine tkx 32 ?_))
        all_goals(first|(refine tqx 33 ?_)|(refine tkx 33 ?_))
        all_goals(first|(refine tqx 34 ?_)|(refine tkx 34 ?_))
        all_goals(first|(refine tqx 35 ?_)|(refine tkx 35 ?_))
        all_goals(first|((fail_if_success (clear hg6 g6));cases g6)|skip)
        all_goals(first|(refine tqx 36 ?_)|(refine tkx 36 ?_))
        all_goals refine tkx 37 ?_
        all_goals(refine wpAnyH_done (by kernel_rfl) ?_ _)
        all_goals(try simp only[decide_eq_true_eq,decide_eq_false_iff_not] at hg1 hg2 hg3 hg4 hg6)
        all_goals(obtain⟨h_p0,h_p1,h_p2,h_p3,h_p4,h_p5,h_s0,h_s1,h_s2,h_s3,h_e0,h_e1,h_e2,h_v0,h_v1,h_B⟩:=(id hHeld);clear hHeld)
        all_goals first
          | (have HB2:=Go.Lib.hid (HBAD.out (by have:=HI0.out;omega));go_wp2_with fail;go_ret;exact⟨by have hz:=HB2.out;subst hz;rfl,h_B⟩)
          | (have hC1:1≤C∧C≤l:=by omega
             have hws:=HWS.out hC1
             have hgd:=HGOOD.out ⟨HXX.out (by omega),by omega,hC1.1,hC1.2⟩
             have HGD:=Go.Lib.hid hgd
             clear hgd
             go_wp2_with fail
             go_roundw
             case rel=>exact⟨j+1,T,by go_num,hj1,by rw[HSU.out];go_num,HGD,⟨h_p0,h_p1,h_p2,h_p3,h_p4,h_p5,h_s0,h_s1,h_s2,h_s3,h_B⟩⟩
             case measure=>(simp[intOf];first|exact hms|omega))
      · have hx0:=i1 (by omega)
        have hd5:decide (0<(j:Int))=false:=decide_eq_false (by omega)
        have HXX:=Go.Lib.hid (show ¬ T<0→x≤T by omega)
        have HX0:=Go.Lib.hid hx0
        clear i2 hx0
        have HI0:=Go.Lib.hid i0
        clear i0 i1 i3 i4
        go_wp2_with fail
        skip
        refine wp_abs (S0:=fun X=>(fun w'=>P6 w' (w.heap.size) k l d b cc o (S4 w' (w.heap.size+1) at_ level held (some ⟨eb,eo,none⟩) n c (w'.cell? ⟨eb,eo+j*2,none⟩=some (.int .i64 T)∧w'.cell? ⟨eb,eo+j*2+1,none⟩=some (.int .i64 C)∧w'.cell? ⟨wr.heap.size,0,none⟩=some (.int .i64 T)∧w'.cell? ⟨wr.heap.size,1,none⟩=some (.int .i64 C)∧Below w.heap.size w w'))) X∧wr.heap.size+1≤X.heap.size) ⟨⟨bl_cell (bl_alloc (bl_refl _) _) p0,bl_cell (bl_alloc (bl_refl _) _) p1,bl_cell (bl_alloc (bl_refl _) _) p2,bl_cell (bl_alloc (bl_refl _) _) p3,bl_cell (bl_alloc (bl_refl _) _) p4,bl_cell (bl_alloc (bl_refl _) _) p5,bl_cell (bl_alloc (bl_refl _) _) s0,bl_cell (bl_alloc (bl_refl _) _) s1,bl_cell (bl_alloc (bl_refl _) _) s2,bl_cell (bl_alloc (bl_refl _) _) s3,bl_cell (bl_alloc (bl_refl _) _) e0,bl_cell (bl_alloc (bl_refl _) _) e1,by go_simp,by go_simp,bl_alloc (hB) _⟩,by simp⟩ ?_
        clear p0 p1 p2 p3 p4 p5 s0 s1 s2 s3 e0 e1 hB
        rintro w21 ⟨⟨p0,p1,p2,p3,p4,p5,s0,s1,s2,s3,e0,e1,v0,v1,hB⟩,hsz21⟩
        replace lb_p:=lbc p0
        replace lb_s:=lbc s0
        have lb_e:=lbc e0
        have lb_v:=lbc v0
        refine wp_region_held_drew (S:=fun w'=>P6 w' (w.heap.size) k l d b cc o (S4 w' (w.heap.size+1) at_ level held (some ⟨eb,eo,none⟩) n c (w'.cell? ⟨eb,eo+j*2,none⟩=some (.int .i64 T)∧w'.cell? ⟨eb,eo+j*2+1,none⟩=some (.int .i64 C)∧w'.cell? ⟨wr.heap.size,0,none⟩=some (.int .i64 T)∧w'.cell? ⟨wr.heap.size,1,none⟩=some (.int .i64 C)∧Below w.heap.size w w'))) (by kernel_rfl) ?_ (fun hHeld=>?_)
        · exact⟨p0,p1,p2,p3,p4,p5,s0,s1,s2,s3,e0,e1,v0,v1,bl_drew hB⟩
        try simp only[Act.put,List.setIfInBounds_toArray,List.set_cons_zero,List.set_cons_succ]
        all_goals refine tkx 0 ?_
        all_goals refine tkx 1 ?_
        all_goals refine tkx 2 ?_
        all_goals(first|((fail_if_success (clear hg1 g1));cases g1)|skip)
        all_goals refine tkx 3 ?_
        all_goals(first|(refine tqx 4 ?_)|(refine tkx 4 ?_))
        all_goals(first|(refine tqx 5 ?_)|(refine tkx 5 ?_))
        all_goals(first|(refine tqx 6 ?_)|(refine tkx 6 ?_))
        all_goals(first|(refine tqx 7 ?_)|(refine tkx 7 ?_))
        all_goals(first|(refine tqx 8 ?_)|(refine tkx 8 ?_))
        all_goals(first|((fail_if_success (clear hg2 g2));cases g2)|skip)
        all_goals refine tkx 9 ?_
        all_goals refine tkx 10 ?_
        all_goals(first|(refine tqx 11 ?_)|(refine tkx 11 ?_))
        all_goals(first|(refine tqx 12 ?_)|(refine tkx 12 ?_))
        all_goals(first|(refine tqx 13 ?_)|(refine tkx 13 ?_))
        all_goals(first|((fail_if_success (clear hg3 g3));cases g3)|skip)
        all_goals refine tkx 14 ?_
        all_goals refine tkx 15 ?_
        all_goals(first|(refine tqx 16 ?_)|(refine tkx 16 ?_))
        all_goals(first|(refine tqx 17 ?_)|(refine tkx 17 ?_))
        all_goals(first|(refine tqx 18 ?_)|(refine tkx 18 ?_))
        all_goals(first|(refine tqx 19 ?_)|(refine tkx 19 ?_))
        all_goals(first|(refine tqx 20 ?_)|(refine tkx 20 ?_))
        all_goals(first|((fail_if_success (clear hg4 g4));cases g4)|skip)
        all_goals refine tkx 21 ?_
        all_goals refine tkx 22 ?_
        all_goals(first|(refine tqx 23 ?_)|(refine tkx 23 ?_))
        all_goals(first|(refine tqx 24 ?_)|(refine tkx 24 ?_))
        all_goals(first|(refine tqx 25 ?_)|(refine tkx 25 ?_))
        all_goals(first|(refine tqx 26 ?_)|(refine tkx 26 ?_))
        all_goals(first|(refine tqx 27 ?_)|(refine tkx 27 ?_))
        all_goals(first|(refine tqx 28 ?_)|(refine tkx 28 ?_))
        all_goals(first|(refine tqx 29 ?_)|(refine tkx 29 ?_))
        all_goals(first|(refine tqx 30 ?_)|(refine tkx 30 ?_))
        all_goals(first|(refine tqx 31 ?_)|(refine tkx 31 ?_))
        all_goals(first|(refine tqx 32 ?_)|(refine tkx 32 ?_))
        all_goals(first|(refine tqx 33 ?_)|(refine tkx 33 ?_))
        all_goals(first|(refine tqx 34 ?_)|(refine tkx 34 ?_))
        all_goals(first|(refine tqx 35 ?_)|(refine tkx 35 ?_))
        all_goals(first|(refine tqx 36 ?_)|(refine tkx 36 ?_))
        all_goals refine tkx 37 ?_
        all_goals(refine wpAnyH_done (by kernel_rfl) ?_ _)
        all_goals(try simp only[decide_eq_true_eq,decide_eq_false_iff_not] at hg1 hg2 hg3 hg4)
        all_goals(obtain⟨h_p0,h_p1,h_p2,h_p3,h_p4,h_p5,h_s0,h_s1,h_s2,h_s3,h_e0,h_e1,h_v0,h_v1,h_B⟩:=(id hHeld);clear hHeld)
        all_goals first
          | (have HB2:=Go.Lib.hid (HBAD.out (by have:=HI0.out;omega));go_wp2_with fail;go_ret;exact⟨by have hz:=HB2.out;subst hz;rfl,h_B⟩)
          | (have hC1:1≤C∧C≤l:=by omega
             have hws:=HWS.out hC1
             have hgd:=HGOOD.out ⟨HXX.out (by omega),by omega,hC1.1,hC1.2⟩
             have HGD:=Go.Lib.hid hgd
             clear hgd
             go_wp2_with fail
             go_roundw
             case rel=>exact⟨j+1,T,by go_num,hj1,by rw[HSU.out];go_num,HGD,⟨h_p0,h_p1,h_p2,h_p3,h_p4,h_p5,h_s0,h_s1,h_s2,h_s3,h_B⟩⟩
             case measure=>(simp[intOf];first|exact hms|omega))
    · have hje:n=j:=by omega
      subst hje
      rw[HE.out.1] at i5
      have h7:risen l at_ 0 L:=i5.2 trivial
      rw[HE.out.2] at *
      have hR:=HR.out
      have hfin:R=decide (held+sumL L≤l):=by rw[Bool.eq_iff_iff,hR,decide_eq_true_eq];exact⟨fun z=>z.2.2.2.2.2.2.2,fun z=>⟨by omega,by omega,by omega,by omega,by omega,h7,by omega,z⟩⟩
      have HF:=Go.Lib.hid hfin
      clear hfin hR h7 i5
      generalize sumL L=SL at *
      go_wp2_with fail
      go_ret
      exact⟨by have hz:=HF.out;subst hz;rfl,hB⟩
theorem r6right_any (p:Pol) (s:St) (a:Option Addr) (n c:Nat) (w:World) (hl:LogAt w a n c s.log):Calls Tryz.prog 85 #[p.v,s.v a n c] w fun e w'=>e=.returned (.bool (decide (rightL p s)))∧Below w.heap.size w w':=by
 obtain⟨k,l,d,b,cc,o⟩:=p
 obtain⟨at_,level,held,L⟩:=s
 have hn:=hl.1
 dsimp only at hn
 by_cases hok:okL ⟨k,l,d,b,cc,o⟩
 ·have hr:decide (rightL ⟨k,l,d,b,cc,o⟩ ⟨at_,level,held,L⟩)=true↔0≤at_∧at_≤9007199254740992∧0≤held∧held≤l∧level=0∧risen l at_ 0 L∧(n:Int)≤cc∧held+sumL L≤l:=by
   rw[decide_eq_true_eq]
   unfold rightL
   simp only[eq_true hok,true_and,← List.length_eq_zero_iff,hn]
   try omega
  generalize decide (rightL ⟨k,l,d,b,cc,o⟩ ⟨at_,level,held,L⟩)=R at *
  by_cases h0:held<0
  ·exact r6right_neg k l d b cc at_ level held o L a n c w R hok hr h0
  by_cases h1:l<held
  ·exact r6right_much k l d b cc at_ level held o L a n c w R hok hr h0 h1
  by_cases h2:at_<0
  ·exact r6right_early k l d b cc at_ level held o L a n c w R hok hr h0 h1 h2
  by_cases h3:9007199254740992<at_
  ·exact r6right_late k l d b cc at_ level held o L a n c w R hok hr h0 h1 h2 h3
  by_cases h4:¬ level=0
  ·exact r6right_lev k l d b cc at_ level held o L a n c w R hok hr h0 h1 h2 h3 h4
  by_cases h5:cc<(n:Int)
  ·exact r6right_long k l d b cc at_ level held o L a n c w R hok hr h0 h1 h2 h3 h4 h5
  exact r6right_main k l d b cc at_ level held o L a n c w hl R hok hr h0 h1 h2 h3 h4 h5
 ·rw[decide_eq_false (fun z=>hok z.1)]
  have hck:=r6chk ⟨k,l,d,b,cc,o⟩
  rw[show chkL ⟨k,l,d,b,cc,o⟩=2 from if_neg hok] at hck
  clear hok
  unfold St.v Pol.v at *
  dsimp only at *
  have HCK:=Go.Lib.hid hck
  clear hck
  go_enter Tryz.func85,Tryz.ntmps85
  go_wp2_with fail
  refine(HCK.out _).mono ?_
  rintro e w1 ⟨rfl,hb⟩
  have hx:Below w.heap.size w w1:=bl_then (bl_alloc (bl_alloc (bl_refl _) _) _) hb
  have hsz1:w.heap.size+2≤w1.heap.size:=szl hb
  obtain⟨p0,p1,p2,p3,p4,p5⟩:=b6 (w.heap.size) k l d b cc o hb
  obtain⟨s0,s1,s2,s3⟩:=b4 (w.heap.size+1) at_ level held a n c hb
  have hB:Below w.heap.size w w1:=hx
  have lb_p:=lbc p0
  have lb_s:=lbc s0
  clear hb hx
  go_wp2_with fail
  go_ret
  exact⟨rfl,hB⟩
theorem r6adv_no (p:Pol) (s:St) (a:Option Addr) (n c:Nat) (now:Int) (w:World) (hl:LogAt w a n c s.log) (h:¬ rightL p s):Calls Tryz.prog 91 #[p.v,s.v a n c,.int .i64 now] w (PostS a n (advL p s now) w):=by
 have hrt:=fun w hw=>r6right_any p s a n c w hw
 rw[decide_eq_false h] at hrt
 unfold advL
 rw[if_neg h]
 clear h
 refine Calls.mono (R:=fun e w'=>e=.returned (St.none.v none 0 0)∧Below w.heap.size w w') ?_ (fun e w' hh=>⟨none,0,0,hh.1,log_nil _ _ _ (by omega),.inl rfl,hh.2⟩)
 obtain⟨k,l,d,b,cc,o⟩:=p
 obtain⟨at_,level,held,L⟩:=s
 unfold St.none St.v Pol.v at *
 dsimp only at *
 have HRT:=Go.Lib.hid hrt
 have HL:=Go.Lib.hid hl
 clear hrt hl
 go_enter Tryz.func91,Tryz.ntmps91
 go_wp2_with fail
 refine(HRT.out _ (log_bl HL.out (bl_alloc (bl_alloc (bl_alloc (bl_refl _) _) _) _))).mono ?_
 rintro e w1 ⟨rfl,hb⟩
 have hx:Below w.heap.size w w1:=bl_then (bl_alloc (bl_alloc (bl_alloc (bl_refl _) _) _) _) hb
 have hsz1:w.heap.size+3≤w1.heap.size:=szl hb
 obtain⟨p0,p1,p2,p3,p4,p5⟩:=b6 (w.heap.size) k l d b cc o hb
 obtain⟨s0,s1,s2,s3⟩:=b4 (w.heap.size+1) at_ level held a n c hb
 have sR:=res_bl (b:=w.heap.size+1) (res_bl (res_new _ _ _ _ _ _ (by simp)) (bl_alloc (bl_refl _) _)) hb
 have rR:=res_bl (b:=w.heap.size+1+1) (res_new _ _ _ _ _ _ (by simp)) hb
 have hB:Below w.heap.size w w1:=hx
 have lb_p:=lbc p0
 have lb_s:=lbc s0
 clear hb hx
 obtain⟨f0,f1,f2,f3,u0,u1,u2,u3,i0,i1,i2,i3⟩:=res_all rR
 go_wp2_with fail
 (try simp only[Exit.inBlock,Exit.then,Exit.noGoto_ret])
 refine bodyPost_ret (results_state rfl _ _ (by rfl) (set4r (rR))) rfl ⟨rfl,bl4 (hB) (by omega)⟩
theorem r6adv_yes (p:Pol) (s:St) (a:Option Addr) (n c:Nat) (now:Int) (w:World) (hl:LogAt w a n c s.log) (h:rightL p s):Calls Tryz.prog 91 #[p.v,s.v a n c,.int .i64 now] w (fun e w'=>StOwn (advL p s now) w.heap.size e w'∧Below w.heap.size w w'):=by
 have hrt:=fun w hw=>r6right_any p s a n c w hw
 rw[decide_eq_true h] at hrt
 rw[advL_all h]
 have hcl:=rclamp_bl now
 have hcr:=clampT_range now
 have hat:=h.2.1
 have hat2:=h.2.2.1
 have hd:=h.1.2.2.1
 have hD:=h.1.2.2.2.2.2.1
 have hyl:=young_live (period:=p.period) (t:=up s.at_ (clampT now)) h.2.2.2.2.2.2.1
 have hn100:n≤100:=by have h1:=h.2.2.2.2.2.2.2.1;have h2:=h.1.2.2.2.2.2.2.1;have h3:=hl.1;omega
 have hT:s.at_≤up s.at_ (clampT now)∧up s.at_ (clampT now)≤9007199254740992:=by unfold up;split <;> omega
 have hmx:(if s.at_<clampT now then clampT now else s.at_)=up s.at_ (clampT now):=rfl
 clear h
 obtain⟨k,l,d,b,cc,o⟩:=p
 obtain⟨at_,level,held,L⟩:=s
 unfold St.v Pol.v at *
 dsimp only at *
 generalize up at_ (clampT now)=T at *
 generalize clampT now=CT at *
 generalize live d T L=LV at *
 have hs:∀ j,j<n→∃ E C,(L.getD j (0,0)).1=E∧(L.getD j (0,0)).2=C∧(T - d<E→youngL (T - d) (L.take (j+1))=youngL (T - d) (L.take j) ++ [(E,C)])∧(¬ T - d<E→youngL (T - d) (L.take (j+1))=youngL (T - d) (L.take j)):=fun j hj=>by
  have h1:=youngL_take (T - d) L j (by have:=hl.1;omega)
  refine⟨_,_,rfl,rfl,fun h2=>?_,fun h2=>?_⟩
  ·rw[h1,if_pos h2]
  ·rw[h1,if_neg h2,List.append_nil]
 have hlen:∀ j,j≤n→(youngL (T - d) (L.take j)).length≤j:=fun j hj=>by have:=youngL_len (T - d) (L.take j);rw[List.length_take] at this;omega
 have he:youngL (T - d) (L.take n)=LV:=by rw[← hl.1,List.take_length];exact hyl
 generalize hF:(fun j=>youngL (T - d) (L.take j))=F at *
 have HS:=Go.Lib.hid (show ∀ j,j<n→∃ E C,(L.getD j (0,0)).1=E∧(L.getD j (0,0)).2=C∧(T - d<E→F (j+1)=F j ++ [(E,C)])∧(¬ T - d<E→F (j+1)=F j) by rw[← hF];exact hs)
 have HLN:=Go.Lib.hid (show ∀ j,j≤n→(F j).length≤j by rw[← hF];exact hlen)
 have HE:=Go.Lib.hid (show F n=LV by rw[← hF];exact he)
 have HF0:=Go.Lib.hid (show F 0=[] by rw[← hF];rfl)
 have HLT:=Go.Lib.hid (log_lt hl)
 have wm:IntKind.i64.wrap (T - d)=T - d:=IntWalk.i64_in _ (by omega)
 have WM:=Go.Lib.hid wm
 clear hs hlen he hyl hF wm hcr hat hat2 hd hD hT
 have HRT:=Go.Lib.hid hrt
 have HCL:=Go.Lib.hid hcl
 have HL:=Go.Lib.hid hl
 clear hrt hcl hl
 go_enter Tryz.func91,Tryz.ntmps91
 go_wp2_with fail
 refine(HRT.out _ (log_bl HL.out (bl_alloc (bl_alloc (bl_alloc (bl_refl _) _) _) _))).mono ?_
 rintro e w1 ⟨rfl,hb⟩
 have hx:Below w.heap.size w w1:=bl_then (bl_alloc (bl_alloc (bl_alloc (bl_refl _) _) _) _) hb
 have hsz1:w.heap.size+3≤w1.heap.size:=szl hb
 obtain⟨p0,p1,p2,p3,p4,p5⟩:=b6 (w.heap.size) k l d b cc o hb
 obtain⟨s0,s1,s2,s3⟩:=b4 (w.heap.size+1) at_ level held a n c hb
 have sR:=res_bl (b:=w.heap.size+1) (res_bl (res_new _ _ _ _ _ _ (by simp)) (bl_alloc (bl_refl _) _)) hb
 have rR:=res_bl (b:=w.heap.size+1+1) (res_new _ _ _ _ _ _ (by simp)) hb
 have hB:Below w.heap.size w w1:=hx
 have lb_p:=lbc p0
 have lb_s:=lbc s0
 clear hb hx
 go_wp2_with fail
 refine wp_region_held_drew (S:=fun w'=>P6 w' (w.heap.size) k l d b cc o (S4 w' (w.heap.size+1) at_ level held a n c (ResB w' (w.heap.size+1)∧ResB w' (w.heap.size+1+1)∧Below w.heap.size w w'))) (by kernel_rfl) ?_ (fun hHeld=>?_)
 ·exact⟨p0,p1,p2,p3,p4,p5,s0,s1,s2,s3,sR,rR,bl_drew hB⟩
 try simp only[Act.put,List.setIfInBounds_toArray,List.set_cons_zero,List.set_cons_succ]
 clear hB p0 p1 p2 p3 p4 p5 s0 s1 s2 s3 sR rR
 refine wpAnyH_abs (F:=fun _=>True) hHeld trivial ?_
 clear hHeld
 rintro X0 hHeld -
 refine tkx 0 ?_
 refine tkx 1 ?_
 refine tkx 2 ?_
 refine tkx 5 ?_
 refine tkx 6 ?_
 refine callC2 (i:=3) (j:=8) rfl rfl (fun K hK=>?x1_3) (fun K hK=>?x1_8)
 case' x1_3 =>
  obtain⟨h_p0,h_p1,h_p2,h_p3,h_p4,h_p5,h_s0,h_s1,h_s2,h_s3,h_sR,h_rR,h_B⟩:=(id hHeld)
  go_simp
  refine(HCL.out _).mono ?_
  rintro e X5 ⟨rfl,hb⟩
  go_wp2_with fail
  refine hK.out _ _ ?_ (fun hHeld2=>?_)
  ·(try dsimp only);exact⟨bl_cell hb h_p0,bl_cell hb h_p1,bl_cell hb h_p2,bl_cell hb h_p3,bl_cell hb h_p4,bl_cell hb h_p5,bl_cell hb h_s0,bl_cell hb h_s1,bl_cell hb h_s2,bl_cell hb h_s3,res_bl h_sR hb,res_bl h_rR hb,bl_then h_B hb⟩
  clear hHeld hK K h_p0 h_p1 h_p2 h_p3 h_p4 h_p5 h_s0 h_s1 h_s2 h_s3 h_sR h_rR h_B hb
  have hHeld:=hHeld2
  clear hHeld2
  try simp only[Act.put,List.setIfInBounds_toArray,List.set_cons_zero,List.set_cons_succ]
  refine tkx 4 ?_
  refine tkx 7 ?_
  refine callC (i:=8) rfl (fun K hK=>?_)
  obtain⟨h_p0,h_p1,h_p2,h_p3,h_p4,h_p5,h_s0,h_s1,h_s2,h_s3,h_sR,h_rR,h_B⟩:=(id hHeld)
  go_simp
  refine hK.out _ _ ?_ (fun hHeld2=>?_)
  ·(try dsimp only);exact⟨bl_cell (bl_alloc (bl_refl _) _) h_p0,bl_cell (bl_alloc (bl_refl _) _) h_p1,bl_cell (bl_alloc (bl_refl _) _) h_p2,bl_cell (bl_alloc (bl_refl _) _) h_p3,bl_cell (bl_alloc (bl_refl _) _) h_p4,bl_cell (bl_alloc (bl_refl _) _) h_p5,bl_cell (bl_alloc (bl_refl _) _) h_s0,bl_cell (bl_alloc (bl_refl _) _) h_s1,bl_cell (bl_alloc (bl_refl _) _) h_s2,bl_cell (bl_alloc (bl_refl _) _) h_s3,res_bl h_sR (bl_alloc (bl_refl _) _),res_bl h_rR (bl_alloc (bl_refl _) _),bl_alloc h_B _⟩
  have rn0:=World.block_lt_of_cell? _ _ h_p0
  have rn1:=World.block_lt_of_cell? _ _ h_s0
  dsimp only at rn0 rn1
  have rB:=h_B.size
  clear hHeld hK K h_p0 h_p1 h_p2 h_p3 h_p4 h_p5 h_s0 h_s1 h_s2 h_s3 h_sR h_rR h_B
  have hHeld:=hHeld2
  clear hHeld2
  try simp only[Act.put,List.setIfInBounds_toArray,List.set_cons_zero,List.set_cons_succ]
  refine wpAnyH_abs (F:=fun X=>ResB X X5.heap.size) hHeld (res_new _ _ _ _ _ _ rfl) ?_
  clear hHeld
  generalize X5.heap.size=r at *
  rintro X8 hHeld hRes
  refine callC (i:=9) rfl (fun K hK=>?_)
  obtain⟨h_p0,h_p1,h_p2,h_p3,h_p4,h_p5,h_s0,h_s1,h_s2,h_s3,h_sR,h_rR,h_B⟩:=(id hHeld)
  obtain⟨f0,f1,f2,f3,u0,u1,u2,u3,i0,i1,i2,i3⟩:=res_all hRes
  go_simp
  refine hK.out _ _ ?_ (fun hHeld2=>?_)
  ·(try dsimp only);exact⟨far4 h_p0 (by dsimp only;omega),far4 h_p1 (by dsimp only;omega),far4 h_p2 (by dsimp only;omega),far4 h_p3 (by dsimp only;omega),far4 h_p4 (by dsimp only;omega),far4 h_p5 (by dsimp only;omega),far4 h_s0 (by dsimp only;omega),far4 h_s1 (by dsimp only;omega),far4 h_s2 (by dsimp only;omega),far4 h_s3 (by dsimp only;omega),res4 h_sR,res4 h_rR,bl4 h_B (by omega)⟩
  obtain⟨z0,z1,z2,z3⟩:=set4r (v0:=.int .i64 T) (v1:=.int .i64 0) (v2:=.int .i64 held) (v3:=.slice none 0 0) hRes
  replace hRes:=res4 (b:=r) (v0:=.int .i64 T) (v1:=.int .i64 0) (v2:=.int .i64 held) (v3:=.slice none 0 0) hRes
  clear hHeld hK K h_p0 h_p1 h_p2 h_p3 h_p4 h_p5 h_s0 h_s1 h_s2 h_s3 h_sR h_rR h_B f0 f1 f2 f3 i0 i1 i2 i3 u0 u1 u2 u3
  have hHeld:=hHeld2
  clear hHeld2
  try simp only[Act.put,List.setIfInBounds_toArray,List.set_cons_zero,List.set_cons_succ]
  refine wpAnyH_done (by kernel_rfl) ?_ _
  refine then_abs (F:=fun X=>(fun w'=>P6 w' (w.heap.size) k l d b cc o (S4 w' (w.heap.size+1) at_ level held a n c (ResB w' (w.heap.size+1)∧ResB w' (w.heap.size+1+1)∧Below w.heap.size w w'))) X∧S4 X r T 0 held none 0 0 (ResB X r)) ⟨hHeld,z0,z1,z2,z3,hRes⟩ ?_
  clear hHeld z0 z1 z2 z3 hRes
 case' x1_8 =>
  obtain⟨h_p0,h_p1,h_p2,h_p3,h_p4,h_p5,h_s0,h_s1,h_s2,h_s3,h_sR,h_rR,h_B⟩:=(id hHeld)
  go_simp
  refine hK.out _ _ ?_ (fun hHeld2=>?_)
  ·(try dsimp only);exact⟨bl_cell (bl_alloc (bl_refl _) _) h_p0,bl_cell (bl_alloc (bl_refl _) _) h_p1,bl_cell (bl_alloc (bl_refl _) _) h_p2,bl_cell (bl_alloc (bl_refl _) _) h_p3,bl_cell (bl_alloc (bl_refl _) _) h_p4,bl_cell (bl_alloc (bl_refl _) _) h_p5,bl_cell (bl_alloc (bl_refl _) _) h_s0,bl_cell (bl_alloc (bl_refl _) _) h_s1,bl_cell (bl_alloc (bl_refl _) _) h_s2,bl_cell (bl_alloc (bl_refl _) _) h_s3,res_bl h_sR (bl_alloc (bl_refl _) _),res_bl h_rR (bl_alloc (bl_refl _) _),bl_alloc h_B _⟩
  have rn0:=World.block_lt_of_cell? _ _ h_p0
  have rn1:=World.block_lt_of_cell? _ _ h_s0
  dsimp only at rn0 rn1
  have rB:=h_B.size
  clear hHeld hK K h_p0 h_p1 h_p2 h_p3 h_p4 h_p5 h_s0 h_s1 h_s2 h_s3 h_sR h_rR h_B
  have hHeld:=hHeld2
  clear hHeld2
  try simp only[Act.put,List.setIfInBounds_toArray,List.set_cons_zero,List.set_cons_succ]
  refine wpAnyH_abs (F:=fun X=>ResB X X0.heap.size) hHeld (res_new _ _ _ _ _ _ rfl) ?_
  clear hHeld
  generalize X0.heap.size=r at *
  rintro X5 hHeld hRes
  refine callC (i:=3) rfl (fun K hK=>?_)
  obtain⟨h_p0,h_p1,h_p2,h_p3,h_p4,h_p5,h_s0,h_s1,h_s2,h_s3,h_sR,h_rR,h_B⟩:=(id hHeld)
  go_simp
  refine(HCL.out _).mono ?_
  rintro e X6 ⟨rfl,hb⟩
  go_wp2_with fail
  refine hK.out _ _ ?_ (fun hHeld2=>?_)
  ·(try dsimp only);exact⟨bl_cell hb h_p0,bl_cell hb h_p1,bl_cell hb h_p2,bl_cell hb h_p3,bl_cell hb h_p4,bl_cell hb h_p5,bl_cell hb h_s0,bl_cell hb h_s1,bl_cell hb h_s2,bl_cell hb h_s3,res_bl h_sR hb,res_bl h_rR hb,bl_then h_B hb⟩
  replace hRes:=res_bl hRes hb
  clear hHeld hK K h_p0 h_p1 h_p2 h_p3 h_p4 h_p5 h_s0 h_s1 h_s2 h_s3 h_sR h_rR h_B hb
  have hHeld:=hHeld2
  clear hHeld2
  try simp only[Act.put,List.setIfInBounds_toArray,List.set_cons_zero,List.set_cons_succ]
  refine tkx 4 ?_
  refine tkx 7 ?_
  refine callC (i:=9) rfl (fun K hK=>?_)
  obtain⟨h_p0,h_p1,h_p2,h_p3,h_p4,h_p5,h_s0,h_s1,h_s2,h_s3,h_sR,h_rR,h_B⟩:=(id hHeld)
  obtain⟨f0,f1,f2,f3,u0,u1,u2,u3,i0,i1,i2,i3⟩:=res_all hRes
  go_simp
  refine hK.out _ _ ?_ (fun hHeld2=>?_)
  ·(try dsimp only);exact⟨far4 h_p0 (by dsimp only;omega),far4 h_p1 (by dsimp only;omega),far4 h_p2 (by dsimp only;omega),far4 h_p3 (by dsimp only;omega),far4 h_p4 (by dsimp only;omega),far4 h_p5 (by dsimp only;omega),far4 h_s0 (by dsimp only;omega),far4 h_s1 (by dsimp only;omega),far4 h_s2 (by dsimp only;omega),far4 h_s3 (by dsimp only;omega),res4 h_sR,res4 h_rR,bl4 h_B (by omega)⟩
  obtain⟨z0,z1,z2,z3⟩:=set4r (v0:=.int .i64 T) (v1:=.int .i64 0) (v2:=.int .i64 held) (v3:=.slice none 0 0) hRes
  replace hRes:=res4 (b:=r) (v0:=.int .i64 T) (v1:=.int .i64 0) (v2:=.int .i64 held) (v3:=.slice none 0 0) hRes
  clear hHeld hK K h_p0 h_p1 h_p2 h_p3 h_p4 h_p5 h_s0 h_s1 h_s2 h_s3 h_sR h_rR h_B f0 f1 f2 f3 i0 i1 i2 i3 u0 u1 u2 u3
  have hHeld:=hHeld2
  clear hHeld2
  try simp only[Act.put,List.setIfInBounds_toArray,List.set_cons_zero,List.set_cons_succ]
  refine wpAnyH_done (by kernel_rfl) ?_ _
  refine then_abs (F:=fun X=>(fun w'=>P6 w' (w.heap.size) k l d b cc o (S4 w' (w.heap.size+1) at_ level held a n c (ResB w' (w.heap.size+1)∧ResB w' (w.heap.size+1+1)∧Below w.heap.size w w'))) X∧S4 X r T 0 held none 0 0 (ResB X r)) ⟨hHeld,z0,z1,z2,z3,hRes⟩ ?_
  clear hHeld z0 z1 z2 z3 hRes
 all_goals rintro w2 ⟨⟨p0,p1,p2,p3,p4,p5,s0,s1,s2,s3,sR,rR,hB⟩,t0,t1,t2,t3,tR⟩
 all_goals
  replace lb_p:=lbc p0
  replace lb_s:=lbc s0
  have lb_t:=lbc t0
  clear HRT HCL
  have lwR:r<w2.heap.size:=res_lt tR
  obtain⟨B0,hB0⟩:∃ B0,w2.heap.size=B0:=⟨_,rfl⟩
  have LWR:r<B0:=by omega
  have sz:=Nat.le_of_eq hB0.symm
  have LWW:w.heap.size+3≤B0:=by omega
  skip
  go_wp2_with fail
  go_loopw [8] (fun s8 wr=>∃ (j:Nat) (v:Value),s8=.int .i64 j∧j≤n∧Hid (wr.cell? ⟨r,3,none⟩=some v∧OwnLog wr B0 v (F j).length (F j))∧Hid ((fun w'=>P6 w' (w.heap.size) k l d b cc o (S4 w' (w.heap.size+1) at_ level held a n c (ResB w' (w.heap.size+1)∧ResB w' (w.heap.size+1+1)∧X3 w' r T 0 held (ResB w' r∧B0≤w'.heap.size∧Below w.heap.size w w')))) wr)) (fun s8 _=>n - (intOf s8).toNat)
  case atStart=>exact⟨0,_,rfl,Nat.zero_le _,⟨t3,by rw[HF0.out];exact⟨rfl,.inl ⟨rfl,rfl⟩⟩⟩,⟨p0,p1,p2,p3,p4,p5,s0,s1,s2,s3,sR,rR,t0,t1,t2,tR,sz,hB⟩⟩
  case round =>
   obtain⟨j,v,rfl,hj,HV,H⟩:=hrel
   clear t3
   replace H:=H.out
   clear hB p0 p1 p2 p3 p4 p5 s0 s1 s2 s3 sR rR t0 t1 t2 tR sz
   obtain⟨p0,p1,p2,p3,p4,p5,s0,s1,s2,s3,sR,rR,t0,t1,t2,tR,sz,hB⟩:=H
   replace lb_p:=lbc p0
   replace lb_s:=lbc s0
   replace lb_t:=lbc t0
   obtain⟨t3,ow⟩:=HV.out
   clear HV
   have lnj:=HLN.out j hj
   by_cases hjn:j<n
   ·obtain ⟨E,C,hE,hC,hs1,hs2⟩:=HS.out j hjn
    have hlt:=HLT.out
    obtain⟨eb,eo,rfl,x0,x1⟩:=HL.out.2.2.2 j hjn
    have e0:=bl_cell hB x0
    have e1:=bl_cell hB x1
    clear x0 x1
    rw[hE] at e0
    rw[hC] at e1
    have lbe:eb<w.heap.size:=hlt _ rfl (by omega)
    generalize hFj:F j=FJ at *
    have k0:(0:Int)≤(j:Int):=by omega
    have k1:(j:Int)<(n:Int):=by omega
    have hj1:j+1≤n:=hjn
    have hms:n - (j+1)<n - j:=by omega
    have wj:IntKind.i64.wrap ((j:Int)+1)=(j:Int)+1:=IntWalk.i64_in _ (by omega)
    have wm:=WM.out
    have ln1:FJ.length≤1000:=by omega
    clear hE hC hlt hFj lnj
    by_cases hc:T - d<E
    ·have hd1:decide (T - d<E)=true:=decide_eq_true hc
     have HST:=Go.Lib.hid (hs1 (by omega))
     clear hs1 hs2
     go_wp2_with fail
     refine wp_region_held_drew (S:=fun w'=>P6 w' (w.heap.size) k l d b cc o (S4 w' (w.heap.size+1) at_ level held (some ⟨eb,eo,none⟩) n c (ResB w' (w.heap.size+1)∧ResB w' (w.heap.size+1+1)∧X3 w' r T 0 held (ResB w' r∧B0≤w'.heap.size∧w'.cell? ⟨eb,eo+j*2,none⟩=some (.int .i64 E)∧w'.cell? ⟨eb,eo+j*2+1,none⟩=some (.int .i64 C)∧w'.cell? ⟨r,3,none⟩=some v∧OwnLog w' B0 v FJ.length FJ∧Below w.heap.size w w')))) (by kernel_rfl) ?_ (fun hHeld=>?_)
     ·exact⟨p0,p1,p2,p3,p4,p5,s0,s1,s2,s3,sR,rR,t0,t1,t2,tR,sz,e0,e1,t3,ow,bl_drew hB⟩
     try simp only[Act.put,List.setIfInBounds_toArray,List.set_cons_zero,List.set_cons_succ]
     refine tkx 0 ?_
     refine tkx 1 ?_
     refine tkx 2 ?_
     refine tkx 3 ?_
     refine tkx 4 ?_
     refine tkx 5 ?_
     refine tkx 6 ?_
     refine tkx 7 ?_
     refine tkx 8 ?_
     refine tkx 9 ?_
     refine tkx 10 ?_
     refine tkx 11 ?_
     refine wpAnyH_done (by kernel_rfl) ?_ _
     refine then_abs (F:=fun w'=>P6 w' (w.heap.size) k l d b cc o (S4 w' (w.heap.size+1) at_ level held (some ⟨eb,eo,none⟩) n c (ResB w' (w.heap.size+1)∧ResB w' (w.heap.size+1+1)∧X3 w' r T 0 held (ResB w' r∧B0≤w'.heap.size∧w'.cell? ⟨eb,eo+j*2,none⟩=some (.int .i64 E)∧w'.cell? ⟨eb,eo+j*2+1,none⟩=some (.int .i64 C)∧w'.cell? ⟨r,3,none⟩=some v∧OwnLog w' B0 v FJ.length FJ∧Below w.heap.size w w')))) hHeld ?_
     clear hHeld hB p0 p1 p2 p3 p4 p5 s0 s1 s2 s3 sR rR t0 t1 t2 tR sz e0 e1 t3 ow
     rintro w41 ⟨p0,p1,p2,p3,p4,p5,s0,s1,s2,s3,sR,rR,t0,t1,t2,tR,sz,e0,e1,t3,ow,hB⟩
     replace lb_p:=lbc p0
     replace lb_s:=lbc s0
     replace lb_t:=lbc t0
     have lb_e:=lbc e0
     go_wp2_with fail
     refine wp_region_held_drew (S:=fun w'=>P6 w' (w.heap.size) k l d b cc o (S4 w' (w.heap.size+1) at_ level held (some ⟨eb,eo,none⟩) n c (ResB w' (w.heap.size+1)∧ResB w' (w.heap.size+1+1)∧X3 w' r T 0 held (ResB w' r∧B0≤w'.heap.size∧w'.cell? ⟨eb,eo+j*2,none⟩=some (.int .i64 E)∧w'.cell? ⟨eb,eo+j*2+1,none⟩=some (.int .i64 C)∧Below w.heap.size w w')))) (by kernel_rfl) ?_ (fun hHeld=>?_)
     ·exact⟨p0,p1,p2,p3,p4,p5,s0,s1,s2,s3,sR,rR,t0,t1,t2,tR,sz,e0,e1,bl_drew hB⟩
     try simp only[Act.put,List.setIfInBounds_toArray,List.set_cons_zero,List.set_cons_succ]
     have hC:=bl_cell (bl_drew (bl_refl w41)) t3
     have hO:=own_bl ow (bl_drew (bl_refl w41))
     clear hB p0 p1 p2 p3 p4 p5 s0 s1 s2 s3 sR rR t0 t1 t2 tR sz e0 e1 t3 ow
     refine tkx 0 ?_
     refine tkx 2 ?_
     refine tkx 3 ?_
     refine tkx 4 ?_
     refine tkx 5 ?_
     refine tkx 6 ?_
     generalize hWd:w41.drew=Wd at *
     clear hWd
     refine callC2 (i:=1) (j:=7) rfl rfl ?_ ?_
     case' refine_1 =>
      intro K hK
      go_simp
      refine hK.out _ _ hHeld (fun hHeld=>?_)
      clear hK K
      try simp only[Act.put,List.setIfInBounds_toArray,List.set_cons_zero,List.set_cons_succ]
      refine callC (i:=7) rfl (fun K hK=>?_)
      obtain⟨h_p0,h_p1,h_p2,h_p3,h_p4,h_p5,h_s0,h_s1,h_s2,h_s3,h_sR,h_rR,h_t0,h_t1,h_t2,h_tR,h_sz,h_e0,h_e1,h_B⟩:=(id hHeld)
      go_simp
      have ha:=bl_alloc (bl_refl Wd) (.cells #[.int .i64 E,.int .i64 C] 82)
      refine hK.out _ _ ?_ (fun hHeld2=>?_)
      ·(try dsimp only);exact⟨bl_cell ha h_p0,bl_cell ha h_p1,bl_cell ha h_p2,bl_cell ha h_p3,bl_cell ha h_p4,bl_cell ha h_p5,bl_cell ha h_s0,bl_cell ha h_s1,bl_cell ha h_s2,bl_cell ha h_s3,res_bl h_sR ha,res_bl h_rR ha,bl_cell ha h_t0,bl_cell ha h_t1,bl_cell ha h_t2,res_bl h_tR ha,sz_bl h_sz ha,bl_cell ha h_e0,bl_cell ha h_e1,bl_then h_B ha⟩
      clear hHeld h_p0 h_p1 h_p2 h_p3 h_p4 h_p5 h_s0 h_s1 h_s2 h_s3 h_sR h_rR h_t0 h_t1 h_t2 h_tR h_sz h_e0 h_e1 h_B
      have hHeld:=hHeld2
      clear hHeld2
      have lwq:Wd.heap.size<(Wd.alloc (.cells #[.int .i64 E,.int .i64 C] 82)).heap.size:=by simp
      replace hC:=bl_cell ha hC
      replace hO:=own_bl hO ha
      clear ha
      have hn0:World.cell? (Wd.alloc (.cells #[.int .i64 E,.int .i64 C] 82)) ⟨Wd.heap.size,0,none⟩=some (.int .i64 E):=by go_simp
      have hn1:World.cell? (Wd.alloc (.cells #[.int .i64 E,.int .i64 C] 82)) ⟨Wd.heap.size,1,none⟩=some (.int .i64 C):=by go_simp
      clear hK K
      try simp only[Act.put,List.setIfInBounds_toArray,List.set_cons_zero,List.set_cons_succ]
     case' refine_2 =>
      intro K hK
      obtain⟨h_p0,h_p1,h_p2,h_p3,h_p4,h_p5,h_s0,h_s1,h_s2,h_s3,h_sR,h_rR,h_t0,h_t1,h_t2,h_tR,h_sz,h_e0,h_e1,h_B⟩:=(id hHeld)
      go_simp
      have ha:=bl_alloc (bl_refl Wd) (.cells #[.int .i64 E,.int .i64 C] 82)
      refine hK.out _ _ ?_ (fun hHeld2=>?_)
      ·(try dsimp only);exact⟨bl_cell ha h_p0,bl_cell ha h_p1,bl_cell ha h_p2,bl_cell ha h_p3,bl_cell ha h_p4,bl_cell ha h_p5,bl_cell ha h_s0,bl_cell ha h_s1,bl_cell ha h_s2,bl_cell ha h_s3,res_bl h_sR ha,res_bl h_rR ha,bl_cell ha h_t0,bl_cell ha h_t1,bl_cell ha h_t2,res_bl h_tR ha,sz_bl h_sz ha,bl_cell ha h_e0,bl_cell ha h_e1,bl_then h_B ha⟩
      clear hHeld h_p0 h_p1 h_p2 h_p3 h_p4 h_p5 h_s0 h_s1 h_s2 h_s3 h_sR h_rR h_t0 h_t1 h_t2 h_tR h_sz h_e0 h_e1 h_B
      have hHeld:=hHeld2
      clear hHeld2
      have lwq:Wd.heap.size<(Wd.alloc (.cells #[.int .i64 E,.int .i64 C] 82)).heap.size:=by simp
      replace hC:=bl_cell ha hC
      replace hO:=own_bl hO ha
      clear ha
      have hn0:World.cell? (Wd.alloc (.cells #[.int .i64 E,.int .i64 C] 82)) ⟨Wd.heap.size,0,none⟩=some (.int .i64 E):=by go_simp
      have hn1:World.cell? (Wd.alloc (.cells #[.int .i64 E,.int .i64 C] 82)) ⟨Wd.heap.size,1,none⟩=some (.int .i64 C):=by go_simp
      clear hK K
      try simp only[Act.put,List.setIfInBounds_toArray,List.set_cons_zero,List.set_cons_succ]
      refine callC (i:=1) rfl (fun K hK=>?_)
      go_simp
      refine hK.out _ _ hHeld (fun hHeld=>?_)
      clear hK K
      try simp only[Act.put,List.setIfInBounds_toArray,List.set_cons_zero,List.set_cons_succ]
     all_goals(generalize Wd.alloc (.cells #[.int .i64 E,.int .i64 C] 82)=Wa at *)
     all_goals(refine callC (i:=8) rfl (fun K hK=>?_))
     all_goals
      rw[if_pos (by rfl)]
      refine wp_entry _ _ _ rfl B0 v FJ.length FJ rfl hO Wd.heap.size 1 E C rfl hn0 hn1 ln1 (by obtain⟨h_p0,h_p1,h_p2,h_p3,h_p4,h_p5,h_s0,h_s1,h_s2,h_s3,h_sR,h_rR,h_t0,h_t1,h_t2,h_tR,h_sz,h_e0,h_e1,h_B⟩:=(id hHeld);exact h_sz) (fun v5 w5 hO5 hg5=>?_)
      obtain⟨h_p0,h_p1,h_p2,h_p3,h_p4,h_p5,h_s0,h_s1,h_s2,h_s3,h_sR,h_rR,h_t0,h_t1,h_t2,h_tR,h_sz,h_e0,h_e1,h_B⟩:=(id hHeld)
      have hne:∀ gg,Value.ownBlock (v)=some gg→B0≤gg:=fun gg hgg=>(World.ownsRow.lt hO gg hgg).1
      refine hK.out _ _ ?_ (fun hHeld2=>?_)
      ·(try dsimp only);exact⟨grown_cell hg5 h_p0 (by intro he;have:=hne _ he.symm;omega),grown_cell hg5 h_p1 (by intro he;have:=hne _ he.symm;omega),grown_cell hg5 h_p2 (by intro he;have:=hne _ he.symm;omega),grown_cell hg5 h_p3 (by intro he;have:=hne _ he.symm;omega),grown_cell hg5 h_p4 (by intro he;have:=hne _ he.symm;omega),grown_cell hg5 h_p5 (by intro he;have:=hne _ he.symm;omega),grown_cell hg5 h_s0 (by intro he;have:=hne _ he.symm;omega),grown_cell hg5 h_s1 (by intro he;have:=hne _ he.symm;omega),grown_cell hg5 h_s2 (by intro he;have:=hne _ he.symm;omega),grown_cell hg5 h_s3 (by intro he;have:=hne _ he.symm;omega),grown_res hg5 h_sR (by intro he;have:=hne _ he.symm;omega),grown_res hg5 h_rR (by intro he;have:=hne _ he.symm;omega),grown_cell hg5 h_t0 (by intro he;have:=hne _ he.symm;omega),grown_cell hg5 h_t1 (by intro he;have:=hne _ he.symm;omega),grown_cell hg5 h_t2 (by intro he;have:=hne _ he.symm;omega),grown_res hg5 h_tR (by intro he;have:=hne _ he.symm;omega),Nat.le_trans h_sz hg5.size,grown_cell hg5 h_e0 (by intro he;have:=hne _ he.symm;omega),grown_cell hg5 h_e1 (by intro he;have:=hne _ he.symm;omega),h_B.grown hg5 h_B.size (fun gg hgg=>by have:=hne gg hgg;omega)⟩
      clear hHeld hC hO hn0 hn1 h_p0 h_p1 h_p2 h_p3 h_p4 h_p5 h_s0 h_s1 h_s2 h_s3 h_sR h_rR h_t0 h_t1 h_t2 h_tR h_sz h_e0 h_e1 h_B hne hg5
      have hHeld:=hHeld2
      clear hHeld2
      clear hK K
      try simp only[Act.put,List.setIfInBounds_toArray,List.set_cons_zero,List.set_cons_succ]
      refine tkx 9 ?_
      obtain⟨a5,c5,rfl,-⟩:=own_log hO5
      refine callC (i:=10) rfl (fun K hK=>?_)
      obtain⟨h_p0,h_p1,h_p2,h_p3,h_p4,h_p5,h_s0,h_s1,h_s2,h_s3,h_sR,h_rR,h_t0,h_t1,h_t2,h_tR,h_sz,h_e0,h_e1,h_B⟩:=(id hHeld)
      obtain⟨fr0,fr1,fr2,fr3,u0,u1,u2,u3,j0,j1,j2,j3⟩:=res_all h_tR
      go_simp
      refine hK.out _ _ ?_ (fun hHeld2=>?_)
      ·(try dsimp only);exact⟨far_set h_p0 _ _ (by dsimp only;omega),far_set h_p1 _ _ (by dsimp only;omega),far_set h_p2 _ _ (by dsimp only;omega),far_set h_p3 _ _ (by dsimp only;omega),far_set h_p4 _ _ (by dsimp only;omega),far_set h_p5 _ _ (by dsimp only;omega),far_set h_s0 _ _ (by dsimp only;omega),far_set h_s1 _ _ (by dsimp only;omega),far_set h_s2 _ _ (by dsimp only;omega),far_set h_s3 _ _ (by dsimp only;omega),res_set h_sR _ _,res_set h_rR _ _,set_other h_t0 _ (by simp),set_other h_t1 _ (by simp),set_other h_t2 _ (by simp),res_set h_tR _ _,sz_set h_sz,far_set h_e0 _ _ (by dsimp only;omega),far_set h_e1 _ _ (by dsimp only;omega),bl_set h_B (by dsimp only;omega) _⟩
      have hC9:=World.cell?_setCell_same' w5 ⟨r,3,none⟩ (.slice a5 (FJ.length+1) c5) (by rw[j3];rfl)
      have hO9:=own_far hO5 ⟨r,3,none⟩ (.slice a5 (FJ.length+1) c5) (fun g hg=>by have:=(World.ownsRow.lt hO5 g hg).1;dsimp only;omega)
      clear hHeld hK K hO5 h_p0 h_p1 h_p2 h_p3 h_p4 h_p5 h_s0 h_s1 h_s2 h_s3 h_sR h_rR h_t0 h_t1 h_t2 h_tR h_sz h_e0 h_e1 h_B fr0 fr1 fr2 fr3 j0 j1 j2 j3 u0 u1 u2 u3
      have hHeld:=hHeld2
      clear hHeld2
      try simp only[Act.put,List.setIfInBounds_toArray,List.set_cons_zero,List.set_cons_succ]
      refine wpAnyH_done (by kernel_rfl) ?_ _
      generalize w5.setCell ⟨r,3,none⟩ (.slice a5 (FJ.length+1) c5)=w99 at *
      obtain⟨p0,p1,p2,p3,p4,p5,s0,s1,s2,s3,sR,rR,t0,t1,t2,tR,sz,e0,e1,hB⟩:=hHeld
      have t3:=hC9
      have ow:=hO9
      clear hC9 hO9
      have lb_p:=lbc p0
      have lb_s:=lbc s0
      have lb_t:=lbc t0
      have lb_e:=lbc e0
      go_wp2_with fail
      go_roundw
      case rel=>exact⟨j+1,_,by go_num,hj1,⟨t3,by rw[HST.out,List.length_append];exact ow⟩,⟨p0,p1,p2,p3,p4,p5,s0,s1,s2,s3,sR,rR,t0,t1,t2,tR,sz,hB⟩⟩
      case measure=>(simp[intOf];first|exact hms|omega)
    ·have hd1:decide (T - d<E)=false:=decide_eq_false hc
     have HST:=Go.Lib.hid (hs2 (by omega))
     clear hs1 hs2
     go_wp2_with fail
     refine wp_region_held_drew (S:=fun w'=>P6 w' (w.heap.size) k l d b cc o (S4 w' (w.heap.size+1) at_ level held (some ⟨eb,eo,none⟩) n c (ResB w' (w.heap.size+1)∧ResB w' (w.heap.size+1+1)∧X3 w' r T 0 held (ResB w' r∧B0≤w'.heap.size∧w'.cell? ⟨eb,eo+j*2,none⟩=some (.int .i64 E)∧w'.cell? ⟨eb,eo+j*2+1,none⟩=some (.int .i64 C)∧w'.cell? ⟨r,3,none⟩=some v∧OwnLog w' B0 v FJ.length FJ∧Below w.heap.size w w')))) (by kernel_rfl) ?_ (fun hHeld=>?_)
     ·exact⟨p0,p1,p2,p3,p4,p5,s0,s1,s2,s3,sR,rR,t0,t1,t2,tR,sz,e0,e1,t3,ow,bl_drew hB⟩
     try simp only[Act.put,List.setIfInBounds_toArray,List.set_cons_zero,List.set_cons_succ]
     refine tkx 0 ?_
     refine tkx 1 ?_
     refine tkx 2 ?_
     refine tkx 3 ?_
     refine tkx 4 ?_
     refine tkx 5 ?_
     refine tkx 6 ?_
     refine tkx 7 ?_
     refine tkx 8 ?_
     refine tkx 9 ?_
     refine tkx 10 ?_
     refine tkx 11 ?_
     refine wpAnyH_done (by kernel_rfl) ?_ _
     refine then_abs (F:=fun w'=>P6 w' (w.heap.size) k l d b cc o (S4 w' (w.heap.size+1) at_ level held (some ⟨eb,eo,none⟩) n c (ResB w' (w.heap.size+1)∧ResB w' (w.heap.size+1+1)∧X3 w' r T 0 held (ResB w' r∧B0≤w'.heap.size∧w'.cell? ⟨eb,eo+j*2,none⟩=some (.int .i64 E)∧w'.cell? ⟨eb,eo+j*2+1,none⟩=some (.int .i64 C)∧w'.cell? ⟨r,3,none⟩=some v∧OwnLog w' B0 v FJ.length FJ∧Below w.heap.size w w')))) hHeld ?_
     clear hHeld hB p0 p1 p2 p3 p4 p5 s0 s1 s2 s3 sR rR t0 t1 t2 tR sz e0 e1 t3 ow
     rintro w41 ⟨p0,p1,p2,p3,p4,p5,s0,s1,s2,s3,sR,rR,t0,t1,t2,tR,sz,e0,e1,t3,ow,hB⟩
     replace lb_p:=lbc p0
     replace lb_s:=lbc s0
     replace lb_t:=lbc t0
     have lb_e:=lbc e0
     go_wp2_with fail
     go_roundw
     case rel=>exact⟨j+1,v,by go_num,hj1,⟨t3,by rw[HST.out];exact ow⟩,⟨p0,p1,p2,p3,p4,p5,s0,s1,s2,s3,sR,rR,t0,t1,t2,tR,sz,hB⟩⟩
     case measure=>(simp[intOf];first|exact hms|omega)
   ·have hje:n=j:=by omega
    subst hje
    rw[HE.out] at ow
    obtain⟨av,cv,rfl,-⟩:=own_log ow
    have fz:=(tR 3 (by omega)).1
    obtain⟨f0,f1,f2,f3,u0,u1,u2,u3,i0,i1,i2,i3⟩:=res_all rR
    go_wp2_with fail
    (try simp only[Exit.inBlock,Exit.then,Exit.noGoto_ret])
    refine bodyPost_ret (results_state rfl _ _ (by rfl) (set4r rR)) rfl ⟨⟨_,_,rfl,own_mono (own_set4 (b:=w.heap.size+1+1) ow (by omega)) (by omega)⟩,bl4 hB (by omega)⟩
theorem r6adv_any (p:Pol) (s:St) (a:Option Addr) (n c:Nat) (now:Int) (w:World) (hl:LogAt w a n c s.log):Calls Tryz.prog 91 #[p.v,s.v a n c,.int .i64 now] w (PostS a n (advL p s now) w):=by
 by_cases h:rightL p s
 ·exact(r6adv_yes p s a n c now w hl h).mono fun e w' hh=>s_own hh
 ·exact r6adv_no p s a n c now w hl h
theorem r6used_any (p:Pol) (s:St) (a:Option Addr) (n c:Nat) (t0:Int) (w:World) (hl:LogAt w a n c s.log) (hn:n≤1000) (hL:∀ e ∈ s.log,0≤e.2∧e.2≤1048576) (hm : -4611686018427387904≤t0 - p.period∧t0 - p.period≤4611686018427387904) :
  Calls Tryz.prog 162 #[p.v,s.v a n c,.int .i64 t0] w fun e w'=>e=.returned (.int .i64 (usedL (t0 - p.period) s.log))∧Below w.heap.size w w':=by
 obtain⟨k,l,d,b,cc,o⟩:=p
 obtain⟨at_,level,held,L⟩:=s
 unfold St.v Pol.v at *
 dsimp only at *
 have wm:IntKind.i64.wrap (t0 - d)=t0 - d:=IntWalk.i64_in _ (by omega)
 have WM:=Go.Lib.hid wm
 have hs:∀ j,j<n→∃ T C,(L.getD j (0,0)).1=T∧(L.getD j (0,0)).2=C∧0≤C∧C≤1048576∧0≤usedL (t0 - d) (L.take j)∧usedL (t0 - d) (L.take j)≤1048576000∧usedL (t0 - d) (L.take (j+1))=usedL (t0 - d) (L.take j)+if t0 - d<T then C else 0:=fun j hj=>by
  have hj':j<L.length:=by have:=hl.1;omega
  have h1:=usedL_bound (t0 - d) (L.take j) (fun e he=>hL e (List.mem_of_mem_take he))
  have h2:(L.take j).length≤1000:=by rw[List.length_take];have:=hl.1;omega
  have h3:L.getD j (0,0) ∈ L:=by rw[List.getD_eq_getElem?_getD,List.getElem?_eq_getElem hj'];exact List.getElem_mem hj'
  have h4:=hL _ h3
  exact⟨_,_,rfl,rfl,h4.1,h4.2,h1.1,by omega,usedL_take _ _ _ hj'⟩
 have he:usedL (t0 - d) (L.take n)=usedL (t0 - d) L:=by rw[← hl.1,List.take_length]
 have hz:usedL (t0 - d) (L.take 0)=0:=rfl
 generalize usedL (t0 - d) L=R at *
 generalize hF:(fun j=>usedL (t0 - d) (L.take j))=F at *
 have HS:=Go.Lib.hid (show ∀ j,j<n→∃ T C,(L.getD j (0,0)).1=T∧(L.getD j (0,0)).2=C∧0≤C∧C≤1048576∧0≤F j∧F j≤1048576000∧F (j+1)=F j+if t0 - d<T then C else 0 by rw[← hF];exact hs)
 have HE:=Go.Lib.hid (show F n=R by rw[← hF];exact he)
 have HZ:=Go.Lib.hid (show F 0=0 by rw[← hF];rfl)
 have HL:=Go.Lib.hid hl
 clear hs he hz hF wm hm hL hl hn
 go_enter Tryz.func162,Tryz.ntmps162
 go_wp2_with fail
 skip
 refine wp_abs (S0:=fun X=>(fun w'=>P6 w' (w.heap.size) k l d b cc o (S4 w' (w.heap.size+1) at_ level held a n c (Below w.heap.size w w'))) X∧w.heap.size+2≤X.heap.size) ⟨⟨by go_simp,by go_simp,by go_simp,by go_simp,by go_simp,by go_simp,by go_simp,by go_simp,by go_simp,by go_simp,bl_alloc (bl_alloc (bl_refl _) _) _⟩,by simp⟩ ?_
 rintro w1 ⟨⟨p0,p1,p2,p3,p4,p5,s0,s1,s2,s3,hB⟩,hsz1⟩
 have lb_p:=lbc p0
 have lb_s:=lbc s0
 go_loopw [7,8] (fun s7 s8 wr=>∃ j:Nat,s8=.int .i64 j∧j≤n∧s7=.int .i64 (F j)∧Hid ((fun w'=>P6 w' (w.heap.size) k l d b cc o (S4 w' (w.heap.size+1) at_ level held a n c (Below w.heap.size w w'))) wr)) (fun _ s8 _=>n - (intOf s8).toNat)
 case atStart=>exact⟨0,rfl,Nat.zero_le _,by rw[HZ.out],⟨p0,p1,p2,p3,p4,p5,s0,s1,s2,s3,hB⟩⟩
 case round =>
  obtain⟨j,rfl,hj,rfl,H⟩:=hrel
  replace H:=H.out
  clear hB p0 p1 p2 p3 p4 p5 s0 s1 s2 s3
  obtain⟨p0,p1,p2,p3,p4,p5,s0,s1,s2,s3,hB⟩:=H
  replace lb_p:=lbc p0
  replace lb_s:=lbc s0
  by_cases hjn:j<n
  ·obtain ⟨T,C,hT,hC,c0,c1,f0,f1,hst⟩:=HS.out j hjn
   obtain⟨eb,eo,rfl,x0,x1⟩:=HL.out.2.2.2 j hjn
   have e0:=bl_cell hB x0
   have e1:=bl_cell hB x1
   clear x0 x1
   rw[hT] at e0
   rw[hC] at e1
   generalize F j=FJ at *
   have k0:(0:Int)≤(j:Int):=by omega
   have k1:(j:Int)<(n:Int):=by omega
   have wm:=WM.out
   have hj1:j+1≤n:=hjn
   have hms:n - (j+1)<n - j:=by omega
   have wj:IntKind.i64.wrap ((j:Int)+1)=(j:Int)+1:=IntWalk.i64_in _ (by have:=HL.out.2.1;have:=HL.out.2.2.1;omega)
   have wf:IntKind.i64.wrap (FJ+C)=FJ+C:=IntWalk.i64_in _ (by omega)
   clear hT hC hj f0 f1 c0 c1
   by_cases hc:t0 - d<T
   ·have hd1:decide (t0 - d<T)=true:=decide_eq_true hc
    rw[if_pos hc] at hst
    have HST:=Go.Lib.hid hst
    clear hst
    go_wp2_with fail
    refine wp_region_held_drew (S:=fun w'=>P6 w' (w.heap.size) k l d b cc o (S4 w' (w.heap.size+1) at_ level held (some ⟨eb,eo,none⟩) n c (w'.cell? ⟨eb,eo+j*2,none⟩=some (.int .i64 T)∧w'.cell? ⟨eb,eo+j*2+1,none⟩=some (.int .i64 C)∧Below w.heap.size w w'))) (by kernel_rfl) ?_ (fun hHeld=>?_)
    ·exact⟨p0,p1,p2,p3,p4,p5,s0,s1,s2,s3,e0,e1,bl_drew hB⟩
    try simp only[Act.put,List.setIfInBounds_toArray,List.set_cons_zero,List.set_cons_succ]
    refine tkx 0 ?_
    refine tkx 1 ?_
    refine tkx 2 ?_
    refine tkx 3 ?_
    refine tkx 4 ?_
    refine tkx 5 ?_
    refine tkx 6 ?_
    refine tkx 7 ?_
    refine tkx 8 ?_
    refine tkx 9 ?_
    refine tkx 10 ?_
    refine wpAnyH_done (by kernel_rfl) ?_ _
    refine then_abs (F:=fun w'=>P6 w' (w.heap.size) k l d b cc o (S4 w' (w.heap.size+1) at_ level held (some ⟨eb,eo,none⟩) n c (w'.cell? ⟨eb,eo+j*2,none⟩=some (.int .i64 T)∧w'.cell? ⟨eb,eo+j*2+1,none⟩=some (.int .i64 C)∧Below w.heap.size w w'))) hHeld ?_
    clear hHeld hB p0 p1 p2 p3 p4 p5 s0 s1 s2 s3 e0 e1
    rintro w21 ⟨p0,p1,p2,p3,p4,p5,s0,s1,s2,s3,e0,e1,hB⟩
    replace lb_p:=lbc p0
    replace lb_s:=lbc s0
    have lb_e:=lbc e0
    go_wp2_with fail
    go_roundw
    case rel=>exact⟨j+1,by go_num,hj1,by rw[HST.out],⟨p0,p1,p2,p3,p4,p5,s0,s1,s2,s3,hB⟩⟩
    case measure=>(simp[intOf];first|exact hms|omega)
   ·have hd1:decide (t0 - d<T)=false:=decide_eq_false hc
    rw[if_neg hc] at hst
    have HST:=Go.Lib.hid hst
    clear hst
    go_wp2_with fail
    refine wp_region_held_drew (S:=fun w'=>P6 w' (w.heap.size) k l d b cc o (S4 w' (w.heap.size+1) at_ level held (some ⟨eb,eo,none⟩) n c (w'.cell? ⟨eb,eo+j*2,none⟩=some (.int .i64 T)∧w'.cell? ⟨eb,eo+j*2+1,none⟩=some (.int .i64 C)∧Below w.heap.size w w'))) (by kernel_rfl) ?_ (fun hHeld=>?_)
    ·exact⟨p0,p1,p2,p3,p4,p5,s0,s1,s2,s3,e0,e1,bl_drew hB⟩
    try simp only[Act.put,List.setIfInBounds_toArray,List.set_cons_zero,List.set_cons_succ]
    refine tkx 0 ?_
    refine tkx 1 ?_
    refine tkx 2 ?_
    refine tkx 3 ?_
    refine tkx 4 ?_
    refine tkx 5 ?_
    refine tkx 6 ?_
    refine tkx 7 ?_
    refine tkx 8 ?_
    refine tkx 9 ?_
    refine tkx 10 ?_
    refine wpAnyH_done (by kernel_rfl) ?_ _
    refine then_abs (F:=fun w'=>P6 w' (w.heap.size) k l d b cc o (S4 w' (w.heap.size+1) at_ level held (some ⟨eb,eo,none⟩) n c (w'.cell? ⟨eb,eo+j*2,none⟩=some (.int .i64 T)∧w'.cell? ⟨eb,eo+j*2+1,none⟩=some (.int .i64 C)∧Below w.heap.size w w'))) hHeld ?_
    clear hHeld hB p0 p1 p2 p3 p4 p5 s0 s1 s2 s3 e0 e1
    rintro w21 ⟨p0,p1,p2,p3,p4,p5,s0,s1,s2,s3,e0,e1,hB⟩
    replace lb_p:=lbc p0
    replace lb_s:=lbc s0
    have lb_e:=lbc e0
    go_wp2_with fail
    go_roundw
    case rel=>exact⟨j+1,by go_num,hj1,by rw[HST.out];go_num,⟨p0,p1,p2,p3,p4,p5,s0,s1,s2,s3,hB⟩⟩
    case measure=>(simp[intOf];first|exact hms|omega)
  ·have hje:n=j:=by omega
   subst hje
   rw[HE.out]
   go_wp2_with fail
   go_ret
   exact⟨rfl,hB⟩
theorem advL_n {p:Pol} {s:St} {now:Int} (h:rightL p s):(advL p s now).log.length≤100∧(∀ e ∈ (advL p s now).log,0≤e.2∧e.2≤1048576)∧0≤sumL (advL p s now).log∧sumL (advL p s now).log≤p.limit - s.held∧0≤(advL p s now).at_∧(advL p s now).at_≤9007199254740992∧(advL p s now).held=s.held:=by
 rw[advL_all h]
 dsimp only
 have hr:=h.2.2.2.2.2.2.1
 have hb:=rightL_bound h
 have h1:=live_sub p.period (up s.at_ (clampT now)) s.log
 have h2:=live_sum p.period (up s.at_ (clampT now)) s.log (fun e he=>(hb e he).1)
 have h3:=sumL_bound (live p.period (up s.at_ (clampT now)) s.log) 1048576 (fun e he=>hb e (h1.1 e he))
 have h4:=h.2.2.2.2.2.2.2.1
 have h5:=h.1.2.2.2.2.2.2.1
 have h6:=h.2.2.2.2.2.2.2.2
 have h7:=clampT_range now
 have h8:=h.2.1
 have h9:=h.2.2.1
 refine⟨by omega,fun e he=>hb e (h1.1 e he),h3.1,by omega,?_,?_,rfl⟩ <;> (unfold up;split <;> omega)
theorem advL_used {p:Pol} {s:St} {now:Int} (h:rightL p s):usedL (up s.at_ (clampT now) - p.period) s.log=sumL (advL p s now).log:=by rw[advL_all h];exact used_live h.2.2.2.2.2.2.1
theorem r6room_no (p:Pol) (s:St) (a:Option Addr) (n c:Nat) (now:Int) (w:World) (hl:LogAt w a n c s.log) (h:¬ rightL p s):Calls Tryz.prog 134 #[p.v,s.v a n c,.int .i64 now] w fun e w'=>e=.returned (.int .i64 (roomL p s now))∧Below w.heap.size w w':=by
 have hrt:=fun w hw=>r6right_any p s a n c w hw
 unfold roomL
 rw[if_neg h]
 rw[decide_eq_false h] at hrt
 clear h
 obtain⟨k,l,d,b,cc,o⟩:=p
 obtain⟨at_,level,held,L⟩:=s
 unfold St.v Pol.v at *
 dsimp only at *
 have HRT:=Go.Lib.hid hrt
 have HL:=Go.Lib.hid hl
 clear hrt hl
 go_enter Tryz.func134,Tryz.ntmps134
 go_wp2_with fail
 refine(HRT.out _ (log_bl HL.out (bl_alloc (bl_alloc (bl_refl _) _) _))).mono ?_
 rintro e w1 ⟨rfl,hb⟩
 have hx:Below w.heap.size w w1:=bl_then (bl_alloc (bl_alloc (bl_refl _) _) _) hb
 have hsz1:w.heap.size+2≤w1.heap.size:=szl hb
 obtain⟨p0,p1,p2,p3,p4,p5⟩:=b6 (w.heap.size) k l d b cc o hb
 obtain⟨s0,s1,s2,s3⟩:=b4 (w.heap.size+1) at_ level held a n c hb
 have sR:=res_bl (b:=w.heap.size+1) (res_new _ _ _ _ _ _ (by simp)) hb
 have hB:Below w.heap.size w w1:=hx
 have lb_p:=lbc p0
 have lb_s:=lbc s0
 clear hb hx
 go_wp2_with fail
 go_ret
 exact⟨rfl,hB⟩
theorem r6room_yes (p:Pol) (s:St) (a:Option Addr) (n c:Nat) (now:Int) (w:World) (hl:LogAt w a n c s.log) (h:rightL p s)  : Calls Tryz.prog 134 #[p.v,s.v a n c,.int .i64 now] w fun e w'=>e=.returned (.int .i64 (roomL p s now))∧Below w.heap.size w w':=by
 have hrt:=fun w hw=>r6right_any p s a n c w hw
 rw[decide_eq_true h] at hrt
 have hav:=fun w hw=>r6adv_any p s a n c now w hw
 unfold PostS at hav
 have hnn:=advL_n (now:=now) h
 have hd:=h.1.2.2.1
 have hD:=h.1.2.2.2.2.2.1
 have hlm:=h.1.2.2.2.2.1
 have hh0:=h.2.2.2.1
 have hat:=h.2.1
 have hat2:=h.2.2.1
 have hn100:n≤100:=by have h1:=h.2.2.2.2.2.2.2.1;have h2:=h.1.2.2.2.2.2.2.1;have h3:=hl.1;omega
 have hT:s.at_≤up s.at_ (clampT now)∧up s.at_ (clampT now)≤9007199254740992:=by have h7:=clampT_range now;unfold up;split <;> omega
 have hus:=fun w hw=>r6used_any p s a n c (up s.at_ (clampT now)) w hw (by omega) (rightL_bound h) (by omega)
 rw[advL_used h] at hus
 have hcl:=rclamp_bl now
 have hmx:(if s.at_<clampT now then clampT now else s.at_)=up s.at_ (clampT now):=rfl
 unfold roomL
 rw[if_pos h]
 clear h
 obtain⟨k,l,d,b,cc,o⟩:=p
 obtain⟨at_,level,held,L⟩:=s
 unfold St.v Pol.v at *
 dsimp only at *
 generalize up at_ (clampT now)=T at *
 generalize clampT now=CT at *
 obtain⟨-,-,g0,g1,-⟩:=hnn
 generalize sumL (advL _ _ now).log=SM at *
 have wa1:IntKind.i64.wrap (l - held)=l - held:=IntWalk.i64_in _ (by omega)
 have wa2:IntKind.i64.wrap (l - held - SM)=l - held - SM:=IntWalk.i64_in _ (by omega)
 clear g0 g1 hd hD hlm hh0 hat hat2 hT hav
 have hav:True:=trivial
 have HUS:=Go.Lib.hid hus
 have HCL:=Go.Lib.hid hcl
 clear hus hcl
 have HRT:=Go.Lib.hid hrt
 have HAV:=Go.Lib.hid hav
 have HL:=Go.Lib.hid hl
 clear hrt hav hl
 go_enter Tryz.func134,Tryz.ntmps134
 go_wp2_with fail
 refine(HRT.out _ (log_bl HL.out (bl_alloc (bl_alloc (bl_refl _) _) _))).mono ?_
 rintro e w1 ⟨rfl,hb⟩
 have hx:Below w.heap.size w w1:=bl_then (bl_alloc (bl_alloc (bl_refl _) _) _) hb
 have hsz1:w.heap.size+2≤w1.heap.size:=szl hb
 obtain⟨p0,p1,p2,p3,p4,p5⟩:=b6 (w.heap.size) k l d b cc o hb
 obtain⟨s0,s1,s2,s3⟩:=b4 (w.heap.size+1) at_ level held a n c hb
 have sR:=res_bl (b:=w.heap.size+1) (res_new _ _ _ _ _ _ (by simp)) hb
 have hB:Below w.heap.size w w1:=hx
 have lb_p:=lbc p0
 have lb_s:=lbc s0
 clear hb hx
 go_wp2_with fail
 refine wp_region_held_drew (S:=fun w'=>P6 w' (w.heap.size) k l d b cc o (S4 w' (w.heap.size+1) at_ level held a n c (ResB w' (w.heap.size+1)∧Below w.heap.size w w'))) (by kernel_rfl) ?_ (fun hHeld=>?_)
 ·exact⟨p0,p1,p2,p3,p4,p5,s0,s1,s2,s3,sR,bl_drew hB⟩
 try simp only[Act.put,List.setIfInBounds_toArray,List.set_cons_zero,List.set_cons_succ]
 refine tkx 0 ?_
 refine tkx 1 ?_
 refine tkx 2 ?_
 refine tkx 3 ?_
 refine tkx 4 ?_
 refine tkx 5 ?_
 refine tkx 6 ?_
 refine tkx 7 ?_
 refine tkx 8 ?_
 refine tkx 9 ?_
 (refine callH (i:=10) rfl hHeld (fun W hW K hK=>?_);clear hHeld;(try dsimp only at hW);obtain⟨h_p0,h_p1,h_p2,h_p3,h_p4,h_p5,h_s0,h_s1,h_s2,h_s3,h_sR,h_B⟩:=hW;go_simp;refine(HCL.out W).mono ?_;rintro e w9 ⟨rfl,hb⟩;go_wp2_with fail;refine hK.out _ _ ?_ (fun hHeld=>?_);(focus((try dsimp only);exact⟨bl_cell hb h_p0,bl_cell hb h_p1,bl_cell hb h_p2,bl_cell hb h_p3,bl_cell hb h_p4,bl_cell hb h_p5,bl_cell hb h_s0,bl_cell hb h_s1,bl_cell hb h_s2,bl_cell hb h_s3,res_bl h_sR hb,bl_then h_B hb⟩));clear hK K;clear h_p0 h_p1 h_p2 h_p3 h_p4 h_p5 h_s0 h_s1 h_s2 h_s3 h_sR h_B;try simp only[Act.put,List.setIfInBounds_toArray,List.set_cons_zero,List.set_cons_succ])
 refine tkx 11 ?_
 (refine callH (i:=12) rfl hHeld (fun W hW K hK=>?_);clear hHeld;(try dsimp only at hW);obtain⟨h_p0,h_p1,h_p2,h_p3,h_p4,h_p5,h_s0,h_s1,h_s2,h_s3,h_sR,h_B⟩:=hW;go_simp;refine(HUS.out W (log_bl HL.out h_B)).mono ?_;rintro e w9 ⟨rfl,hb⟩;go_wp2_with fail;refine hK.out _ _ ?_ (fun hHeld=>?_);(focus((try dsimp only);exact⟨bl_cell hb h_p0,bl_cell hb h_p1,bl_cell hb h_p2,bl_cell hb h_p3,bl_cell hb h_p4,bl_cell hb h_p5,bl_cell hb h_s0,bl_cell hb h_s1,bl_cell hb h_s2,bl_cell hb h_s3,res_bl h_sR hb,bl_then h_B hb⟩));clear hK K;clear h_p0 h_p1 h_p2 h_p3 h_p4 h_p5 h_s0 h_s1 h_s2 h_s3 h_sR h_B;try simp only[Act.put,List.setIfInBounds_toArray,List.set_cons_zero,List.set_cons_succ])
 refine tkx 13 ?_
 refine tkx 14 ?_
 refine wpAnyH_done (by kernel_rfl) ?_ _
 refine then_abs (F:=fun w'=>P6 w' (w.heap.size) k l d b cc o (S4 w' (w.heap.size+1) at_ level held a n c (ResB w' (w.heap.size+1)∧Below w.heap.size w w'))) hHeld ?_
 clear hHeld hB p0 p1 p2 p3 p4 p5 s0 s1 s2 s3 sR
 rintro w2 ⟨p0,p1,p2,p3,p4,p5,s0,s1,s2,s3,sR,hB⟩
 replace lb_p:=lbc p0
 replace lb_s:=lbc s0
 go_wp2_with fail
 go_ret
 exact⟨rfl,hB⟩
theorem r6room_any (p:Pol) (s:St) (a:Option Addr) (n c:Nat) (now:Int) (w:World) (hl:LogAt w a n c s.log):Calls Tryz.prog 134 #[p.v,s.v a n c,.int .i64 now] w fun e w'=>e=.returned (.int .i64 (roomL p s now))∧Below w.heap.size w w':=by
 by_cases h:rightL p s
 ·exact r6room_yes p s a n c now w hl h
 ·exact r6room_no p s a n c now w hl h
theorem r6until_no (p:Pol) (s:St) (a:Option Addr) (n c:Nat) (now:Int) (w:World) (hl:LogAt w a n c s.log) (h:¬ rightL p s):Calls Tryz.prog 50 #[p.v,s.v a n c,.int .i64 now] w fun e w'=>e=.returned (.int .i64 (untilL p s now))∧Below w.heap.size w w':=by
 have hrt:=fun w hw=>r6right_any p s a n c w hw
 unfold untilL
 rw[if_neg (fun z=>h z.1)]
 rw[decide_eq_false h] at hrt
 clear h
 obtain⟨k,l,d,b,cc,o⟩:=p
 obtain⟨at_,level,held,L⟩:=s
 unfold St.v Pol.v at *
 dsimp only at *
 have HRT:=Go.Lib.hid hrt
 have HL:=Go.Lib.hid hl
 clear hrt hl
 go_enter Tryz.func50,Tryz.ntmps50
 go_wp2_with fail
 refine(HRT.out _ (log_bl HL.out (bl_alloc (bl_alloc (bl_refl _) _) _))).mono ?_
 rintro e w1 ⟨rfl,hb⟩
 have hx:Below w.heap.size w w1:=bl_then (bl_alloc (bl_alloc (bl_refl _) _) _) hb
 have hsz1:w.heap.size+2≤w1.heap.size:=szl hb
 obtain⟨p0,p1,p2,p3,p4,p5⟩:=b6 (w.heap.size) k l d b cc o hb
 obtain⟨s0,s1,s2,s3⟩:=b4 (w.heap.size+1) at_ level held a n c hb
 have sR:=res_bl (b:=w.heap.size+1) (res_new _ _ _ _ _ _ (by simp)) hb
 have hB:Below w.heap.size w w1:=hx
 have lb_p:=lbc p0
 have lb_s:=lbc s0
 clear hb hx
 go_wp2_with fail
 go_ret
 exact⟨rfl,hB⟩
theorem r6until_held (p:Pol) (s:St) (a:Option Addr) (n c:Nat) (now:Int) (w:World) (hl:LogAt w a n c s.log) (h:rightL p s) (hh:0<s.held):Calls Tryz.prog 50 #[p.v,s.v a n c,.int .i64 now] w fun e w'=>e=.returned (.int .i64 (untilL p s now))∧Below w.heap.size w w':=by
 have hrt:=fun w hw=>r6right_any p s a n c w hw
 unfold untilL
 rw[if_neg (fun z=>by have:=z.2;omega)]
 rw[decide_eq_true h] at hrt
 clear h
 obtain⟨k,l,d,b,cc,o⟩:=p
 obtain⟨at_,level,held,L⟩:=s
 unfold St.v Pol.v at *
 dsimp only at *
 have HRT:=Go.Lib.hid hrt
 have HL:=Go.Lib.hid hl
 clear hrt hl
 go_enter Tryz.func50,Tryz.ntmps50
 go_wp2_with fail
 refine(HRT.out _ (log_bl HL.out (bl_alloc (bl_alloc (bl_refl _) _) _))).mono ?_
 rintro e w1 ⟨rfl,hb⟩
 have hx:Below w.heap.size w w1:=bl_then (bl_alloc (bl_alloc (bl_refl _) _) _) hb
 have hsz1:w.heap.size+2≤w1.heap.size:=szl hb
 obtain⟨p0,p1,p2,p3,p4,p5⟩:=b6 (w.heap.size) k l d b cc o hb
 obtain⟨s0,s1,s2,s3⟩:=b4 (w.heap.size+1) at_ level held a n c hb
 have sR:=res_bl (b:=w.heap.size+1) (res_new _ _ _ _ _ _ (by simp)) hb
 have hB:Below w.heap.size w w1:=hx
 have lb_p:=lbc p0
 have lb_s:=lbc s0
 clear hb hx
 go_wp2_with fail
 go_ret
 exact⟨rfl,hB⟩
theorem r6until_yes (p:Pol) (s:St) (a:Option Addr) (n c:Nat) (now:Int) (w:World) (hl:LogAt w a n c s.log) (h:rightL p s) (hh:s.held≤0):Calls Tryz.prog 50 #[p.v,s.v a n c,.int .i64 now] w fun e w'=>e=.returned (.int .i64 (untilL p s now))∧Below w.heap.size w w':=by
 have hrt:=fun w hw=>r6right_any p s a n c w hw
 rw[decide_eq_true h] at hrt
 have hav:=fun w hw=>r6adv_any p s a n c now w hw
 unfold PostS at hav
 have hnn:=advL_n (now:=now) h
 have hd:=h.1.2.2.1
 have hD:=h.1.2.2.2.2.2.1
 have hlm:=h.1.2.2.2.2.1
 have hh0:=h.2.2.2.1
 have hat:=h.2.1
 have hat2:=h.2.2.1
 have hn100:n≤100:=by have h1:=h.2.2.2.2.2.2.2.1;have h2:=h.1.2.2.2.2.2.2.1;have h3:=hl.1;omega
 rw[until_ref h hh]
 have hbd:∀ e ∈ (advL p s now).log,0≤e.1∧e.1≤9007199254740992:=fun e he=>by
  have h1:=(live_sub p.period (up s.at_ (clampT now)) s.log).1 e (by rw[advL_all h] at he;exact he)
  have h2:=risen_all h.2.2.2.2.2.2.1 e h1
  omega
 generalize advL p s now=A at *
 obtain⟨aat,alv,ahd,alg⟩:=A
 clear h
 obtain⟨k,l,d,b,cc,o⟩:=p
 obtain⟨at_,level,held,L⟩:=s
 unfold St.v Pol.v at *
 dsimp only at *
 obtain⟨g0,g1,-,-,g2,g3,-⟩:=hnn
 have hh':¬ 0<held:=by omega
 have hs:∀ n1,alg.length=n1→(∀ j,j<n1→∃ E,(alg.getD j (0,0)).1=E∧0≤E∧E≤9007199254740992∧maxL d aat 0 (alg.take (j+1))=up (maxL d aat 0 (alg.take j)) (E+d - aat))∧maxL d aat 0 (alg.take n1)=maxL d aat 0 alg:=fun n1 hn1=>⟨fun j hj=>by
  have hj':j<alg.length:=by omega
  have h3:alg.getD j (0,0) ∈ alg:=by rw[List.getD_eq_getElem?_getD,List.getElem?_eq_getElem hj'];exact List.getElem_mem hj'
  have h4:=hbd _ h3
  exact⟨_,rfl,h4.1,h4.2,maxL_take d aat 0 alg j hj'⟩,by rw[← hn1,List.take_length]⟩
 have hz:maxL d aat 0 (alg.take 0)=0:=rfl
 generalize maxL d aat 0 alg=R at *
 generalize hF:(fun j=>maxL d aat 0 (alg.take j))=F at *
 have HSA:=Go.Lib.hid (show ∀ n1,alg.length=n1→(∀ j,j<n1→∃ E,(alg.getD j (0,0)).1=E∧0≤E∧E≤9007199254740992∧F (j+1)=up (F j) (E+d - aat))∧F n1=R by rw[← hF];exact hs)
 have HZ:=Go.Lib.hid (show F 0=0 by rw[← hF];rfl)
 have HN:=Go.Lib.hid g0
 have HB:=Go.Lib.hid (And.intro g2 (And.intro g3 (And.intro hd hD)))
 clear hs hz hF hbd g0 g1 g2 g3 hlm hh0 hat hat2 hh hn100
 have HRT:=Go.Lib.hid hrt
 have HAV:=Go.Lib.hid hav
 have HL:=Go.Lib.hid hl
 clear hrt hav hl
 go_enter Tryz.func50,Tryz.ntmps50
 go_wp2_with fail
 refine(HRT.out _ (log_bl HL.out (bl_alloc (bl_alloc (bl_refl _) _) _))).mono ?_
 rintro e w1 ⟨rfl,hb⟩
 have hx:Below w.heap.size w w1:=bl_then (bl_alloc (bl_alloc (bl_refl _) _) _) hb
 have hsz1:w.heap.size+2≤w1.heap.size:=szl hb
 obtain⟨p0,p1,p2,p3,p4,p5⟩:=b6 (w.heap.size) k l d b cc o hb
 obtain⟨s0,s1,s2,s3⟩:=b4 (w.heap.size+1) at_ level held a n c hb
 have sR:=res_bl (b:=w.heap.size+1) (res_new _ _ _ _ _ _ (by simp)) hb
 have hB:Below w.heap.size w w1:=hx
 have lb_p:=lbc p0
 have lb_s:=lbc s0
 clear hb hx
 go_wp2_with fail
 refine(HAV.out _ (log_bl HL.out (hB))).mono ?_
 rintro e w2 ⟨a1,n1,c1,rfl,hl1,-,hb⟩
 have hsz2:w1.heap.size+0≤w2.heap.size:=szl hb
 replace p0:=bl_cell hb p0
 replace p1:=bl_cell hb p1
 replace p2:=bl_cell hb p2
 replace p3:=bl_cell hb p3
 replace p4:=bl_cell hb p4
 replace p5:=bl_cell hb p5
 replace s0:=bl_cell hb s0
 replace s1:=bl_cell hb s1
 replace s2:=bl_cell hb s2
 replace s3:=bl_cell hb s3
 replace sR:=res_bl sR hb
 replace hB:Below w.heap.size w w2:=bl_then hB hb
 replace lb_p:=lbc p0
 replace lb_s:=lbc s0
 clear hb
 go_wp2_with fail
 skip
 refine wp_abs (S0:=fun X=>(fun w'=>P6 w' (w.heap.size) k l d b cc o (S4 w' (w.heap.size+1) at_ level held a n c (ResB w' (w.heap.size+1)∧LogAt w' a1 n1 c1 alg∧S4 w' (w2.heap.size) aat alv ahd a1 n1 c1 (Below w.heap.size w w')))) X∧w2.heap.size+1≤X.heap.size) ⟨⟨bl_cell (bl_alloc (bl_refl _) _) p0,bl_cell (bl_alloc (bl_refl _) _) p1,bl_cell (bl_alloc (bl_refl _) _) p2,bl_cell (bl_alloc (bl_refl _) _) p3,bl_cell (bl_alloc (bl_refl _) _) p4,bl_cell (bl_alloc (bl_refl _) _) p5,bl_cell (bl_alloc (bl_refl _) _) s0,bl_cell (bl_alloc (bl_refl _) _) s1,bl_cell (bl_alloc (bl_refl _) _) s2,bl_cell (bl_alloc (bl_refl _) _) s3,res_bl sR (bl_alloc (bl_refl _) _),log_bl hl1 (bl_alloc (bl_refl _) _),by go_simp,by go_simp,by go_simp,by go_simp,bl_alloc (hB) _⟩,by simp⟩ ?_
 clear p0 p1 p2 p3 p4 p5 s0 s1 s2 s3 sR hl1 hB
 rintro w3 ⟨⟨p0,p1,p2,p3,p4,p5,s0,s1,s2,s3,sR,hl1,t0,t1,t2,t3,hB⟩,hsz3⟩
 replace lb_p:=lbc p0
 replace lb_s:=lbc s0
 have lb_t:=lbc t0
 have hn1:n1≤100:=by have:=hl1.1;have:=HN.out;omega
 have HS:=Go.Lib.hid (HSA.out n1 hl1.1)
 clear HSA HN
 go_loopw [8,9] (fun s8 s9 wr=>∃ j:Nat,s9=.int .i64 j∧j≤n1∧s8=.int .i64 (F j)∧Hid ((fun w'=>P6 w' (w.heap.size) k l d b cc o (S4 w' (w.heap.size+1) at_ level held a n c (ResB w' (w.heap.size+1)∧LogAt w' a1 n1 c1 alg∧S4 w' (w2.heap.size) aat alv ahd a1 n1 c1 (Below w.heap.size w w')))) wr)) (fun _ s9 _=>n1 - (intOf s9).toNat)
 case atStart=>exact⟨0,rfl,Nat.zero_le _,by rw[HZ.out],⟨p0,p1,p2,p3,p4,p5,s0,s1,s2,s3,sR,hl1,t0,t1,t2,t3,hB⟩⟩
 case round =>
  obtain⟨j,rfl,hj,rfl,H⟩:=hrel
  replace H:=H.out
  clear hB p0 p1 p2 p3 p4 p5 s0 s1 s2 s3 sR hl1 t0 t1 t2 t3
  obtain⟨p0,p1,p2,p3,p4,p5,s0,s1,s2,s3,sR,hl1,t0,t1,t2,t3,hB⟩:=H
  replace lb_p:=lbc p0
  replace lb_s:=lbc s0
  replace lb_t:=lbc t0
  by_cases hjn:j<n1
  ·obtain⟨E,hT,b0,b1,hst⟩:=HS.out.1 j hjn
   have HST:=Go.Lib.hid hst
   obtain⟨c0,c1',-⟩:=HB.out
   obtain⟨eb,eo,rfl,e0,-⟩:=hl1.2.2.2 j hjn
   rw[hT] at e0
   generalize F j=FJ at *
   have k0:(0:Int)≤(j:Int):=by omega
   have k1:(j:Int)<(n1:Int):=by omega
   have hj1:j+1≤n1:=hjn
   have hms:n1 - (j+1)<n1 - j:=by omega
   have wj:IntKind.i64.wrap ((j:Int)+1)=(j:Int)+1:=IntWalk.i64_in _ (by omega)
   have wb1:IntKind.i64.wrap (E+d)=E+d:=IntWalk.i64_in _ (by omega)
   have wb2:IntKind.i64.wrap (E+d - aat)=E+d - aat:=IntWalk.i64_in _ (by omega)
   have hup:(if FJ<E+d - aat then E+d - aat else FJ)=up FJ (E+d - aat):=rfl
   clear hT b0 b1 hst c0 c1'
   go_wp2_with fail
   refine wp_region_held_drew (S:=fun w'=>P6 w' (w.heap.size) k l d b cc o (S4 w' (w.heap.size+1) at_ level held a n c (ResB w' (w.heap.size+1)∧LogAt w' (some ⟨eb,eo,none⟩) n1 c1 alg∧S4 w' (w2.heap.size) aat alv ahd (some ⟨eb,eo,none⟩) n1 c1 (w'.cell? ⟨eb,eo+j*2,none⟩=some (.int .i64 E)∧Below w.heap.size w w')))) (by kernel_rfl) ?_ (fun hHeld=>?_)
   ·exact⟨p0,p1,p2,p3,p4,p5,s0,s1,s2,s3,sR,hl1,t0,t1,t2,t3,e0,bl_drew hB⟩
   try simp only[Act.put,List.setIfInBounds_toArray,List.set_cons_zero,List.set_cons_succ]
   refine tkx 0 ?_
   refine tkx 1 ?_
   refine tkx 2 ?_
   refine tkx 3 ?_
   refine tkx 4 ?_
   refine tkx 5 ?_
   refine tkx 6 ?_
   refine tkx 7 ?_
   refine tkx 8 ?_
   refine tkx 9 ?_
   refine tkx 10 ?_
   refine tkx 11 ?_
   refine tkx 12 ?_
   refine tkx 13 ?_
   refine tkx 14 ?_
   refine wpAnyH_done (by kernel_rfl) ?_ _
   clear hB p0 p1 p2 p3 p4 p5 s0 s1 s2 s3 sR hl1 t0 t1 t2 t3 e0
   obtain⟨p0,p1,p2,p3,p4,p5,s0,s1,s2,s3,sR,hl1,t0,t1,t2,t3,e0,hB⟩:=hHeld
   go_wp2_with fail
   go_roundw
   case rel=>exact⟨j+1,by go_num,hj1,by rw[HST.out],⟨p0,p1,p2,p3,p4,p5,s0,s1,s2,s3,sR,hl1,t0,t1,t2,t3,hB⟩⟩
   case measure=>(simp[intOf];first|exact hms|omega)
  ·have hje:j=n1:=by omega
   subst hje
   rw[HS.out.2]
   go_wp2_with fail
   go_ret
   exact⟨rfl,hB⟩
theorem r6until_any (p:Pol) (s:St) (a:Option Addr) (n c:Nat) (now:Int) (w:World) (hl:LogAt w a n c s.log):Calls Tryz.prog 50 #[p.v,s.v a n c,.int .i64 now] w fun e w'=>e=.returned (.int .i64 (untilL p s now))∧Below w.heap.size w w':=by
 by_cases h:rightL p s
 ·by_cases hh:s.held≤0
  ·exact r6until_yes p s a n c now w hl h hh
  ·exact r6until_held p s a n c now w hl h (by omega)
 ·exact r6until_no p s a n c now w hl h
end Go.Proofs.YtmhikkbdhboodaaGreat
