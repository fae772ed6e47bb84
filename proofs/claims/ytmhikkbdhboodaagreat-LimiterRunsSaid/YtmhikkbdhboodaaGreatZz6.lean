/-
  What window.New answers.
  What bucket.Room answers.
  What gcra.Room answers.
  What counter.next, Room, Until and Retry answer.
  What window.Room answers.
  What limiter.Do, New and Room answer.
  Acts, one behind the other, in plain words; acts and answers in memory; a log put behind nothing.
  An entry put behind entries of one's own, in a region whose order is drawn.
  What tapsterref01.Of, cmp, number, times and Mul answer, of numbers that are not below 0.
  What tapsterref05.Advance answers.
  What tapsterref05.Room, Until and Retry answer.
  No condition.
-/
import Derived.Test.YtmhikkbdhboodaaGreatZz1
import Derived.Test.YtmhikkbdhboodaaGreatZz2
import Derived.Test.YtmhikkbdhboodaaGreatZz5
import Derived.Laws.AppendOwn
import Derived.Laws.OwnMore
import Derived.ArgAppend
set_option maxHeartbeats 8000000
set_option maxRecDepth 100000
namespace Go.Proofs.YtmhikkbdhboodaaGreat
open Go.RowKit
set_option linter.unusedVariables false
set_option linter.unusedSimpArgs false

theorem wnew_any (p:Pol) (now:Int) (w:World):Calls Tryz.prog 104 #[p.v,.int .i64 now] w fun e w'=>e=.returned ((newL p now).v none 0 0)∧Below w.heap.size w w':=by
  have hck:=wcheck_any p
  unfold newL
  by_cases h:okL p
  · rw[if_pos h]
    rw[show chkL p=0 from if_pos h] at hck
    clear h
    obtain⟨k,l,d,b,cc,o⟩:=p
    have hcl:=clamp_any now
    unfold St.v Pol.v at *
    dsimp only at *
    generalize clampT now=T at *
    have HCK:=Go.Lib.hid hck
    have HCL:=Go.Lib.hid hcl
    clear hcl hck
    go_enter Tryz.func104,Tryz.ntmps104
    go_wp2_with fail
    refine(HCK.out _).mono ?_
    rintro e w1 ⟨rfl,hb⟩
    have hB:Below w.heap.size w w1:=bl_then k2 hb
    obtain⟨c0,c1,c2,c3,c4,c5⟩:=b6 (w.heap.size) k l d b cc o hb
    have hR:ResB w1 (w.heap.size+1):=res_bl (res_new _ _ _ _ _ _ (by simp)) hb
    clear hb HCK
    go_wp2_with fail
    refine(HCL.out _).mono ?_
    rintro e w2 ⟨rfl,rfl⟩
    obtain⟨f0,f1,f2,f3,u0,u1,u2,u3,i0,i1,i2,i3⟩:=res_all hR
    go_wp2_with fail
    (try simp only[Exit.inBlock,Exit.then])
    refine bodyPost_ret (results_state rfl _ _ (by rfl) (set4 _ _ _ _ i0 i1 i2 i3)) rfl ⟨by first|rfl|simp,bl4 hB (by omega)⟩
  · rw[if_neg h]
    rw[show chkL p=2 from if_neg h] at hck
    clear h
    unfold St.v Pol.v at *
    have HCK:=Go.Lib.hid hck
    clear hck
    unfold St.none
    go_enter Tryz.func104,Tryz.ntmps104
    go_wp2_with fail
    refine(HCK.out _).mono ?_
    rintro e w1 ⟨rfl,hb⟩
    have hB:Below w.heap.size w w1:=bl_then k2 hb
    have hR:ResB w1 (w.heap.size+1):=res_bl (res_new _ _ _ _ _ _ (by simp)) hb
    obtain⟨f0,f1,f2,f3,u0,u1,u2,u3,i0,i1,i2,i3⟩:=res_all hR
    clear hb HCK
    go_wp2_with fail
    (try simp only[Exit.inBlock,Exit.then])
    refine bodyPost_ret (results_state rfl _ _ (by rfl) (set4 _ _ _ _ i0 i1 i2 i3)) rfl ⟨by first|rfl|simp,bl4 hB (by omega)⟩
theorem broom_any (p:Pol) (s:St) (a:Option Addr) (n c:Nat) (now:Int) (hn:s.log.length=n) (w:World):Calls Tryz.prog 123 #[p.v,s.v a n c,.int .i64 now] w fun e w'=>e=.returned (.int .i64 (roomB p s now))∧Below w.heap.size w w':=by
  have hrt:=bright_any p s a n c hn
  have hav:=badv_any p s a n c now hn
  unfold roomB
  by_cases h:rightB p s
  · rw[if_pos h]
    rw[decide_eq_true h] at hrt
    have hpd:1≤p.period:=h.1.2.2.2.1
    have hlv:=advB_level p s now h
    have r7:=h.2.2.2.2.2.2.2
    rw[r7] at hn
    subst hn
    generalize advB p s now=A at *
    obtain⟨aat,alv,ahd,alg⟩:=A
    clear h r7
    obtain⟨k,l,d,b,cc,o⟩:=p
    obtain⟨at_,level,held,lg⟩:=s
    unfold St.v Pol.v at *
    dsimp only[List.length_nil] at *
    have hq:Int.tdiv alv d=alv / d:=Int.tdiv_eq_ediv_of_nonneg hlv.1
    have hq0:¬ d=0:=by omega
    have hq1:0≤alv / d:=Int.ediv_nonneg hlv.1 (by omega)
    have hq2:alv / d≤alv:=Int.ediv_le_self _ hlv.1
    have hq3:IntKind.i64.wrap (alv / d)=alv / d:=IntWalk.i64_in _ (by omega)
    have HRT:=Go.Lib.hid hrt
    have HAV:=Go.Lib.hid hav
    clear hrt hav hlv hq1 hq2 hpd
    have FL:=fld_level
    go_enter Tryz.func123,Tryz.ntmps123
    go_wp2_with fail
    refine(HRT.out _).mono ?_
    rintro e w1 ⟨rfl,hb⟩
    have hB:Below w.heap.size w w1:=bl_then k2 hb
    obtain⟨c0,c1,c2,c3,c4,c5⟩:=b6 (w.heap.size) k l d b cc o hb
    have c6:=bl_cell (v:=.int .i64 at_) hb (show World.cell? _ ⟨w.heap.size+1,0,none⟩=_ by go_simp)
    have c7:=bl_cell (v:=.int .i64 level) hb (show World.cell? _ ⟨w.heap.size+1,1,none⟩=_ by go_simp)
    have c8:=bl_cell (v:=.int .i64 held) hb (show World.cell? _ ⟨w.heap.size+1,2,none⟩=_ by go_simp)
    have c9:=bl_cell (v:=.slice a 0 c) hb (show World.cell? _ ⟨w.heap.size+1,3,none⟩=_ by go_simp)
    clear hb HRT
    go_wp2_with fail
    refine wp_region_held_drew (S:=fun w'=>P6 w' (w.heap.size) k l d b cc o (S4 w' (w.heap.size+1) at_ level held a 0 c (Below w.heap.size w w'))) (by kernel_rfl) ?_ (fun hHeld=>?_)
    · exact⟨c0,c1,c2,c3,c4,c5,c6,c7,c8,c9,bl_drew hB⟩
    try simp only[Act.put,List.setIfInBounds_toArray,List.set_cons_zero,List.set_cons_succ]
    all_goals refine tkx 0 ?_
    all_goals refine tkx 1 ?_
    all_goals refine tkx 2 ?_
    all_goals refine tkx 5 ?_
    all_goals refine tkx 6 ?_
    all_goals((refine callH (i:=3) rfl hHeld (fun W hW K hK=>?_);clear hHeld;(try dsimp only at hW);go_simp;refine(HAV.out _).mono ?_;rintro e w1 ⟨rfl,hb⟩;go_wp2_with fail;refine hK.out _ _ ?_ (fun hHeld=>?_);(focus((try dsimp only);(obtain⟨h0,h1,h2,h3,h4,h5,h6,h7,h8,h9,hB'⟩:=hW;exact⟨bl_cell hb h0,bl_cell hb h1,bl_cell hb h2,bl_cell hb h3,bl_cell hb h4,bl_cell hb h5,bl_cell hb h6,bl_cell hb h7,bl_cell hb h8,bl_cell hb h9,bl_then hB' hb⟩)));clear hK K;try simp only[Act.put,List.setIfInBounds_toArray,List.set_cons_zero,List.set_cons_succ]))
    all_goals refine tkx 4 ?_
    all_goals refine tkx 7 ?_
    all_goals refine tkx 8 ?_
    all_goals(refine wpAnyH_done (by kernel_rfl) ?_ _)
    obtain⟨-,-,-,-,-,-,-,-,-,-,hE⟩:=hHeld
    go_wp2
    go_ret
    exact⟨rfl,hE⟩
  · rw[if_neg h]
    rw[decide_eq_false h] at hrt
    clear h hav
    unfold St.v Pol.v at *
    have HRT:=Go.Lib.hid hrt
    clear hrt
    go_enter Tryz.func123,Tryz.ntmps123
    go_wp2_with fail
    refine(HRT.out _).mono ?_
    rintro e w1 ⟨rfl,hb⟩
    have hB:Below w.heap.size w w1:=bl_then k2 hb
    clear hb HRT
    go_wp2
    go_ret
    exact⟨rfl,hB⟩
theorem groom_any (p:Pol) (s:St) (a:Option Addr) (n c:Nat) (now:Int) (hn:s.log.length=n) (w:World):Calls Tryz.prog 99 #[p.v,s.v a n c,.int .i64 now] w fun e w'=>e=.returned (.int .i64 (roomG p s now))∧Below w.heap.size w w':=by
  have hrt:=gright_any p s a n c hn
  have hav:=gadv_any p s a n c now hn
  unfold roomG
  by_cases h:rightG p s
  · rw[if_pos h]
    rw[decide_eq_true h] at hrt
    have hpd:1≤p.period:=h.1.2.2.2.2.2.2.1
    have hlv:=advG_level p s now h
    have r7:=h.2.2.2.2.2.2.2
    rw[r7] at hn
    subst hn
    generalize advG p s now=A at *
    obtain⟨aat,alv,ahd,alg⟩:=A
    clear h r7
    obtain⟨k,l,d,b,cc,o⟩:=p
    obtain⟨at_,level,held,lg⟩:=s
    unfold St.v Pol.v at *
    dsimp only[List.length_nil] at *
    have hq:Int.tdiv (b*d - alv) d=(b*d - alv) / d:=Int.tdiv_eq_ediv_of_nonneg (by omega)
    have hq0:¬ d=0:=by omega
    have hq1:0≤(b*d - alv) / d:=Int.ediv_nonneg (by omega) (by omega)
    have hq2:(b*d - alv) / d≤b*d - alv:=Int.ediv_le_self _ (by omega)
    have hq3:IntKind.i64.wrap ((b*d - alv) / d)=(b*d - alv) / d:=IntWalk.i64_in _ (by omega)
    have hw1:IntKind.i64.wrap (b*d)=b*d:=IntWalk.i64_in _ (by omega)
    have hw2:IntKind.i64.wrap (b*d - alv)=b*d - alv:=IntWalk.i64_in _ (by omega)
    have HRT:=Go.Lib.hid hrt
    have HAV:=Go.Lib.hid hav
    clear hrt hav hlv hq1 hq2 hpd
    have FL:=fld_level
    go_enter Tryz.func99,Tryz.ntmps99
    go_wp2_with fail
    refine(HRT.out _).mono ?_
    rintro e w1 ⟨rfl,hb⟩
    have hB:Below w.heap.size w w1:=bl_then k2 hb
    obtain⟨c0,c1,c2,c3,c4,c5⟩:=b6 (w.heap.size) k l d b cc o hb
    have c6:=bl_cell (v:=.int .i64 at_) hb (show World.cell? _ ⟨w.heap.size+1,0,none⟩=_ by go_simp)
    have c7:=bl_cell (v:=.int .i64 level) hb (show World.cell? _ ⟨w.heap.size+1,1,none⟩=_ by go_simp)
    have c8:=bl_cell (v:=.int .i64 held) hb (show World.cell? _ ⟨w.heap.size+1,2,none⟩=_ by go_simp)
    have c9:=bl_cell (v:=.slice a 0 c) hb (show World.cell? _ ⟨w.heap.size+1,3,none⟩=_ by go_simp)
    clear hb HRT
    go_wp2_with fail
    refine wp_region_held_drew (S:=fun w'=>P6 w' (w.heap.size) k l d b cc o (S4 w' (w.heap.size+1) at_ level held a 0 c (Below w.heap.size w w'))) (by kernel_rfl) ?_ (fun hHeld=>?_)
    · exact⟨c0,c1,c2,c3,c4,c5,c6,c7,c8,c9,bl_drew hB⟩
    try simp only[Act.put,List.setIfInBounds_toArray,List.set_cons_zero,List.set_cons_succ]
    all_goals refine tkx 0 ?_
    all_goals refine tkx 1 ?_
    all_goals refine tkx 2 ?_
    all_goals refine tkx 3 ?_
    all_goals refine tkx 4 ?_
    all_goals refine tkx 5 ?_
    all_goals refine tkx 6 ?_
    all_goals refine tkx 7 ?_
    all_goals refine tkx 11 ?_
    all_goals refine tkx 12 ?_
    all_goals((refine callH (i:=8) rfl hHeld (fun W hW K hK=>?_);clear hHeld;(try dsimp only at hW);go_simp;refine(HAV.out _).mono ?_;rintro e w1 ⟨rfl,hb⟩;go_wp2_with fail;refine hK.out _ _ ?_ (fun hHeld=>?_);(focus((try dsimp only);(obtain⟨h0,h1,h2,h3,h4,h5,h6,h7,h8,h9,hB'⟩:=hW;exact⟨bl_cell hb h0,bl_cell hb h1,bl_cell hb h2,bl_cell hb h3,bl_cell hb h4,bl_cell hb h5,bl_cell hb h6,bl_cell hb h7,bl_cell hb h8,bl_cell hb h9,bl_then hB' hb⟩)));clear hK K;try simp only[Act.put,List.setIfInBounds_toArray,List.set_cons_zero,List.set_cons_succ]))
    all_goals refine tkx 9 ?_
    all_goals refine tkx 10 ?_
    all_goals refine tkx 13 ?_
    all_goals refine tkx 14 ?_
    all_goals(refine wpAnyH_done (by kernel_rfl) ?_ _)
    obtain⟨-,-,-,-,-,-,-,-,-,-,hE⟩:=hHeld
    go_wp2_with fail
    go_ret
    exact⟨rfl,hE⟩
  · rw[if_neg h]
    rw[decide_eq_false h] at hrt
    clear h hav
    unfold St.v Pol.v at *
    have HRT:=Go.Lib.hid hrt
    clear hrt
    go_enter Tryz.func99,Tryz.ntmps99
    go_wp2_with fail
    refine(HRT.out _).mono ?_
    rintro e w1 ⟨rfl,hb⟩
    have hB:Below w.heap.size w w1:=bl_then k2 hb
    clear hb HRT
    go_wp2
    go_ret
    exact⟨rfl,hB⟩
theorem cnext_any (k l d b cc:Int) (o:Bool) (T:Int) (w:World) (hd:1≤d) (hD:d≤1099511627776) (h0:0≤T):Calls Tryz.prog 158 #[.agg #[.int .i64 k,.int .i64 l,.int .i64 d,.int .i64 b,.int .i64 cc,.bool o],.int .i64 T] w fun e w'=>e=.returned (.int .i64 (d - T % d))∧Below w.heap.size w w':=by
  have hd0:¬ d=0:=by omega
  have t1:Int.tmod T d=T % d:=Int.tmod_eq_emod_of_nonneg h0
  have t2:0≤T % d:=Int.emod_nonneg _ hd0
  have t3:T % d<d:=Int.emod_lt_of_pos _ (by omega)
  generalize T % d=M at *
  have t4:IntKind.i64.wrap M=M:=IntWalk.i64_in _ (by omega)
  have t5:IntKind.i64.wrap (d - M)=d - M:=IntWalk.i64_in _ (by omega)
  clear t2 t3 hd hD h0
  go_enter Tryz.func158,Tryz.ntmps158
  go_wp2_with fail
  refine wp_abs (S0:=fun w'=>P6 w' (w.heap.size) k l d b cc o (Below w.heap.size w w')) ⟨by go_simp,by go_simp,by go_simp,by go_simp,by go_simp,by go_simp,k1⟩ ?_
  rintro W ⟨c0,c1,c2,c3,c4,c5,hB⟩
  refine wp_region_held_drew (S:=fun w'=>P6 w' (w.heap.size) k l d b cc o (Below w.heap.size w w')) (by kernel_rfl) ?_ (fun hHeld=>?_)
  · exact⟨c0,c1,c2,c3,c4,c5,bl_drew hB⟩
  try simp only[Act.put,List.setIfInBounds_toArray,List.set_cons_zero,List.set_cons_succ]
  all_goals refine tkx 0 ?_
  all_goals refine tkx 1 ?_
  all_goals refine tkx 2 ?_
  all_goals refine tkx 3 ?_
  all_goals refine tkx 4 ?_
  all_goals refine tkx 5 ?_
  all_goals refine tkx 6 ?_
  all_goals refine tkx 7 ?_
  all_goals(refine wpAnyH_done (by kernel_rfl) ?_ _)
  obtain⟨-,-,-,-,-,-,hE⟩:=hHeld
  repeat' (first|go_skip|go_guarded|go_step|go_upon)
  go_ret
  exact⟨rfl,hE⟩

theorem croom_any (p:Pol) (s:St) (a:Option Addr) (n c:Nat) (now:Int) (hn:s.log.length=n) (w:World):Calls Tryz.prog 115 #[p.v,s.v a n c,.int .i64 now] w fun e w'=>e=.returned (.int .i64 (roomC p s now))∧Below w.heap.size w w':=by
  have hrt:=cright_any p s a n c hn
  have hav:=cadv_any p s a n c now hn
  unfold roomC
  by_cases h:rightC p s
  · rw[if_pos h]
    rw[decide_eq_true h] at hrt
    have hlv:=advC_level p s now h
    obtain⟨⟨q0,q1,q2,q3,q4,q5,q6⟩,r1,r2,r3,r4,r5,r6,r7,r8⟩:=h
    rw[r8] at hn
    subst hn
    generalize advC p s now=A at *
    obtain⟨aat,alv,ahd,alg⟩:=A
    obtain⟨k,l,d,b,cc,o⟩:=p
    obtain⟨at_,level,held,lg⟩:=s
    unfold St.v Pol.v at *
    dsimp only[List.length_nil] at *
    have hw1:IntKind.i64.wrap (l - held)=l - held:=IntWalk.i64_in _ (by omega)
    have hw2:IntKind.i64.wrap (l - held - alv)=l - held - alv:=IntWalk.i64_in _ (by omega)
    have HRT:=Go.Lib.hid hrt
    have HAV:=Go.Lib.hid hav
    clear hrt hav hlv q0 q1 q2 q3 q4 q5 q6 r1 r2 r3 r4 r5 r6 r7 r8
    have FL:=fld_level
    go_enter Tryz.func115,Tryz.ntmps115
    go_wp2_with fail
    refine(HRT.out _).mono ?_
    rintro e w1 ⟨rfl,hb⟩
    have hB:Below w.heap.size w w1:=bl_then k2 hb
    obtain⟨c0,c1,c2,c3,c4,c5⟩:=b6 (w.heap.size) k l d b cc o hb
    have c6:=bl_cell (v:=.int .i64 at_) hb (show World.cell? _ ⟨w.heap.size+1,0,none⟩=_ by go_simp)
    have c7:=bl_cell (v:=.int .i64 level) hb (show World.cell? _ ⟨w.heap.size+1,1,none⟩=_ by go_simp)
    have c8:=bl_cell (v:=.int .i64 held) hb (show World.cell? _ ⟨w.heap.size+1,2,none⟩=_ by go_simp)
    have c9:=bl_cell (v:=.slice a 0 c) hb (show World.cell? _ ⟨w.heap.size+1,3,none⟩=_ by go_simp)
    clear hb HRT
    go_wp2_with fail
    refine wp_region_held_drew (S:=fun w'=>P6 w' (w.heap.size) k l d b cc o (S4 w' (w.heap.size+1) at_ level held a 0 c (Below w.heap.size w w'))) (by kernel_rfl) ?_ (fun hHeld=>?_)
    · exact⟨c0,c1,c2,c3,c4,c5,c6,c7,c8,c9,bl_drew hB⟩
    try simp only[Act.put,List.setIfInBounds_toArray,List.set_cons_zero,List.set_cons_succ]
    all_goals refine tkx 0 ?_
    all_goals refine tkx 1 ?_
    all_goals refine tkx 2 ?_
    all_goals refine tkx 3 ?_
    all_goals refine tkx 4 ?_
    all_goals refine tkx 5 ?_
    all_goals refine tkx 6 ?_
    all_goals refine tkx 7 ?_
    all_goals((refine callH (i:=8) rfl hHeld (fun W hW K hK=>?_);clear hHeld;(try dsimp only at hW);go_simp;refine(HAV.out _).mono ?_;rintro e w1 ⟨rfl,hb⟩;go_wp2_with fail;refine hK.out _ _ ?_ (fun hHeld=>?_);(focus((try dsimp only);(obtain⟨h0,h1,h2,h3,h4,h5,h6,h7,h8,h9,hB'⟩:=hW;exact⟨bl_cell hb h0,bl_cell hb h1,bl_cell hb h2,bl_cell hb h3,bl_cell hb h4,bl_cell hb h5,bl_cell hb h6,bl_cell hb h7,bl_cell hb h8,bl_cell hb h9,bl_then hB' hb⟩)));clear hK K;try simp only[Act.put,List.setIfInBounds_toArray,List.set_cons_zero,List.set_cons_succ]))
    all_goals refine tkx 9 ?_
    all_goals refine tkx 10 ?_
    all_goals refine tkx 11 ?_
    all_goals(refine wpAnyH_done (by kernel_rfl) ?_ _)
    obtain⟨-,-,-,-,-,-,-,-,-,-,hE⟩:=hHeld
    repeat' (first|go_skip|go_guarded|go_step|go_upon)
    go_ret
    exact⟨rfl,hE⟩
  · rw[if_neg h]
    rw[decide_eq_false h] at hrt
    clear h hav
    unfold St.v Pol.v at *
    have HRT:=Go.Lib.hid hrt
    clear hrt
    go_enter Tryz.func115,Tryz.ntmps115
    go_wp2_with fail
    refine(HRT.out _).mono ?_
    rintro e w1 ⟨rfl,hb⟩
    have hB:Below w.heap.size w w1:=bl_then k2 hb
    clear hb HRT
    go_wp2
    go_ret
    exact⟨rfl,hB⟩

theorem cuntil_any (p:Pol) (s:St) (a:Option Addr) (n c:Nat) (now:Int) (hn:s.log.length=n) (w:World):Calls Tryz.prog 117 #[p.v,s.v a n c,.int .i64 now] w fun e w'=>e=.returned (.int .i64 (untilC p s now))∧Below w.heap.size w w':=by
  have hrt:=cright_any p s a n c hn
  have hav:=cadv_any p s a n c now hn
  unfold untilC
  by_cases h:rightC p s∧s.held≤0
  · rw [if_pos h]
    obtain⟨h,hh⟩:=h
    rw[decide_eq_true h] at hrt
    have hlv:=advC_level p s now h
    have r8:=h.2.2.2.2.2.2.2.2
    have q2:=h.1.2.2.1
    have q4:=h.1.2.2.2.2.1
    rw[r8] at hn
    subst hn
    have hnx:=fun w=>cnext_any p.kind p.limit p.period p.burst p.cap p.opn (advC p s now).at_ w q2 q4 hlv.2.2.2.1
    generalize advC p s now=A at *
    obtain⟨aat,alv,ahd,alg⟩:=A
    clear h r8
    obtain⟨k,l,d,b,cc,o⟩:=p
    obtain⟨at_,level,held,lg⟩:=s
    unfold St.v Pol.v at *
    dsimp only[List.length_nil] at *
    have HRT:=Go.Lib.hid hrt
    have HAV:=Go.Lib.hid hav
    have HNX:=Go.Lib.hid hnx
    clear hrt hav hnx hlv
    by_cases hx:0<alv
    · rw[if_pos hx]
      go_enter Tryz.func117,Tryz.ntmps117
      go_wp2_with fail
      refine(HRT.out _).mono ?_
      rintro e w1 ⟨rfl,hb⟩
      have hB:Below w.heap.size w w1:=bl_then k2 hb
      obtain⟨c0,c1,c2,c3,c4,c5⟩:=b6 (w.heap.size) k l d b cc o hb
      have c6:=bl_cell (v:=.int .i64 at_) hb (show World.cell? _ ⟨w.heap.size+1,0,none⟩=_ by go_simp)
      have c7:=bl_cell (v:=.int .i64 level) hb (show World.cell? _ ⟨w.heap.size+1,1,none⟩=_ by go_simp)
      have c8:=bl_cell (v:=.int .i64 held) hb (show World.cell? _ ⟨w.heap.size+1,2,none⟩=_ by go_simp)
      have c9:=bl_cell (v:=.slice a 0 c) hb (show World.cell? _ ⟨w.heap.size+1,3,none⟩=_ by go_simp)
      clear hb HRT
      go_wp2_with fail
      refine(HAV.out _).mono ?_
      rintro e w2 ⟨rfl,hb⟩
      have d0:=bl_cell (bl_alloc hb (.cells #[.int .i64 aat,.int .i64 alv,.int .i64 ahd,.slice none 0 0] 26)) c0
      have d1:=bl_cell (bl_alloc hb (.cells #[.int .i64 aat,.int .i64 alv,.int .i64 ahd,.slice none 0 0] 26)) c1
      have d2:=bl_cell (bl_alloc hb (.cells #[.int .i64 aat,.int .i64 alv,.int .i64 ahd,.slice none 0 0] 26)) c2
      have d3:=bl_cell (bl_alloc hb (.cells #[.int .i64 aat,.int .i64 alv,.int .i64 ahd,.slice none 0 0] 26)) c3
      have d4:=bl_cell (bl_alloc hb (.cells #[.int .i64 aat,.int .i64 alv,.int .i64 ahd,.slice none 0 0] 26)) c4
      have d5:=bl_cell (bl_alloc hb (.cells #[.int .i64 aat,.int .i64 alv,.int .i64 ahd,.slice none 0 0] 26)) c5
      have d6:=bl_cell (bl_alloc hb (.cells #[.int .i64 aat,.int .i64 alv,.int .i64 ahd,.slice none 0 0] 26)) c6
      have d7:=bl_cell (bl_alloc hb (.cells #[.int .i64 aat,.int .i64 alv,.int .i64 ahd,.slice none 0 0] 26)) c7
      have d8:=bl_cell (bl_alloc hb (.cells #[.int .i64 aat,.int .i64 alv,.int .i64 ahd,.slice none 0 0] 26)) c8
      have d9:=bl_cell (bl_alloc hb (.cells #[.int .i64 aat,.int .i64 alv,.int .i64 ahd,.slice none 0 0] 26)) c9
      have dB:=bl_then hB hb
      clear hB hb c0 c1 c2 c3 c4 c5 c6 c7 c8 c9
      go_wp2_with fail
      refine(HNX.out _).mono ?_
      rintro e w3 ⟨rfl,hb⟩
      go_wp2_with fail
      go_ret
      exact⟨rfl,bl_then (bl_alloc dB _) hb⟩
    · rw[if_neg hx]
      go_enter Tryz.func117,Tryz.ntmps117
      go_wp2_with fail
      refine(HRT.out _).mono ?_
      rintro e w1 ⟨rfl,hb⟩
      have hB:Below w.heap.size w w1:=bl_then k2 hb
      obtain⟨c0,c1,c2,c3,c4,c5⟩:=b6 (w.heap.size) k l d b cc o hb
      have c6:=bl_cell (v:=.int .i64 at_) hb (show World.cell? _ ⟨w.heap.size+1,0,none⟩=_ by go_simp)
      have c7:=bl_cell (v:=.int .i64 level) hb (show World.cell? _ ⟨w.heap.size+1,1,none⟩=_ by go_simp)
      have c8:=bl_cell (v:=.int .i64 held) hb (show World.cell? _ ⟨w.heap.size+1,2,none⟩=_ by go_simp)
      have c9:=bl_cell (v:=.slice a 0 c) hb (show World.cell? _ ⟨w.heap.size+1,3,none⟩=_ by go_simp)
      clear hb HRT
      go_wp2_with fail
      refine(HAV.out _).mono ?_
      rintro e w2 ⟨rfl,hb⟩
      have d0:=bl_cell (bl_alloc hb (.cells #[.int .i64 aat,.int .i64 alv,.int .i64 ahd,.slice none 0 0] 26)) c0
      have d1:=bl_cell (bl_alloc hb (.cells #[.int .i64 aat,.int .i64 alv,.int .i64 ahd,.slice none 0 0] 26)) c1
      have d2:=bl_cell (bl_alloc hb (.cells #[.int .i64 aat,.int .i64 alv,.int .i64 ahd,.slice none 0 0] 26)) c2
      have d3:=bl_cell (bl_alloc hb (.cells #[.int .i64 aat,.int .i64 alv,.int .i64 ahd,.slice none 0 0] 26)) c3
      have d4:=bl_cell (bl_alloc hb (.cells #[.int .i64 aat,.int .i64 alv,.int .i64 ahd,.slice none 0 0] 26)) c4
      have d5:=bl_cell (bl_alloc hb (.cells #[.int .i64 aat,.int .i64 alv,.int .i64 ahd,.slice none 0 0] 26)) c5
      have d6:=bl_cell (bl_alloc hb (.cells #[.int .i64 aat,.int .i64 alv,.int .i64 ahd,.slice none 0 0] 26)) c6
      have d7:=bl_cell (bl_alloc hb (.cells #[.int .i64 aat,.int .i64 alv,.int .i64 ahd,.slice none 0 0] 26)) c7
      have d8:=bl_cell (bl_alloc hb (.cells #[.int .i64 aat,.int .i64 alv,.int .i64 ahd,.slice none 0 0] 26)) c8
      have d9:=bl_cell (bl_alloc hb (.cells #[.int .i64 aat,.int .i64 alv,.int .i64 ahd,.slice none 0 0] 26)) c9
      have dB:=bl_then hB hb
      clear hB hb c0 c1 c2 c3 c4 c5 c6 c7 c8 c9
      go_wp2_with fail
      go_ret
      exact⟨rfl,bl_alloc dB _⟩
  · rw [if_neg h]
    by_cases h1:rightC p s
    · rw [decide_eq_true h1] at hrt
      have hh:0<s.held:=by
        by_cases h2:0<s.held
        · exact h2
        · exact absurd ⟨h1,by omega⟩ h
      clear h h1 hav
      obtain⟨k,l,d,b,cc,o⟩:=p
      obtain⟨at_,level,held,lg⟩:=s
      unfold St.v Pol.v at *
      dsimp only at *
      have HRT:=Go.Lib.hid hrt
      clear hrt
      go_enter Tryz.func117,Tryz.ntmps117
      go_wp2_with fail
      refine(HRT.out _).mono ?_
      rintro e w1 ⟨rfl,hb⟩
      have hB:Below w.heap.size w w1:=bl_then k2 hb
      obtain⟨c0,c1,c2,c3,c4,c5⟩:=b6 (w.heap.size) k l d b cc o hb
      have c6:=bl_cell (v:=.int .i64 at_) hb (show World.cell? _ ⟨w.heap.size+1,0,none⟩=_ by go_simp)
      have c7:=bl_cell (v:=.int .i64 level) hb (show World.cell? _ ⟨w.heap.size+1,1,none⟩=_ by go_simp)
      have c8:=bl_cell (v:=.int .i64 held) hb (show World.cell? _ ⟨w.heap.size+1,2,none⟩=_ by go_simp)
      have c9:=bl_cell (v:=.slice a n c) hb (show World.cell? _ ⟨w.heap.size+1,3,none⟩=_ by go_simp)
      clear hb HRT
      go_wp2
      go_ret
      exact⟨rfl,hB⟩
    · rw[decide_eq_false h1] at hrt
      clear h h1 hav
      unfold St.v Pol.v at *
      have HRT:=Go.Lib.hid hrt
      clear hrt
      go_enter Tryz.func117,Tryz.ntmps117
      go_wp2_with fail
      refine(HRT.out _).mono ?_
      rintro e w1 ⟨rfl,hb⟩
      have hB:Below w.heap.size w w1:=bl_then k2 hb
      clear hb HRT
      go_wp2
      go_ret
      exact⟨rfl,hB⟩

theorem cretry_any (p:Pol) (s:St) (a:Option Addr) (n c:Nat) (now cost:Int) (hn:s.log.length=n) (w:World):Calls Tryz.prog 118 #[p.v,s.v a n c,.int .i64 now,.int .i64 cost] w fun e w'=>e=.returned (.tuple #[.int .i64 (retryC p s now cost).1,.bool (retryC p s now cost).2])∧Below w.heap.size w w':=by
  have hrt:=cright_any p s a n c hn
  have hav:=cadv_any p s a n c now hn
  unfold retryC
  by_cases h:rightC p s∧1≤cost∧cost≤p.limit - s.held
  · rw [if_pos h]
    obtain⟨h,hc1,hc2⟩:=h
    rw[decide_eq_true h] at hrt
    have hlv:=advC_level p s now h
    have q2:=h.1.2.2.1
    have q4:=h.1.2.2.2.2.1
    have hnx:=fun w=>cnext_any p.kind p.limit p.period p.burst p.cap p.opn (advC p s now).at_ w q2 q4 hlv.2.2.2.1
    obtain⟨⟨q0,q1,q2,q3,q4,q5,q6⟩,r1,r2,r3,r4,r5,r6,r7,r8⟩:=h
    rw[r8] at hn
    subst hn
    generalize advC p s now=A at *
    obtain⟨aat,alv,ahd,alg⟩:=A
    obtain⟨k,l,d,b,cc,o⟩:=p
    obtain⟨at_,level,held,lg⟩:=s
    unfold St.v Pol.v at *
    dsimp only[List.length_nil] at *
    have hah:ahd=held:=hlv.2.2.1
    subst hah
    have hw1:IntKind.i64.wrap (l - ahd)=l - ahd:=IntWalk.i64_in _ (by omega)
    have hw2:IntKind.i64.wrap (l - ahd - alv)=l - ahd - alv:=IntWalk.i64_in _ (by omega)
    have HRT:=Go.Lib.hid hrt
    have HAV:=Go.Lib.hid hav
    have HNX:=Go.Lib.hid hnx
    clear hrt hav hnx hlv q0 q1 q2 q3 q4 q5 q6 r1 r2 r3 r4 r5 r6 r7 r8
    by_cases hx:l - ahd - alv<cost
    · rw[if_pos hx]
      go_enter Tryz.func118,Tryz.ntmps118
      go_wp2_with fail
      refine(HRT.out _).mono ?_
      rintro e w1 ⟨rfl,hb⟩
      have hB:Below w.heap.size w w1:=bl_then k2 hb
      obtain⟨c0,c1,c2,c3,c4,c5⟩:=b6 (w.heap.size) k l d b cc o hb
      have c6:=bl_cell (v:=.int .i64 at_) hb (show World.cell? _ ⟨w.heap.size+1,0,none⟩=_ by go_simp)
      have c7:=bl_cell (v:=.int .i64 level) hb (show World.cell? _ ⟨w.heap.size+1,1,none⟩=_ by go_simp)
      have c8:=bl_cell (v:=.int .i64 ahd) hb (show World.cell? _ ⟨w.heap.size+1,2,none⟩=_ by go_simp)
      have c9:=bl_cell (v:=.slice a 0 c) hb (show World.cell? _ ⟨w.heap.size+1,3,none⟩=_ by go_simp)
      clear hb HRT
      go_wp2_with fail
      refine(HAV.out _).mono ?_
      rintro e w2 ⟨rfl,hb⟩
      have d0:=bl_cell (bl_alloc hb (.cells #[.int .i64 aat,.int .i64 alv,.int .i64 ahd,.slice none 0 0] 26)) c0
      have d1:=bl_cell (bl_alloc hb (.cells #[.int .i64 aat,.int .i64 alv,.int .i64 ahd,.slice none 0 0] 26)) c1
      have d2:=bl_cell (bl_alloc hb (.cells #[.int .i64 aat,.int .i64 alv,.int .i64 ahd,.slice none 0 0] 26)) c2
      have d3:=bl_cell (bl_alloc hb (.cells #[.int .i64 aat,.int .i64 alv,.int .i64 ahd,.slice none 0 0] 26)) c3
      have d4:=bl_cell (bl_alloc hb (.cells #[.int .i64 aat,.int .i64 alv,.int .i64 ahd,.slice none 0 0] 26)) c4
      have d5:=bl_cell (bl_alloc hb (.cells #[.int .i64 aat,.int .i64 alv,.int .i64 ahd,.slice none 0 0] 26)) c5
      have d6:=bl_cell (bl_alloc hb (.cells #[.int .i64 aat,.int .i64 alv,.int .i64 ahd,.slice none 0 0] 26)) c6
      have d7:=bl_cell (bl_alloc hb (.cells #[.int .i64 aat,.int .i64 alv,.int .i64 ahd,.slice none 0 0] 26)) c7
      have d8:=bl_cell (bl_alloc hb (.cells #[.int .i64 aat,.int .i64 alv,.int .i64 ahd,.slice none 0 0] 26)) c8
      have d9:=bl_cell (bl_alloc hb (.cells #[.int .i64 aat,.int .i64 alv,.int .i64 ahd,.slice none 0 0] 26)) c9
      have dB:=bl_then hB hb
      clear hB hb c0 c1 c2 c3 c4 c5 c6 c7 c8 c9
      go_wp2_with fail
      refine(HNX.out _).mono ?_
      rintro e w3 ⟨rfl,hb⟩
      go_wp2_with fail
      go_ret2
      exact⟨rfl,bl_then (bl_alloc dB _) hb⟩
    · rw[if_neg hx]
      go_enter Tryz.func118,Tryz.ntmps118
      go_wp2_with fail
      refine(HRT.out _).mono ?_
      rintro e w1 ⟨rfl,hb⟩
      have hB:Below w.heap.size w w1:=bl_then k2 hb
      obtain⟨c0,c1,c2,c3,c4,c5⟩:=b6 (w.heap.size) k l d b cc o hb
      have c6:=bl_cell (v:=.int .i64 at_) hb (show World.cell? _ ⟨w.heap.size+1,0,none⟩=_ by go_simp)
      have c7:=bl_cell (v:=.int .i64 level) hb (show World.cell? _ ⟨w.heap.size+1,1,none⟩=_ by go_simp)
      have c8:=bl_cell (v:=.int .i64 ahd) hb (show World.cell? _ ⟨w.heap.size+1,2,none⟩=_ by go_simp)
      have c9:=bl_cell (v:=.slice a 0 c) hb (show World.cell? _ ⟨w.heap.size+1,3,none⟩=_ by go_simp)
      clear hb HRT
      go_wp2_with fail
      refine(HAV.out _).mono ?_
      rintro e w2 ⟨rfl,hb⟩
      have d0:=bl_cell (bl_alloc hb (.cells #[.int .i64 aat,.int .i64 alv,.int .i64 ahd,.slice none 0 0] 26)) c0
      have d1:=bl_cell (bl_alloc hb (.cells #[.int .i64 aat,.int .i64 alv,.int .i64 ahd,.slice none 0 0] 26)) c1
      have d2:=bl_cell (bl_alloc hb (.cells #[.int .i64 aat,.int .i64 alv,.int .i64 ahd,.slice none 0 0] 26)) c2
      have d3:=bl_cell (bl_alloc hb (.cells #[.int .i64 aat,.int .i64 alv,.int .i64 ahd,.slice none 0 0] 26)) c3
      have d4:=bl_cell (bl_alloc hb (.cells #[.int .i64 aat,.int .i64 alv,.int .i64 ahd,.slice none 0 0] 26)) c4
      have d5:=bl_cell (bl_alloc hb (.cells #[.int .i64 aat,.int .i64 alv,.int .i64 ahd,.slice none 0 0] 26)) c5
      have d6:=bl_cell (bl_alloc hb (.cells #[.int .i64 aat,.int .i64 alv,.int .i64 ahd,.slice none 0 0] 26)) c6
      have d7:=bl_cell (bl_alloc hb (.cells #[.int .i64 aat,.int .i64 alv,.int .i64 ahd,.slice none 0 0] 26)) c7
      have d8:=bl_cell (bl_alloc hb (.cells #[.int .i64 aat,.int .i64 alv,.int .i64 ahd,.slice none 0 0] 26)) c8
      have d9:=bl_cell (bl_alloc hb (.cells #[.int .i64 aat,.int .i64 alv,.int .i64 ahd,.slice none 0 0] 26)) c9
      have dB:=bl_then hB hb
      clear hB hb c0 c1 c2 c3 c4 c5 c6 c7 c8 c9
      go_wp2_with fail
      go_ret2
      exact⟨rfl,bl_alloc dB _⟩
  · rw [if_neg h]
    by_cases h1:rightC p s
    · rw [decide_eq_true h1] at hrt
      have hc:cost<1∨1≤cost∧p.limit - s.held<cost:=by
        by_cases h2:cost<1
        · exact .inl h2
        · by_cases h3:p.limit - s.held<cost
          · exact .inr ⟨by omega,h3⟩
          · exact absurd ⟨h1,by omega,by omega⟩ h
      have hw0:IntKind.i64.wrap (p.limit - s.held)=p.limit - s.held:=IntWalk.i64_in _ (by have h2:=h1.1.2.1;have h3:=h1.1.2.2.2.1;have h4:=h1.2.2.2.1;have h5:=h1.2.2.2.2.2.1;omega)
      clear h h1 hav
      obtain⟨k,l,d,b,cc,o⟩:=p
      obtain⟨at_,level,held,lg⟩:=s
      unfold St.v Pol.v at *
      dsimp only at *
      rcases hc with hc|⟨hc1,hc⟩
      · have HRT:=Go.Lib.hid hrt
        clear hrt
        go_enter Tryz.func118,Tryz.ntmps118
        go_wp2_with fail
        refine(HRT.out _).mono ?_
        rintro e w1 ⟨rfl,hb⟩
        have hB:Below w.heap.size w w1:=bl_then k2 hb
        obtain⟨c0,c1,c2,c3,c4,c5⟩:=b6 (w.heap.size) k l d b cc o hb
        have c6:=bl_cell (v:=.int .i64 at_) hb (show World.cell? _ ⟨w.heap.size+1,0,none⟩=_ by go_simp)
        have c7:=bl_cell (v:=.int .i64 level) hb (show World.cell? _ ⟨w.heap.size+1,1,none⟩=_ by go_simp)
        have c8:=bl_cell (v:=.int .i64 held) hb (show World.cell? _ ⟨w.heap.size+1,2,none⟩=_ by go_simp)
        have c9:=bl_cell (v:=.slice a n c) hb (show World.cell? _ ⟨w.heap.size+1,3,none⟩=_ by go_simp)
        clear hb HRT
        go_wp2
        go_ret2
        exact⟨rfl,hB⟩
      · have HRT:=Go.Lib.hid hrt
        clear hrt
        go_enter Tryz.func118,Tryz.ntmps118
        go_wp2_with fail
        refine(HRT.out _).mono ?_
        rintro e w1 ⟨rfl,hb⟩
        have hB:Below w.heap.size w w1:=bl_then k2 hb
        obtain⟨c0,c1,c2,c3,c4,c5⟩:=b6 (w.heap.size) k l d b cc o hb
        have c6:=bl_cell (v:=.int .i64 at_) hb (show World.cell? _ ⟨w.heap.size+1,0,none⟩=_ by go_simp)
        have c7:=bl_cell (v:=.int .i64 level) hb (show World.cell? _ ⟨w.heap.size+1,1,none⟩=_ by go_simp)
        have c8:=bl_cell (v:=.int .i64 held) hb (show World.cell? _ ⟨w.heap.size+1,2,none⟩=_ by go_simp)
        have c9:=bl_cell (v:=.slice a n c) hb (show World.cell? _ ⟨w.heap.size+1,3,none⟩=_ by go_simp)
        clear hb HRT
        go_wp2
        go_ret2
        exact⟨rfl,hB⟩
    · rw[decide_eq_false h1] at hrt
      clear h h1 hav
      unfold St.v Pol.v at *
      have HRT:=Go.Lib.hid hrt
      clear hrt
      go_enter Tryz.func118,Tryz.ntmps118
      go_wp2_with fail
      refine(HRT.out _).mono ?_
      rintro e w1 ⟨rfl,hb⟩
      have hB:Below w.heap.size w w1:=bl_then k2 hb
      clear hb HRT
      go_wp2
      go_ret2
      exact⟨rfl,hB⟩
theorem wroom_any (p:Pol) (s:St) (a:Option Addr) (n c:Nat) (now:Int) (w:World) (hlog:LogAt w a n c s.log):Calls Tryz.prog 107 #[p.v,s.v a n c,.int .i64 now] w fun e w'=>e=.returned (.int .i64 (roomL p s now))∧Below w.heap.size w w':=by
  have hrt:=fun W hW=>wright_any p s a n c W hW
  have hav:=fun W hW=>wadv_any p s a n c now W hW
  unfold roomL
  by_cases h:rightL p s
  · rw[if_pos h]
    rw[decide_eq_true h] at hrt
    have hall:=risen_all h.2.2.2.2.2.2.1
    have hsub:=live_sub p.period (up s.at_ (clampT now)) s.log
    have hAe:(advL p s now).log=live p.period (up s.at_ (clampT now)) s.log:=by unfold advL;rw[if_pos h]
    rw[← hAe] at hsub
    obtain⟨⟨q0,q1,q2,q3,q4,q5,q6,q7⟩,r1,r2,r3,r4,r5,r6,r7,r8⟩:=h
    generalize advL p s now=A at *
    have hlen:=hlog.1
    have hent:∀ e ∈ A.log,0≤e.2∧e.2≤1048576:=fun e he=>by have:=hall e (hsub.1 e he);omega
    have hsb:=sumL_bound A.log 1048576 hent
    have hw1:IntKind.i64.wrap (p.limit - s.held)=p.limit - s.held:=IntWalk.i64_in _ (by omega)
    have hw2:IntKind.i64.wrap (p.limit - s.held - sumL A.log)=p.limit - s.held - sumL A.log:=IntWalk.i64_in _ (by omega)
    have hsum:=fun a2 m2 c2 W (hW:LogAt W a2 m2 c2 A.log)=>sum_any a2 m2 c2 A.log W hW (by have:=hW.1;have:=hsub.2;omega) hent
    clear hall hsub hAe hsb hent hlen r1 r2 r3 r4 r6 r7 r8 q0 q1 q2 q3 q4 q5 q6 q7
    obtain⟨k,l,d,b,cc,o⟩:=p
    obtain⟨at_,level,held,L⟩:=s
    obtain⟨aat,alv,ahd,L2⟩:=A
    unfold St.v Pol.v at *
    dsimp only at *
    subst r5
    generalize sumL L2=S2 at *
    have HRT:=Go.Lib.hid hrt
    have HAV:=Go.Lib.hid hav
    have HSM:=Go.Lib.hid hsum
    have HLOG:=Go.Lib.hid hlog
    have FL:=fld_log
    clear hrt hav hsum hlog
    go_enter Tryz.func107,Tryz.ntmps107
    go_wp2_with fail
    refine(HRT.out _ (log_bl HLOG.out k2)).mono ?_
    rintro e w1 ⟨rfl,hb⟩
    have hB:Below w.heap.size w w1:=bl_then k2 hb
    obtain⟨c0,c1,c2,c3,c4,c5⟩:=b6 (w.heap.size) k l d b cc o hb
    have c6:=bl_cell (v:=.int .i64 at_) hb (show World.cell? _ ⟨w.heap.size+1,0,none⟩=_ by go_simp)
    have c7:=bl_cell (v:=.int .i64 0) hb (show World.cell? _ ⟨w.heap.size+1,1,none⟩=_ by go_simp)
    have c8:=bl_cell (v:=.int .i64 held) hb (show World.cell? _ ⟨w.heap.size+1,2,none⟩=_ by go_simp)
    have c9:=bl_cell (v:=.slice a n c) hb (show World.cell? _ ⟨w.heap.size+1,3,none⟩=_ by go_simp)
    have hlg:=log_bl HLOG.out hB
    clear hb HRT HLOG
    go_wp2_with fail
    refine wp_region_held_drew (S:=fun w'=>P6 w' (w.heap.size) k l d b cc o (S4 w' (w.heap.size+1) at_ 0 held a n c (LogAt w' a n c L∧Below w.heap.size w w'))) (by kernel_rfl) ?_ (fun hHeld=>?_)
    · exact⟨c0,c1,c2,c3,c4,c5,c6,c7,c8,c9,hlg,bl_drew hB⟩
    try simp only[Act.put,List.setIfInBounds_toArray,List.set_cons_zero,List.set_cons_succ]
    refine tkx 0 ?_
    refine tkx 1 ?_
    refine tkx 2 ?_
    refine tkx 3 ?_
    refine tkx 4 ?_
    refine tkx 5 ?_
    refine tkx 6 ?_
    refine tkx 7 ?_
    (refine callH (i:=8) rfl hHeld (fun W hW K hK=>?_);clear hHeld;(try dsimp only at hW);obtain⟨h0,h1,h2,h3,h4,h5,h6,h7,h8,h9,hl',hB'⟩:=hW;go_simp;refine(HAV.out _ hl').mono ?_;rintro e w9 ⟨⟨v9,m9,rfl,hown⟩,hb⟩;obtain⟨a9,cp9,rfl,hlg9⟩:=own_log hown;dsimp only;go_wp2_with fail;refine hK.out _ _ ?_ (fun hHeld=>?_);(focus((try dsimp only);exact⟨bl_cell hb h0,bl_cell hb h1,bl_cell hb h2,bl_cell hb h3,bl_cell hb h4,bl_cell hb h5,bl_cell hb h6,bl_cell hb h7,bl_cell hb h8,bl_cell hb h9,log_bl hl' hb,bl_then hB' hb⟩));clear hK K;clear hb hB' hl' h0 h1 h2 h3 h4 h5 h6 h7 h8 h9;try simp only[Act.put,List.setIfInBounds_toArray,List.set_cons_zero,List.set_cons_succ])
    refine tkx 9 ?_
    (refine callC (i:=10) rfl (fun K hK=>?_);obtain⟨h0,h1,h2,h3,h4,h5,h6,h7,h8,h9,hl',hB'⟩:=(id hHeld);go_simp;refine(HSM.out _ _ _ _ hlg9).mono ?_;rintro e w8 ⟨rfl,hb⟩;go_wp2_with fail;refine hK.out _ _ ?_ (fun hHeld2=>?_);(focus((try dsimp only);exact⟨bl_cell hb h0,bl_cell hb h1,bl_cell hb h2,bl_cell hb h3,bl_cell hb h4,bl_cell hb h5,bl_cell hb h6,bl_cell hb h7,bl_cell hb h8,bl_cell hb h9,log_bl hl' hb,bl_then hB' hb⟩));clear hHeld hK K;rename _=>hHeld;try simp only[Act.put,List.setIfInBounds_toArray,List.set_cons_zero,List.set_cons_succ])
    refine tkx 11 ?_
    refine tkx 12 ?_
    refine wpAnyH_done (by kernel_rfl) ?_ _
    obtain⟨-,-,-,-,-,-,-,-,-,-,-,hE⟩:=hHeld
    repeat' (first|go_skip|go_guarded|go_step|go_upon)
    go_ret
    exact⟨rfl,hE⟩
  · rw[if_neg h]
    rw[decide_eq_false h] at hrt
    clear h hav
    unfold St.v Pol.v at *
    have HRT:=Go.Lib.hid hrt
    clear hrt
    go_enter Tryz.func107,Tryz.ntmps107
    go_wp2_with fail
    refine(HRT.out _ (log_bl hlog k2)).mono ?_
    rintro e w1 ⟨rfl,hb⟩
    have hB:Below w.heap.size w w1:=bl_then k2 hb
    go_wp2_with fail
    go_ret
    exact⟨rfl,hB⟩
theorem meth_do (x : Array Value) (w : World) : (method 85 108 (.agg x) "tapster/limiter.do").run Tryz.prog w = .ok (208, .agg x) w := by kernel_rfl
theorem meth_start (x : Array Value) (w : World) : (method 85 108 (.agg x) "tapster/limiter.start").run Tryz.prog w = .ok (212, .agg x) w := by kernel_rfl
theorem meth_room (x : Array Value) (w : World) : (method 85 108 (.agg x) "tapster/limiter.room").run Tryz.prog w = .ok (211, .agg x) w := by kernel_rfl
def doP (p:Pol) (s:St) (x:Ac):St × Bool:=if p.kind=2 then doG p s x else if p.kind=3 then doL p s x else if p.kind=4 then doC p s x else doB p s x
def newP (p:Pol) (now:Int):St:=if p.kind=2 then newG p now else if p.kind=3 then newL p now else if p.kind=4 then newC p now else newB p now
def roomP (p:Pol) (s:St) (now:Int):Int:=if p.kind=2 then roomG p s now else if p.kind=3 then roomL p s now else if p.kind=4 then roomC p s now else roomB p s now
theorem kern_do (p:Pol) (s:St) (a:Option Addr) (n c:Nat) (x:Ac) (w:World) (hl:LogAt w a n c s.log):Calls Tryz.prog 208 #[.agg (kern p.kind),p.v,s.v a n c,x.v] w (PostSB a n (doP p s x) w):=by
  unfold kern doP
  by_cases h2:p.kind=2
  · rw[if_pos h2,if_pos h2];exact made_do _ (fun _ _=>by kernel_rfl) _ _ _ _ _ _ _ p s a n c x _ (fun w hw=>gdo_all p s a n c x w hw) w hl
  rw[if_neg h2,if_neg h2]
  by_cases h3:p.kind=3
  · rw[if_pos h3,if_pos h3];exact made_do _ (fun _ _=>by kernel_rfl) _ _ _ _ _ _ _ p s a n c x _ (fun w hw=>wdo_all p s a n c x w hw) w hl
  rw[if_neg h3,if_neg h3]
  by_cases h4:p.kind=4
  · rw[if_pos h4,if_pos h4];exact made_do _ (fun _ _=>by kernel_rfl) _ _ _ _ _ _ _ p s a n c x _ (fun w hw=>cdo_all p s a n c x w hw) w hl
  rw[if_neg h4,if_neg h4]
  exact made_do _ (fun _ _=>by kernel_rfl) _ _ _ _ _ _ _ p s a n c x _ (fun w hw=>bdo_all p s a n c x w hw) w hl
theorem kern_start (p:Pol) (now:Int) (w:World):Calls Tryz.prog 212 #[.agg (kern p.kind),p.v,.int .i64 now] w fun e w'=>e=.returned ((newP p now).v none 0 0)∧Below w.heap.size w w':=by
  unfold kern newP
  by_cases h2:p.kind=2
  · rw[if_pos h2,if_pos h2];exact made_start _ (fun _ _=>by kernel_rfl) _ _ _ _ _ _ _ p now _ (gnew_any p now) w
  rw[if_neg h2,if_neg h2]
  by_cases h3:p.kind=3
  · rw[if_pos h3,if_pos h3];exact made_start _ (fun _ _=>by kernel_rfl) _ _ _ _ _ _ _ p now _ (wnew_any p now) w
  rw[if_neg h3,if_neg h3]
  by_cases h4:p.kind=4
  · rw[if_pos h4,if_pos h4];exact made_start _ (fun _ _=>by kernel_rfl) _ _ _ _ _ _ _ p now _ (cnew_any p now) w
  rw[if_neg h4,if_neg h4]
  exact made_start _ (fun _ _=>by kernel_rfl) _ _ _ _ _ _ _ p now _ (bnew_any p now) w
theorem kern_room (p:Pol) (s:St) (a:Option Addr) (n c:Nat) (now:Int) (w:World) (hl:LogAt w a n c s.log):Calls Tryz.prog 211 #[.agg (kern p.kind),p.v,s.v a n c,.int .i64 now] w fun e w'=>e=.returned (.int .i64 (roomP p s now))∧Below w.heap.size w w':=by
  unfold kern roomP
  by_cases h2:p.kind=2
  · rw[if_pos h2,if_pos h2];exact made_room _ (fun _ _=>by kernel_rfl) _ _ _ _ _ _ _ p s a n c now _ (fun w hw=>groom_any p s a n c now hw.1 w) w hl
  rw[if_neg h2,if_neg h2]
  by_cases h3:p.kind=3
  · rw[if_pos h3,if_pos h3];exact made_room _ (fun _ _=>by kernel_rfl) _ _ _ _ _ _ _ p s a n c now _ (fun w hw=>wroom_any p s a n c now w hw) w hl
  rw[if_neg h3,if_neg h3]
  by_cases h4:p.kind=4
  · rw[if_pos h4,if_pos h4];exact made_room _ (fun _ _=>by kernel_rfl) _ _ _ _ _ _ _ p s a n c now _ (fun w hw=>croom_any p s a n c now hw.1 w) w hl
  rw[if_neg h4,if_neg h4]
  exact made_room _ (fun _ _=>by kernel_rfl) _ _ _ _ _ _ _ p s a n c now _ (fun w hw=>broom_any p s a n c now hw.1 w) w hl

theorem lnew_any (p:Pol) (now:Int) (w:World):Calls Tryz.prog 24 #[p.v,.int .i64 now] w fun e w'=>e=.returned ((newP p now).v none 0 0)∧Below w.heap.size w w':=by
  have hof:=of_any p
  have hkc:=kern_start p now
  have hme:=meth_start
  generalize kern p.kind=KV at *
  generalize newP p now=R at *
  obtain⟨k,l,d,b,cc,o⟩:=p
  obtain⟨rat,rlv,rhd,rL⟩:=R
  unfold St.v Pol.v at *
  dsimp only at *
  have HOF:=Go.Lib.hid hof
  have HKC:=Go.Lib.hid hkc
  clear hof hkc
  go_enter Tryz.func24,Tryz.ntmps24
  go_wp2_with fail
  refine wp_abs (S0:=fun w'=>P6 w' (w.heap.size) k l d b cc o (ResB w' (w.heap.size+1)∧Below w.heap.size w w')) ⟨by go_simp,by go_simp,by go_simp,by go_simp,by go_simp,by go_simp,res_new _ _ _ _ _ _ (by simp),k2⟩ ?_
  rintro W ⟨c0,c1,c2,c3,c4,c5,hR,hB⟩
  refine wp_region_held_drew (S:=fun w'=>P6 w' (w.heap.size) k l d b cc o (ResB w' (w.heap.size+1)∧Below w.heap.size w w')) (by kernel_rfl) ?_ (fun hHeld=>?_)
  · exact⟨c0,c1,c2,c3,c4,c5,hR,bl_drew hB⟩
  try simp only[Act.put,List.setIfInBounds_toArray,List.set_cons_zero,List.set_cons_succ]
  all_goals refine tkx 0 ?_
  all_goals refine tkx 2 ?_
  all_goals refine tkx 3 ?_
  all_goals((refine callH (i:=1) rfl hHeld (fun W hW K hK=>?_);clear hHeld;(try dsimp only at hW);go_simp;refine(HOF.out _).mono ?_;rintro e w1 ⟨rfl,hb⟩;go_wp2_with fail;refine hK.out _ _ ?_ (fun hHeld=>?_);(focus((try dsimp only);(obtain⟨h0,h1,h2,h3,h4,h5,hr',hB'⟩:=hW;exact⟨bl_cell hb h0,bl_cell hb h1,bl_cell hb h2,bl_cell hb h3,bl_cell hb h4,bl_cell hb h5,res_bl hr' hb,bl_then hB' hb⟩)));clear hK K;try simp only[Act.put,List.setIfInBounds_toArray,List.set_cons_zero,List.set_cons_succ]))
  all_goals((refine callH (i:=4) rfl hHeld (fun W hW K hK=>?_);clear hHeld;(try dsimp only at hW);go_simp;refine(HKC.out _).mono ?_;rintro e w1 ⟨rfl,hb⟩;go_wp2_with fail;refine hK.out _ _ ?_ (fun hHeld=>?_);(focus((try dsimp only);(obtain⟨h0,h1,h2,h3,h4,h5,hr',hB'⟩:=hW;exact⟨bl_cell hb h0,bl_cell hb h1,bl_cell hb h2,bl_cell hb h3,bl_cell hb h4,bl_cell hb h5,res_bl hr' hb,bl_then hB' hb⟩)));clear hK K;try simp only[Act.put,List.setIfInBounds_toArray,List.set_cons_zero,List.set_cons_succ]))
  all_goals((refine callH (i:=5) rfl hHeld (fun W hW K hK=>?_);clear hHeld;(try dsimp only at hW);obtain⟨h0,h1,h2,h3,h4,h5,hr',hB'⟩:=hW;obtain⟨f0,f1,f2,f3,u0,u1,u2,u3,i0,i1,i2,i3⟩:=res_all hr';go_simp;refine hK.out _ _ ?_ (fun hHeld=>?_);(focus((try dsimp only);(have e0:w.heap.size+1≠w.heap.size:=(by omega);exact⟨far4 h0 e0,far4 h1 e0,far4 h2 e0,far4 h3 e0,far4 h4 e0,far4 h5 e0,res4 hr',bl4 hB' (by omega)⟩)));clear hK K;try simp only[Act.put,List.setIfInBounds_toArray,List.set_cons_zero,List.set_cons_succ]))
  all_goals(refine wpAnyH_done (by kernel_rfl) ?_ _)
  obtain⟨-,-,-,-,-,-,-,hE⟩:=hHeld
  repeat' (first|go_skip|go_guarded|go_step|go_upon)
  (try simp only[Exit.inBlock,Exit.then])
  refine bodyPost_ret (results_state rfl _ _ (by rfl) (set4 _ _ _ _ i0 i1 i2 i3)) rfl ⟨by first|rfl|simp,hE⟩

theorem lroom_any (p:Pol) (s:St) (a:Option Addr) (n c:Nat) (now:Int) (w:World) (hl:LogAt w a n c s.log):Calls Tryz.prog 46 #[p.v,s.v a n c,.int .i64 now] w fun e w'=>e=.returned (.int .i64 (roomP p s now))∧Below w.heap.size w w':=by
  have hof:=of_any p
  have hkc:=fun W hW=>kern_room p s a n c now W hW
  have hme:=meth_room
  generalize kern p.kind=KV at *
  generalize roomP p s now=R at *
  obtain⟨k,l,d,b,cc,o⟩:=p
  obtain⟨at_,level,held,L⟩:=s
  unfold St.v Pol.v at *
  dsimp only at *
  have HOF:=Go.Lib.hid hof
  have HKC:=Go.Lib.hid hkc
  have HL:=Go.Lib.hid hl
  clear hof hkc hl
  go_enter Tryz.func46,Tryz.ntmps46
  go_wp2_with fail
  refine wp_abs (S0:=fun w'=>P6 w' (w.heap.size) k l d b cc o (S4 w' (w.heap.size+1) at_ level held a n c (LogAt w' a n c L∧Below w.heap.size w w'))) ⟨by go_simp,by go_simp,by go_simp,by go_simp,by go_simp,by go_simp,by go_simp,by go_simp,by go_simp,by go_simp,log_bl HL.out k2,k2⟩ ?_
  rintro W ⟨c0,c1,c2,c3,c4,c5,c6,c7,c8,c9,hLg,hB⟩
  refine wp_region_held_drew (S:=fun w'=>P6 w' (w.heap.size) k l d b cc o (S4 w' (w.heap.size+1) at_ level held a n c (LogAt w' a n c L∧Below w.heap.size w w'))) (by kernel_rfl) ?_ (fun hHeld=>?_)
  · exact⟨c0,c1,c2,c3,c4,c5,c6,c7,c8,c9,hLg,bl_drew hB⟩
  try simp only[Act.put,List.setIfInBounds_toArray,List.set_cons_zero,List.set_cons_succ]
  all_goals refine tkx 0 ?_
  all_goals refine tkx 2 ?_
  all_goals refine tkx 3 ?_
  all_goals refine tkx 4 ?_
  all_goals((refine callH (i:=1) rfl hHeld (fun W hW K hK=>?_);clear hHeld;(try dsimp only at hW);go_simp;refine(HOF.out _).mono ?_;rintro e w1 ⟨rfl,hb⟩;go_wp2_with fail;refine hK.out _ _ ?_ (fun hHeld=>?_);(focus((try dsimp only);(obtain⟨h0,h1,h2,h3,h4,h5,h6,h7,h8,h9,hl',hB'⟩:=hW;exact⟨bl_cell hb h0,bl_cell hb h1,bl_cell hb h2,bl_cell hb h3,bl_cell hb h4,bl_cell hb h5,bl_cell hb h6,bl_cell hb h7,bl_cell hb h8,bl_cell hb h9,log_bl hl' hb,bl_then hB' hb⟩)));clear hK K;try simp only[Act.put,List.setIfInBounds_toArray,List.set_cons_zero,List.set_cons_succ]))
  all_goals((refine callH (i:=5) rfl hHeld (fun W hW K hK=>?_);clear hHeld;(try dsimp only at hW);have hwl:=hW.2.2.2.2.2.2.2.2.2.2.1;go_simp;refine(HKC.out _ hwl).mono ?_;rintro e w1 ⟨rfl,hb⟩;go_wp2_with fail;refine hK.out _ _ ?_ (fun hHeld=>?_);(focus((try dsimp only);(obtain⟨h0,h1,h2,h3,h4,h5,h6,h7,h8,h9,hl',hB'⟩:=hW;exact⟨bl_cell hb h0,bl_cell hb h1,bl_cell hb h2,bl_cell hb h3,bl_cell hb h4,bl_cell hb h5,bl_cell hb h6,bl_cell hb h7,bl_cell hb h8,bl_cell hb h9,log_bl hl' hb,bl_then hB' hb⟩)));clear hK K;try simp only[Act.put,List.setIfInBounds_toArray,List.set_cons_zero,List.set_cons_succ]))
  all_goals refine tkx 6 ?_
  all_goals(refine wpAnyH_done (by kernel_rfl) ?_ _)
  obtain⟨-,-,-,-,-,-,-,-,-,-,-,hE⟩:=hHeld
  repeat' (first|go_skip|go_guarded|go_step|go_upon)
  go_ret
  exact⟨rfl,hE⟩

theorem ldo_any (p:Pol) (s:St) (a:Option Addr) (n c:Nat) (x:Ac) (w:World) (hl:LogAt w a n c s.log):Calls Tryz.prog 27 #[p.v,s.v a n c,x.v] w (PostSB a n (doP p s x) w):=by
  have hof:=of_any p
  have hkc:=fun W hW=>kern_do p s a n c x W hW
  have hme:=meth_do
  generalize kern p.kind=KV at *
  generalize doP p s x=R at *
  obtain⟨k,l,d,b,cc,o⟩:=p
  obtain⟨at_,level,held,L⟩:=s
  obtain⟨ak,anow,acost⟩:=x
  obtain⟨⟨rat,rlv,rhd,rL⟩,rok⟩:=R
  unfold Ac.v St.v Pol.v at *
  dsimp only at *
  have HOF:=Go.Lib.hid hof
  have HKC:=Go.Lib.hid hkc
  have HL:=Go.Lib.hid hl
  clear hof hkc hl
  go_enter Tryz.func27,Tryz.ntmps27
  go_wp2_with fail
  refine wp_abs (S0:=fun w'=>P6 w' (w.heap.size) k l d b cc o (S4 w' (w.heap.size+1) at_ level held a n c (X3 w' (w.heap.size+1+1) ak anow acost (LogAt w' a n c L∧ResB w' (w.heap.size+1+1+1)∧Below w.heap.size w w')))) ⟨by go_simp,by go_simp,by go_simp,by go_simp,by go_simp,by go_simp,by go_simp,by go_simp,by go_simp,by go_simp,by go_simp,by go_simp,by go_simp,log_bl HL.out k4,res_new _ _ _ _ _ _ (by simp),k4⟩ ?_
  rintro W ⟨c0,c1,c2,c3,c4,c5,c6,c7,c8,c9,c10,c11,c12,hLg,hR,hB⟩
  refine wp_region_held_drew (S:=fun w'=>P6 w' (w.heap.size) k l d b cc o (S4 w' (w.heap.size+1) at_ level held a n c (X3 w' (w.heap.size+1+1) ak anow acost (LogAt w' a n c L∧ResB w' (w.heap.size+1+1+1)∧Below w.heap.size w w')))) (by kernel_rfl) ?_ (fun hHeld=>?_)
  · exact⟨c0,c1,c2,c3,c4,c5,c6,c7,c8,c9,c10,c11,c12,hLg,hR,bl_drew hB⟩
  try simp only[Act.put,List.setIfInBounds_toArray,List.set_cons_zero,List.set_cons_succ]
  refine tkx 0 ?_
  refine tkx 2 ?_
  refine tkx 3 ?_
  refine tkx 4 ?_
  (refine callH (i:=1) rfl hHeld (fun W hW K hK=>?_);clear hHeld;(try dsimp only at hW);go_simp;refine(HOF.out _).mono ?_;rintro e w1 ⟨rfl,hb⟩;go_wp2_with fail;refine hK.out _ _ ?_ (fun hHeld=>?_);(focus((try dsimp only);(obtain⟨h0,h1,h2,h3,h4,h5,h6,h7,h8,h9,h10,h11,h12,hl',hr',hB'⟩:=hW;exact⟨bl_cell hb h0,bl_cell hb h1,bl_cell hb h2,bl_cell hb h3,bl_cell hb h4,bl_cell hb h5,bl_cell hb h6,bl_cell hb h7,bl_cell hb h8,bl_cell hb h9,bl_cell hb h10,bl_cell hb h11,bl_cell hb h12,log_bl hl' hb,res_bl hr' hb,bl_then hB' hb⟩)));clear hK K;try simp only[Act.put,List.setIfInBounds_toArray,List.set_cons_zero,List.set_cons_succ])
  (refine callH (i:=5) rfl hHeld (fun W hW K hK=>?_);clear hHeld;(try dsimp only at hW);have hwl:=hW.2.2.2.2.2.2.2.2.2.2.2.2.2.1;have hrl:=res_lt hW.2.2.2.2.2.2.2.2.2.2.2.2.2.2.1;have hbw:=hW.2.2.2.2.2.2.2.2.2.2.2.2.2.2.2;go_simp;refine(HKC.out _ hwl).mono ?_;rintro e w2 ⟨a9,n9,c9,rfl,hl9,hs9,hb⟩;dsimp only;go_wp2_with fail;refine hK.out _ _ ?_ (fun hHeld=>?_);(focus((try dsimp only);(obtain⟨h0,h1,h2,h3,h4,h5,h6,h7,h8,h9,h10,h11,h12,hl',hr',hB'⟩:=hW;exact⟨bl_cell hb h0,bl_cell hb h1,bl_cell hb h2,bl_cell hb h3,bl_cell hb h4,bl_cell hb h5,bl_cell hb h6,bl_cell hb h7,bl_cell hb h8,bl_cell hb h9,bl_cell hb h10,bl_cell hb h11,bl_cell hb h12,log_bl hl' hb,res_bl hr' hb,bl_then hB' hb⟩)));clear hK K;try simp only[Act.put,List.setIfInBounds_toArray,List.set_cons_zero,List.set_cons_succ])
  refine tkx 6 ?_
  refine tkx 7 ?_
  (refine callC (i:=8) rfl (fun K hK=>?_);obtain⟨h0,h1,h2,h3,h4,h5,h6,h7,h8,h9,h10,h11,h12,hl',hr',hB'⟩:=hHeld;obtain⟨f0,f1,f2,f3,u0,u1,u2,u3,i0,i1,i2,i3⟩:=res_all hr';have hne:=src_ne (b:=w.heap.size+1+1+1) HL.out hs9 (by omega) (by omega);have hso:=src_out (w:=w) hs9 hbw.size;have HNE:=Go.Lib.hid hne;have HSO:=Go.Lib.hid hso;have HL9:=Go.Lib.hid hl9;clear hne hso hs9 hl9;unfold St.v;go_simp;refine hK.out _ _ ?_ (fun hHeld=>?_);(focus((try dsimp only);(have e0:w.heap.size+1+1+1≠w.heap.size:=(by omega);have e1:w.heap.size+1+1+1≠w.heap.size+1:=(by omega);have e2:w.heap.size+1+1+1≠w.heap.size+1+1:=(by omega);exact⟨far4 h0 e0,far4 h1 e0,far4 h2 e0,far4 h3 e0,far4 h4 e0,far4 h5 e0,far4 h6 e1,far4 h7 e1,far4 h8 e1,far4 h9 e1,far4 h10 e2,far4 h11 e2,far4 h12 e2,log_set4 hl' (fun ad e hn=>by have:=log_lt HL.out ad e hn;omega),res4 hr',bl4 hB' (by omega)⟩)));clear hK K;try simp only[Act.put,List.setIfInBounds_toArray,List.set_cons_zero,List.set_cons_succ])
  refine tkx 9 ?_
  refine wpAnyH_done (by kernel_rfl) ?_ _
  obtain⟨-,-,-,-,-,-,-,-,-,-,-,-,-,-,-,hE⟩:=hHeld
  repeat' (first|go_skip|go_guarded|go_step|go_upon)
  (try simp only[Exit.inBlock,Exit.then])
  refine bodyPost_ret (results_state2 rfl _ _ (by rfl) (set4r hr')) rfl ⟨a9,n9,c9,rfl,log_set4 HL9.out HNE.out,HSO.out,hE⟩
def runP (p:Pol):St→List Ac→St × List Bool
  | s,[]=>(s,[])
  | s,x :: l=>((runP p (doP p s x).1 l).1,(doP p s x).2 :: (runP p (doP p s x).1 l).2)
theorem runP_snoc (p:Pol) (x:Ac):∀ (l:List Ac) (s:St),runP p s (l ++ [x])=((doP p (runP p s l).1 x).1,(runP p s l).2 ++ [(doP p (runP p s l).1 x).2])
  | [],s=>rfl
  | y :: l,s=>by
    show((runP p (doP p s y).1 (l ++ [x])).1,(doP p s y).2 :: (runP p (doP p s y).1 (l ++ [x])).2)=_
    rw[runP_snoc p x l]
    rfl
theorem runP_take (p:Pol) (s:St) (l:List Ac) (k:Nat) (h:k<l.length):runP p s (l.take (k+1))=((doP p (runP p s (l.take k)).1 (l.getD k ⟨0,0,0⟩)).1,(runP p s (l.take k)).2 ++ [(doP p (runP p s (l.take k)).1 (l.getD k ⟨0,0,0⟩)).2]):=by
  have e:l.take (k+1)=l.take k ++ [l.getD k ⟨0,0,0⟩]:=by
    rw[List.take_add_one,List.getD_eq_getElem?_getD,List.getElem?_eq_getElem h];rfl
  rw[e,runP_snoc]
theorem runP_len (p:Pol):∀ (l:List Ac) (s:St),(runP p s l).2.length=l.length
  | [],s=>rfl
  | y :: l,s=>by show(_ :: (runP p _ l).2).length=_;simp[runP_len p l]
/-- Acts in memory. -/
def ActsIn (w:World) (a:Option Addr) (n c:Nat) (L:List Ac):Prop :=
  L.length=n∧n≤c∧c≤9223372036854775807∧∀ i,i<n→∃ b off,a=some ⟨b,off,none⟩∧w.cell? ⟨b,off+i*3,none⟩=some (.int .i64 (L.getD i ⟨0,0,0⟩).kind)∧w.cell? ⟨b,off+i*3+1,none⟩=some (.int .i64 (L.getD i ⟨0,0,0⟩).now)∧w.cell? ⟨b,off+i*3+2,none⟩=some (.int .i64 (L.getD i ⟨0,0,0⟩).cost)
theorem actsin_bl {w w':World} {a:Option Addr} {n c:Nat} {L:List Ac} (h:ActsIn w a n c L) (hb:Below w.heap.size w w'):ActsIn w' a n c L :=
  ⟨h.1,h.2.1,h.2.2.1,fun i hi=>by
    obtain⟨b,off,e,h1,h2,h3⟩:=h.2.2.2 i hi
    exact⟨b,off,e,bl_cell hb h1,bl_cell hb h2,bl_cell hb h3⟩⟩
/-- Answers of one's own. -/
def OwnB (w:World) (base:Nat) (v:Value) (n:Nat) (bs:List Bool):Prop:=w.ownsRow base 4 1 v n (bs.map Value.bool)
/-- A log that is empty, or new. -/
def Frs (base:Nat) (a:Option Addr) (n:Nat):Prop:=n=0∨∀ ad,a=some ad→base≤ad.block
theorem frs_src {base:Nat} {a0 a:Option Addr} {n0 n:Nat} {w:World} (h:Frs base a0 n0) (hs:Src a0 n0 w a n) (hb:base≤w.heap.size):Frs base a n:=by
  rcases hs with hs|⟨rfl,rfl⟩|hs
  · exact .inl hs
  · exact h
  · exact .inr fun ad e=>Nat.le_trans hb (hs ad e)
theorem frs_mono {base base':Nat} {a:Option Addr} {n:Nat} (h:Frs base a n) (hb:base'≤base):Frs base' a n:=by
  rcases h with h|h
  · exact .inl h
  · exact .inr fun ad e=>Nat.le_trans hb (h ad e)
theorem own_frs {w:World} {base:Nat} {a:Option Addr} {n c:Nat} {L:List (Int × Int)} (h:OwnLog w base (.slice a n c) n L):Frs base a n :=
  .inr (fun ad e=>by subst e;exact(World.ownsRow.lt h _ rfl).1)
theorem infoB:(Tryz.prog.info? 4).map (fun i=>(i.zero,i.size,i.bytes))=some (some (.bool false),1,1):=by kernel_rfl
theorem undB:Tryz.prog.underlying 30=some (.slice 4):=by kernel_rfl

theorem log_cells {w:World} {ad:Addr} {n c:Nat} {L:List (Int × Int)} (h:LogAt w (some ad) n c L):∀ j u,(cellsL L)[j]?=some u→w.cell? (ad.add j)=some u:=by
  by_cases hn0:n=0
  · subst hn0
    have hL:L=[]:=List.length_eq_zero_iff.1 h.1
    subst hL
    intro j u hj
    simp[cellsL] at hj
  · obtain⟨b,off,e,-⟩:=h.2.2.2 0 (by omega)
    injection e with e
    subst e
    refine cellsL_at fun i hi=>?_
    obtain⟨b',off',e',h1,h2⟩:=h.2.2.2 i (by rw[← h.1];exact hi)
    injection e' with e'
    injection e' with e1 e2
    subst e1 e2
    exact⟨h1,h2⟩
theorem run_log (a:Option Addr) (n c:Nat) (L:List (Int × Int)) (w:World) (ty:TypeId) (hl:LogAt w a n c L) (hn:n≤1000) :
    ∃ v' w',(Builtin.append_ #[24,24] ty #[.slice none 0 0,.slice a n c]).run Tryz.prog w=.ok v' w'∧OwnLog w' w.heap.size v' n L∧Below w.heap.size w w':=by
  obtain⟨i0,hi,hz0,hz1,hz2⟩:=info_parts infoE
  cases a with
  | none =>
    have hn0:n=0:=by
      cases n with
      | zero=>rfl
      | succ m=>obtain⟨b,off,e,-⟩:=hl.2.2.2 0 (by omega);cases e
    subst hn0
    have hL:L=[]:=List.length_eq_zero_iff.1 hl.1
    subst hL
    refine⟨.slice none 0 0,w,?_,⟨rfl,.inl ⟨rfl,rfl⟩⟩,Below.refl _ _⟩
    simp[Builtin.append_,run_underlying undS,sizeOf,typeInfo,hi,Builtin.lenOf,Builtin.firstCells]
  | some ad =>
    obtain⟨v',w',h1,h2,h3,-⟩:=run_append_own w w.heap.size 24 ty 82 i0 (.agg #[.int .i64 0,.int .i64 0]) 2 16 undS hi hz0 hz1 hz2 rfl (by decide) (.slice none 0 0) 0 [] ⟨rfl,.inl ⟨rfl,rfl⟩⟩ ad n c (cellsL L) (by rw[cellsL_len,hl.1]) (log_cells hl) (cellsL_one L) (by rw[Nat.zero_add];simp only[maxLen];omega) (by omega) (Nat.le_refl _)
    refine⟨v',w',h1,by simpa [OwnLog] using h2,?_⟩
    exact(Below.refl _ w).grown h3 (Nat.le_refl _) (fun k hk=>by cases hk)
/-- Memory that was there is as it was. -/
def Nxt (w w':World):Prop:=Below w.heap.size w w'
/-- Entries in memory that was not there. -/
def OwnNew (w w':World) (v:Value) (n:Nat) (L:List (Int × Int)):Prop:=OwnLog w' w.heap.size v n L
theorem wpList_log {ops:Array Oper} {rest:List Oper} {o:Oper} {x0:Act} {Q:Exit→Act→World→Prop} (w:World) (hgd:o.guard=none) (s x:Operand)
    (ho:o.op=.call { callee:=.builtin .append,args := #[s,x],argTypes := #[24,24] })
    (hs:x0.eval s=.slice none 0 0) (a:Option Addr) (n c:Nat) (L:List (Int × Int)) (hx:x0.eval x=.slice a n c) (hl:LogAt w a n c L) (hn:n≤1000)
    (h:∀ v' w',OwnNew w w' v' n L→Nxt w w'→wpList Tryz.prog ops Q rest (x0.put o.dst v') w'):wpList Tryz.prog ops Q (o :: rest) x0 w :=
  wpList_plain hgd fun K hK=>by
    obtain⟨v',w',hr,h2,h3⟩:=run_log a n c L w o.type hl hn
    unfold Oper.wp execOp
    simp only[ho,resolve,invoke,builtin,Sem.run_bind,Sem.run_pure,Result.andThen_ok,List.map_toArray,List.map_cons,List.map_nil,hs,hx,hr]
    exact hK _ _ (h v' w' h2 h3)

/-! ### answers put behind one another -/
theorem ownsRow_bl {w w':World} {base e size:Nat} {v:Value} {n:Nat} {xs:List Value} (h:w.ownsRow base e size v n xs) (hb:Below w.heap.size w w'):w'.ownsRow base e size v n xs:=by
  obtain⟨hl,h⟩:=h
  refine⟨hl,?_⟩
  rcases h with h|⟨g,cap,cur,rfl,h2,h3,h4⟩
  · exact .inl h
  · refine .inr ⟨g,cap,cur,rfl,h2,?_,h4⟩
    rw[hb.block g (Array.getElem?_eq_some_iff.1 h3).1]
    exact h3
theorem rowMono {w:World} {base base' e size:Nat} {v:Value} {n:Nat} {xs:List Value} (h:w.ownsRow base e size v n xs) (hb:base'≤base):w.ownsRow base' e size v n xs:=by
  obtain⟨hl,h⟩:=h
  refine⟨hl,?_⟩
  rcases h with h|⟨g,cap,cur,h1,h2,h3⟩
  · exact .inl h
  · exact .inr ⟨g,cap,cur,h1,Nat.le_trans hb h2,h3⟩
theorem ownsRow_set4 {w:World} {base b e size:Nat} {v v0 v1 v2 v3:Value} {n:Nat} {xs:List Value} (h:w.ownsRow base e size v n xs) (hb:b<base) :
    ((((w.setCell ⟨b,0,none⟩ v0).setCell ⟨b,1,none⟩ v1).setCell ⟨b,2,none⟩ v2).setCell ⟨b,3,none⟩ v3).ownsRow base e size v n xs:=by
  obtain⟨hl,h⟩:=h
  refine⟨hl,?_⟩
  rcases h with h|⟨g,cap,cur,h1,h2,h3,h4⟩
  · exact .inl h
  · refine .inr ⟨g,cap,cur,h1,h2,?_,h4⟩
    rw[Below.heap_setCell _ _ _ _ (by dsimp only;omega),Below.heap_setCell _ _ _ _ (by dsimp only;omega),Below.heap_setCell _ _ _ _ (by dsimp only;omega),Below.heap_setCell _ _ _ _ (by dsimp only;omega)]
    exact h3
/-- A log does not lie where answers lie. -/
def Apt (a:Option Addr) (n:Nat) (vb:Value):Prop:=n=0∨∀ ad,a=some ad→∀ g,vb.ownBlock=some g→g≠ad.block
theorem apt_src {base:Nat} {a0 a:Option Addr} {n0 n m:Nat} {w:World} {vb:Value} {bs:List Bool} (h:Apt a0 n0 vb) (hs:Src a0 n0 w a n) (ho:OwnB w base vb m bs):Apt a n vb:=by
  rcases hs with hs|⟨rfl,rfl⟩|hs
  · exact .inl hs
  · exact h
  · refine .inr fun ad e g hg=>?_
    have:=hs ad e
    have:=(World.ownsRow.lt ho g hg).2
    omega
theorem log_grown {w w':World} {a:Option Addr} {n c:Nat} {L:List (Int × Int)} {vb:Value} (h:LogAt w a n c L) (hg:w.grownBy w' vb.ownBlock) (ha:Apt a n vb):LogAt w' a n c L :=
  ⟨h.1,h.2.1,h.2.2.1,fun i hi=>by
    obtain⟨b,off,e,h1,h2⟩:=h.2.2.2 i hi
    have hne:some b≠vb.ownBlock:=by
      intro he
      rcases ha with ha|ha
      · omega
      · exact ha _ e b he.symm rfl
    exact⟨b,off,e,grown_cell hg h1 hne,grown_cell hg h2 hne⟩⟩
theorem run_bool (base:Nat) (v:Value) (n:Nat) (bs:List Bool) (w:World) (ty:TypeId) (q:Nat) (c:Nat) (u:Bool) (hown:OwnB w base v n bs) (hcell:w.cell? ⟨q,0,none⟩=some (.bool u)) (hn:n≤1000) (hbase:base≤w.heap.size) :
    ∃ v' w',(Builtin.append_ #[30,30] ty #[v,.slice (some ⟨q,0,none⟩) 1 c]).run Tryz.prog w=.ok v' w'∧OwnB w' base v' (n+1) (bs ++ [u])∧w.grownBy w' v.ownBlock∧∀ g,v'.ownBlock=some g→v.ownBlock=some g∨w.heap.size≤g:=by
  obtain⟨i0,hi,hz0,hz1,hz2⟩:=info_parts infoB
  have hnews:∀ j x,([Value.bool u]:List Value)[j]?=some x→w.cell? ((⟨q,0,none⟩:Addr).add j)=some x:=fun j x hx=>by
    cases j with
    | zero=>simp at hx;subst hx;rw[Addr.add_lit];exact hcell
    | succ j=>simp at hx
  have hone:∀ x ∈ ([Value.bool u]:List Value),x.oneCell'=true:=fun x hx=>by simp at hx;subst hx;rfl
  obtain⟨v',w',h1,h2,h3,-⟩:=run_append_own w base 30 ty 4 i0 (.bool false) 1 1 undB hi hz0 hz1 hz2 rfl (by decide) v n (bs.map Value.bool) hown ⟨q,0,none⟩ 1 c [.bool u] rfl hnews hone (by simp only[maxLen];omega) (by omega) hbase
  refine⟨v',w',h1,by unfold OwnB;rw[List.map_append];exact h2,h3,?_⟩
  have hown2:=hown
  rcases hown.2 with⟨rfl,hx⟩|⟨g,cap,cur,rfl,hbg,hg,hnc,hcm,hcs,htake⟩
  · obtain⟨v2,w2,g1,g2,-,-⟩:=run_append_own w w.heap.size 30 ty 4 i0 (.bool false) 1 1 undB hi hz0 hz1 hz2 rfl (by decide) (.slice none 0 0) n (bs.map Value.bool) ⟨hown.1,.inl ⟨rfl,hx⟩⟩ ⟨q,0,none⟩ 1 c [.bool u] rfl hnews hone (by simp only[maxLen];omega) (by omega) (Nat.le_refl _)
    rw[h1] at g1
    injection g1 with g1 _
    subst g1
    intro g hg
    exact .inr (World.ownsRow.lt g2 g hg).1
  · by_cases hroom:n+1≤cap
    · have hfit:n*i0.size+([Value.bool u]:List Value).length≤cur.size:=by rw[hz1,hcs];simp;omega
      have hr:=run_append_room (P:=Tryz.prog) w 30 ty 4 i0 undB hi g n cap cur hg ⟨q,0,none⟩ 1 c [.bool u] (by rw[hz1];rfl) hnews hone hroom hfit
      rw[h1] at hr
      injection hr with hr _
      subst hr
      intro g' hg'
      exact .inl hg'
    · obtain⟨v2,w2,g1,g2,-⟩:=run_append_arg_grows (P:=Tryz.prog) w 30 ty 4 i0 (.bool false) 1 1 undB hi hz0 hz1 hz2 rfl (by decide) ⟨g,0,none⟩ n cap (bs.map Value.bool) hown.1 (hown2.cells (g:=g) rfl) ⟨q,0,none⟩ 1 c [.bool u] rfl hnews (by omega) (by simp only[maxLen];omega) (by omega)
      rw[h1] at g1
      injection g1 with g1 _
      subst g1
      intro g hg
      exact .inr (World.ownsRow.lt g2 g hg).1
theorem wp_bool {o:Oper} {x0:Act} {K:Act→World→Prop} {Q:Exit→Act→World→Prop} (w:World) (s x:Operand)
    (ho:o.op=.call { callee:=.builtin .append,args := #[s,x],argTypes := #[30,30] })
    (base:Nat) (v:Value) (n:Nat) (bs:List Bool) (hs:x0.eval s=v) (hown:OwnB w base v n bs) (q:Nat) (c:Nat) (u:Bool) (hx:x0.eval x=.slice (some ⟨q,0,none⟩) 1 c) (hcell:w.cell? ⟨q,0,none⟩=some (.bool u)) (hn:n≤1000) (hbase:base≤w.heap.size)
    (h:∀ v' w',OwnB w' base v' (n+1) (bs ++ [u])→w.grownBy w' v.ownBlock→(∀ g,v'.ownBlock=some g→v.ownBlock=some g∨w.heap.size≤g)→K (x0.put o.dst v') w'):o.wp Tryz.prog x0 w K Q:=by
  obtain⟨v',w',hr,h2,h3,h4⟩:=run_bool base v n bs w o.type q c u hown hcell hn hbase
  unfold Oper.wp execOp
  simp only[ho,resolve,invoke,builtin,Sem.run_bind,Sem.run_pure,Result.andThen_ok,List.map_toArray,List.map_cons,List.map_nil,hs,hx,hr]
  exact h v' w' h2 h3 h4
theorem sz_bl {w w':World} {B:Nat} (h:B≤w.heap.size) (hb:Below w.heap.size w w'):B≤w'.heap.size:=Nat.le_trans h hb.size
theorem sz_set {w:World} {a:Addr} {v:Value} {B:Nat} (h:B≤w.heap.size):B≤(w.setCell a v).heap.size:=by simpa using h
theorem cellsL_app (A B:List (Int × Int)):cellsL (A ++ B)=cellsL A ++ cellsL B:=by
  induction A with
  | nil=>rfl
  | cons e l ih=>simp only[List.cons_append,cellsL,ih]
theorem wp_entry {o:Oper} {x0:Act} {K:Act→World→Prop} {Q:Exit→Act→World→Prop} (w:World) (s x:Operand)
    (ho:o.op=.call { callee:=.builtin .append,args := #[s,x],argTypes := #[24,24] })
    (base:Nat) (v:Value) (n:Nat) (L:List (Int × Int)) (hs:x0.eval s=v) (hown:OwnLog w base v n L) (q c:Nat) (T C:Int) (hx:x0.eval x=.slice (some ⟨q,0,none⟩) 1 c)
    (h0:w.cell? ⟨q,0,none⟩=some (.int .i64 T)) (h1:w.cell? ⟨q,1,none⟩=some (.int .i64 C)) (hn:n≤1000) (hbase:base≤w.heap.size)
    (h:∀ v' w',OwnLog w' base v' (n+1) (L ++ [(T,C)])→w.grownBy w' v.ownBlock→K (x0.put o.dst v') w'):o.wp Tryz.prog x0 w K Q:=by
  obtain⟨i0,hi,hz0,hz1,hz2⟩:=info_parts infoE
  have hnews:∀ j x,(cellsL [(T,C)])[j]?=some x→w.cell? ((⟨q,0,none⟩:Addr).add j)=some x:=fun j x hx=>by
    match j with
    | 0=>simp[cellsL] at hx;subst hx;rw[Addr.add_lit];exact h0
    | 1=>simp[cellsL] at hx;subst hx;rw[Addr.add_lit];exact h1
    | j+2=>simp[cellsL] at hx
  obtain⟨v',w',hr,h2,h3,-⟩:=run_append_own w base 24 o.type 82 i0 (.agg #[.int .i64 0,.int .i64 0]) 2 16 undS hi hz0 hz1 hz2 rfl (by decide) v n (cellsL L) hown ⟨q,0,none⟩ 1 c (cellsL [(T,C)]) rfl hnews (cellsL_one _) (by simp only[maxLen];omega) (by omega) hbase
  have h2':OwnLog w' base v' (n+1) (L ++ [(T,C)]):=by unfold OwnLog;rw[cellsL_app];exact h2
  unfold Oper.wp execOp
  simp only[ho,resolve,invoke,builtin,Sem.run_bind,Sem.run_pure,Result.andThen_ok,List.map_toArray,List.map_cons,List.map_nil,hs,hx,hr]
  exact h v' w' h2' h3
/-- Two cells that may be written. -/
def Res2 (w:World) (b:Nat):Prop:=∀ i,i<2→w.frozen? ⟨b,i,none⟩=false∧(w.cell? ⟨b,i,none⟩).isSome=true
theorem res2_new (w:World) (c0 c1:Value) (t:TypeId) {b:Nat} (hb:b=w.heap.size):Res2 (w.alloc (.cells #[c0,c1] t)) b:=by
  subst hb
  intro i hi
  have:i=0∨i=1:=by omega
  rcases this with rfl|rfl <;> exact⟨by simp,by simp⟩
theorem res2_lt {w:World} {b:Nat} (h:Res2 w b):b<w.heap.size:=by
  obtain⟨u,hu⟩:=Option.isSome_iff_exists.1 (h 0 (by omega)).2
  exact World.block_lt_of_cell? w _ hu
theorem res2_bl {w w':World} {b:Nat} (h:Res2 w b) (hb:Below w.heap.size w w'):Res2 w' b:=fun i hi=>by
  have h1:=h i hi
  obtain⟨u,hu⟩:=Option.isSome_iff_exists.1 h1.2
  have hlt:b<w.heap.size:=World.block_lt_of_cell? w _ hu
  exact⟨by rw[hb.frozen (p:=⟨b,i,none⟩) hlt];exact h1.1,by rw[hb.cell (p:=⟨b,i,none⟩) hlt];exact h1.2⟩
theorem res2_set {w:World} {b:Nat} (h:Res2 w b) (a:Addr) (v:Value):Res2 (w.setCell a v) b:=fun i hi=>⟨by rw[World.frozen?_setCell];exact(h i hi).1,isSome_set (h i hi).2⟩
theorem res2_grown {w w':World} {row:Option Nat} {b:Nat} (hg:w.grownBy w' row) (h:Res2 w b) (hne:some b≠row):Res2 w' b:=fun i hi=>by
  have hb:=res2_lt h
  have h1:=h i hi
  simp only[World.cell?,World.frozen?,hg.block b hb hne] at h1 ⊢
  exact h1
theorem res2_all {w:World} {b:Nat} (h:Res2 w b):w.frozen? ⟨b,0,none⟩=false∧w.frozen? ⟨b,1,none⟩=false∧∃ u0 u1,w.cell? ⟨b,0,none⟩=some u0∧w.cell? ⟨b,1,none⟩=some u1:=by
  obtain⟨u0,h0⟩:=Option.isSome_iff_exists.1 (h 0 (by omega)).2
  obtain⟨u1,h1⟩:=Option.isSome_iff_exists.1 (h 1 (by omega)).2
  exact⟨(h 0 (by omega)).1,(h 1 (by omega)).1,u0,u1,h0,h1⟩
/-- The first n cells of a block are these numbers. -/
def RowF (w:World) (g n:Nat) (f:Nat→Int):Prop:=∀ i,i<n→w.cell? ⟨g,i,none⟩=some (.int .i64 (f i))
theorem rowf_bl {w w':World} {g n:Nat} {f:Nat→Int} (h:RowF w g n f) (hb:Below w.heap.size w w'):RowF w' g n f:=fun i hi=>bl_cell hb (h i hi)
def OwnI (w:World) (base:Nat) (v:Value) (n:Nat) (f:Nat→Int):Prop:=w.ownsRow base 3 1 v n ((List.range n).map fun i=>Value.int .i64 (f i))
theorem infoI:(Tryz.prog.info? 3).map (fun i=>(i.zero,i.size,i.bytes))=some (some (.int .i64 0),1,8):=by kernel_rfl
theorem undN:Tryz.prog.underlying 109=some (.slice 3):=by kernel_rfl
theorem rowi_succ (f:Nat→Int) (n:Nat):(List.range (n+1)).map (fun i=>Value.int .i64 (f i))=(List.range n).map (fun i=>Value.int .i64 (f i)) ++ [.int .i64 (f n)]:=by rw[List.range_succ,List.map_append];rfl
theorem owni_row {w:World} {base g n c:Nat} {f:Nat→Int} (h:OwnI w base (.slice (some ⟨g,0,none⟩) n c) n f):RowF w g n f:=fun i hi=>by
  have:=World.ownsRow.cells h (g:=g) rfl i (.int .i64 (f i)) (by rw[List.getElem?_map,List.getElem?_range hi];rfl)
  rw[Addr.add_lit] at this
  simpa using this
theorem owni_form {w:World} {base n:Nat} {v:Value} {f:Nat→Int} (h:OwnI w base v n f):v=.slice none 0 0∧n=0∨∃ g cap,v=.slice (some ⟨g,0,none⟩) n cap:=by
  rcases h.2 with⟨rfl,hx⟩|⟨g,cap,cur,rfl,-⟩
  · exact .inl ⟨rfl,by simpa using hx⟩
  · exact .inr ⟨g,cap,rfl⟩
theorem owni_far {w:World} {base n:Nat} {v:Value} {f:Nat→Int} (h:OwnI w base v n f) (a:Addr) (u:Value) (ha:a.block<base):OwnI (w.setCell a u) base v n f:=by
  obtain⟨hl,h⟩:=h
  refine⟨hl,?_⟩
  rcases h with h|⟨g,cap,cur,h1,h2,h3,h4⟩
  · exact .inl h
  · refine .inr ⟨g,cap,cur,h1,h2,?_,h4⟩
    rw[Below.heap_setCell _ _ _ _ (by omega)]
    exact h3

def OfPost (n:Int) (w:World) (e:Ending) (w':World):Prop:=∃ g c,e=.returned (.agg #[.slice (some ⟨g,0,none⟩) 4 c,.int .i64 0])∧RowF w' g 4 (digN n)∧Below w.heap.size w w'
theorem results_big {fn:Func} {x:Tmp} (h:fn.results = #[.cell x 149]) (tmps:Array Value) (w:World) {b:Nat} {v0 v1:Value} (hx:tmps.getD x undef=.pointer (some ⟨b,0,none⟩))
    (hc:w.cell? ⟨b,0,none⟩=some v0∧w.cell? ⟨b,1,none⟩=some v1):(results fn tmps).run Tryz.prog w=.ok (.agg #[v0,v1]) w:=by
  obtain⟨i0,i1⟩:=hc
  have hx':tmps[x]?.getD undef=.pointer (some ⟨b,0,none⟩):=by simpa using hx
  unfold results
  simp[h,hx',go_sem,i0,i1]
theorem rof_any (n:Int) (h0:0≤n) (h1:n≤9007199254740992) (w:World):Calls Tryz.prog 170 #[.int .i64 n] w (OfPost n w):=by
  have hq:∀ j,0≤n / pw j∧n / pw j≤9007199254740992:=fun j=>⟨Int.ediv_nonneg h0 (by have:=pw_pos j;omega),Int.le_trans (Int.ediv_le_self _ h0) h1⟩
  have hd:∀ j,n / pw j % 65536=digN n j∧n / pw (j+1)=n / pw j / 65536:=fun j=>⟨rfl,div_pw n j⟩
  have hz:n / pw 0=n:=by show n / 1=n;exact Int.ediv_one n
  generalize hD:digN n=D at *
  generalize hF:(fun j=>n / pw j)=F at *
  have HQ:=Go.Lib.hid (show ∀ j,0≤F j∧F j≤9007199254740992 by rw[← hF];exact hq)
  have HD:=Go.Lib.hid (show ∀ j,F j % 65536=D j∧F (j+1)=F j / 65536 by rw[← hF];exact hd)
  have HZ:=Go.Lib.hid (show n=F 0 by rw[← hF];exact hz.symm)
  obtain⟨i0',hi,hz0,hz1,hz2⟩:=info_parts infoI
  have HI:=Go.Lib.hid (And.intro hi (And.intro hz0 (And.intro hz1 hz2)))
  have HDD:=Go.Lib.hid hD
  have hn0:¬ n<0:=by omega
  clear hq hd hz hF hD hi hz0 hz1 hz2 h0 h1
  go_enter Tryz.func170,Tryz.ntmps170
  go_wp2_with fail
  refine wp_abs (S0:=fun X=>Res2 X w.heap.size∧Res2 X (w.heap.size+1)∧X.cell? ⟨w.heap.size+1,0,none⟩=some (.slice none 0 0)∧X.cell? ⟨w.heap.size+1,1,none⟩=some (.int .i64 0)∧w.heap.size+1+1≤X.heap.size∧Below w.heap.size w X) ⟨res2_bl (res2_new _ _ _ _ rfl) (bl_alloc (bl_refl _) _),res2_new _ _ _ _ (by simp),by go_simp,by go_simp,by simp,bl_alloc (bl_alloc (bl_refl _) _) _⟩ ?_
  rintro W ⟨r2,t2,c0,c1,sz,hB⟩
  go_loopw [0,4] (fun s0 s4 wr=>∃ (j:Nat) (v:Value),s4=.int .i64 j∧j≤4∧s0=.int .i64 (F j)∧Hid (wr.cell? ⟨w.heap.size+1,0,none⟩=some v∧OwnI wr (w.heap.size+1+1) v j D∧Res2 wr w.heap.size∧Res2 wr (w.heap.size+1)∧wr.cell? ⟨w.heap.size+1,1,none⟩=some (.int .i64 0)∧w.heap.size+1+1≤wr.heap.size∧Below w.heap.size w wr))
    (fun _ s4 _=>4 - (intOf s4).toNat)
  case atStart=>exact⟨0,_,rfl,by omega,by rw[← HZ.out],⟨c0,⟨rfl,.inl ⟨rfl,rfl⟩⟩,r2,t2,c1,sz,hB⟩⟩
  case round =>
    clear r2 t2 c0 c1 sz hB
    obtain⟨j,v,rfl,hj,rfl,H⟩:=hrel
    obtain⟨c0,ow,r2,t2,c1,sz,hB⟩:=H.out
    clear H
    by_cases hjn:j<4
    · obtain ⟨q0,q1⟩:=HQ.out j
      obtain⟨d0,d1⟩:=HD.out j
      have HX:=Go.Lib.hid (And.intro d0 d1)
      generalize F j=m at *
      clear d0 d1
      have k0:(0:Int)≤(j:Int):=by omega
      have k1:(j:Int)<4:=by omega
      have m0:=Int.emod_nonneg m (show(65536:Int)≠0 by decide)
      have m9:=Int.emod_lt_of_pos m (show(0:Int)<65536 by decide)
      have m1:¬ m % 65536<0:=by omega
      have hj1:j+1≤4:=by omega
      obtain⟨f0,f1,u0,u1,i0,i1⟩:=res2_all t2
      have hi:=HI.out
      go_wp2_with (at_builtin;refine wpList_append_own _ rfl _ _ 109 rfl (w.heap.size+1+1) 3 i0' (.int .i64 0) 1 8 undN hi.1 hi.2.1 hi.2.2.1 hi.2.2.2 rfl (by decide) v j ((List.range j).map fun i=>Value.int .i64 (D i)) rfl ?qc0 ⟨wr.heap.size,0,none⟩ 1 1 [.int .i64 (m % 65536)] rfl ?qc1 ?qc2 ?qc3 ?qc4 ?qc5 ?qc6 ?_)
      case qc0=>exact World.ownsRow.alloc ow _
      case qc3=>first|rfl|(intro u hu;simp at hu;subst hu;rfl)
      case qc4=>simp only[maxLen];omega
      case qc5=>omega
      case qc6=>first|omega|(rw[World.size_alloc];omega)
      intro v5 w5 hown hgrow hnil
      have hown2:OwnI w5 (w.heap.size+1+1) v5 (j+1) D:=by unfold OwnI;rw[rowi_succ,← HX.out.1];exact hown
      have hne:∀ gg,Value.ownBlock v=some gg→w.heap.size+1+1≤gg:=fun gg hgg=>(World.ownsRow.lt ow gg hgg).1
      have e0:=grown_cell hgrow (bl_cell (bl_alloc (bl_refl wr) _) c1) (by intro he;have:=hne _ he.symm;omega)
      have eR:=res2_grown hgrow (res2_bl r2 (bl_alloc (bl_refl wr) _)) (by intro he;have:=hne _ he.symm;omega)
      have eT:=res2_grown hgrow (res2_bl t2 (bl_alloc (bl_refl wr) _)) (by intro he;have:=hne _ he.symm;omega)
      have eB:Below w.heap.size w w5:=(hB.alloc (by omega) _).grown hgrow (by rw[World.size_alloc];omega) (fun gg hgg=>by have:=hne gg hgg;omega)
      have eS:w.heap.size+1+1≤w5.heap.size:=by have:=hgrow.size;rw[World.size_alloc] at this;omega
      obtain ⟨g,cap,rfl⟩:∃ g cap,v5=.slice (some ⟨g,0,none⟩) (j+1) cap:=by
        rcases owni_form hown2 with⟨-,h⟩|h
        · omega
        · exact h
      clear hown hgrow hnil ow r2 t2 c0 c1 hB sz f0 f1 i0 i1 hne
      obtain⟨f0,f1,u0,u1,i0,i1⟩:=res2_all eT
      have HY:=Go.Lib.hid hown2
      clear hown2
      go_wp2_with fail
      go_roundw
      case rel=>exact⟨j+1,_,by go_num,hj1,by rw[HX.out.2],⟨World.cell?_setCell_same' w5 ⟨w.heap.size+1,0,none⟩ _ (by rw[i0];rfl),owni_far HY.out _ _ (by dsimp only;omega),res2_set eR _ _,res2_set eT _ _,set_other e0 _ (by simp),by simpa using eS,bl_set eB (by dsimp only;omega) _⟩⟩
      case measure=>simp[intOf];omega
    · have hje:j=4:=by omega
      subst hje
      obtain ⟨g,cap,rfl⟩:∃ g cap,v=.slice (some ⟨g,0,none⟩) 4 cap:=by
        rcases owni_form ow with⟨-,h⟩|h
        · omega
        · exact h
      have hgl:=World.ownsRow.lt ow g rfl
      have HR:=Go.Lib.hid (owni_row ow)
      obtain⟨f0,f1,u0,u1,i0,i1⟩:=res2_all r2
      clear ow
      go_wp2_with fail
      (try simp only[Exit.inBlock,Exit.then,Exit.noGoto_ret])
      refine bodyPost_ret (results_big rfl _ _ (by rfl) ⟨set_other (World.cell?_setCell_same' wr ⟨w.heap.size,0,none⟩ _ (by rw[i0];rfl)) _ (by simp),World.cell?_setCell_same' _ ⟨w.heap.size,1,none⟩ _ (by exact isSome_set (by rw[i1];rfl))⟩) rfl ⟨g,cap,rfl,?_,bl_set (bl_set hB (Nat.le_refl _) _) (Nat.le_refl _) _⟩
      rw[HDD.out]
      exact fun i hi=>far_set (far_set (HR.out i hi) _ _ (by dsimp only;omega)) _ _ (by dsimp only;omega)

/-- What cmp answers: above 0 where the first one is more. -/
def CmpPost (f g:Nat→Int) (w:World) (e:Ending) (w':World):Prop:=∃ r:Int,e=.returned (.int .i64 r)∧(0<r↔valN g 9<valN f 9)∧w=w'
theorem rcmp_any (g1 c1 g2 c2:Nat) (f g:Nat→Int) (hf:Digs f) (hg:Digs g) (hz:∀ i,4≤i→g i=0) (w:World) (h1:RowF w g1 9 f) (h2:RowF w g2 4 g) :
    Calls Tryz.prog 182 #[.slice (some ⟨g1,0,none⟩) 9 c1,.slice (some ⟨g2,0,none⟩) 4 c2] w (CmpPost f g w):=by
  have H1:=Go.Lib.hid h1
  have H2:=Go.Lib.hid h2
  have HF:=Go.Lib.hid hf
  have HG:=Go.Lib.hid hg
  have HZ:=Go.Lib.hid hz
  clear h1 h2 hf hg hz
  go_enter Tryz.func182,Tryz.ntmps182
  go_wp2_with fail
  go_loop [5] (fun s5=>∃ i:Nat,s5=.int .i64 ((i:Int) - 1)∧i≤9∧Hid (∀ j,i≤j→j<9→f j=g j)) (fun s5=>(intOf s5+1).toNat)
  case atStart=>exact⟨9,rfl,by omega,fun j a b=>by omega⟩
  case round =>
    obtain⟨i,rfl,hi,HE⟩:=hrel
    cases i with
    | zero =>
      have heq:=valN_same (f:=f) (g:=g) 0 9 HE.out (by omega)
      have hv:valN f 9=valN g 9:=by have e:valN f 0 - valN g 0=0:=rfl;omega
      have HV:=Go.Lib.hid hv
      clear hv heq
      go_wp2_with fail
      go_ret
      exact⟨0,rfl,by rw[HV.out];omega,rfl⟩
    | succ k =>
      have hc:((k+1:Nat):Int) - 1=(k:Int):=by omega
      rw[hc]
      clear hc
      have a1:=H1.out k (by omega)
      have df:=HF.out k
      have dg:=HG.out k
      have hmore:=valN_more HF.out HG.out (show k<9 by omega) HE.out
      have k0:(0:Int)≤(k:Int):=by omega
      have k1:(k:Int)<9:=by omega
      have wk:IntKind.i64.wrap ((k:Int) - 1)=(k:Int) - 1:=IntWalk.i64_in _ (by omega)
      have HM:=Go.Lib.hid hmore
      clear hmore
      by_cases h4:k<4
      · have a2:=H2.out k h4
        have k4:(k:Int)<4:=by omega
        have heq:f k=g k→∀ j,k≤j→j<9→f j=g j:=fun e j hj hj9=>by
          by_cases e2:j=k
          · subst e2;exact e
          · exact HE.out j (by omega) hj9
        have HQ:=Go.Lib.hid heq
        generalize f k=x at *
        generalize g k=y at *
        have wx:IntKind.i64.wrap (x - y)=x - y:=IntWalk.i64_in _ (by omega)
        by_cases e:x=y
        · have HQ2:=Go.Lib.hid (HQ.out e)
          have hxy:(x == y)=true:=by simpa using e
          subst e
          clear HQ HM heq
          go_wp2_with fail
          go_round
          case rel=>exact⟨k,rfl,by omega,HQ2⟩
          case measure=>(simp[intOf] <;> omega)
        · clear HQ heq
          have hxy:(x == y)=false:=by simpa using e
          go_wp2_with fail
          go_ret
          refine⟨x - y,rfl,?_,rfl⟩
          have:=HM.out
          constructor
          · intro h;exact this.1 (by omega)
          · intro h
            by_cases h9:y<x
            · omega
            · have:=this.2 (by omega);omega
      · have k4:¬ (k:Int)<4:=by omega
        have gz:=HZ.out k (by omega)
        rw[gz] at HM dg
        have heq:f k=0→∀ j,k≤j→j<9→f j=g j:=fun e j hj hj9=>by
          by_cases e2:j=k
          · subst e2;rw[e,gz]
          · exact HE.out j (by omega) hj9
        have HQ:=Go.Lib.hid heq
        clear gz heq
        generalize f k=x at *
        by_cases e:x=0
        · have HQ2:=Go.Lib.hid (HQ.out e)
          subst e
          clear HQ HM
          go_wp2_with fail
          go_round
          case rel=>exact⟨k,rfl,by omega,HQ2⟩
          case measure=>(simp[intOf] <;> omega)
        · clear HQ
          have hxy:(x == 0)=false:=by simpa using e
          have wx:IntKind.i64.wrap (x - 0)=x:=by rw[Int.sub_zero];exact IntWalk.i64_in _ (by omega)
          go_wp2_with fail
          go_ret
          refine⟨x,rfl,?_,rfl⟩
          have:=HM.out
          constructor
          · intro h;exact this.1 (by omega)
          · intro h;omega

theorem rnumber_any (g1 c1:Nat) (f:Nat→Int) (hf:Digs f) (w:World) (h1:RowF w g1 9 f) :
    Calls Tryz.prog 171 #[.agg #[.slice (some ⟨g1,0,none⟩) 9 c1,.int .i64 0]] w fun e w'=>e=.returned (.tuple #[.int .i64 (if valN f 9≤9223372036854775807 then valN f 9 else 0),.bool (decide (valN f 9≤9223372036854775807))])∧Below w.heap.size w w':=by
  have hcm:=fun g2 c2 w h1 h2=>rcmp_any g1 c1 g2 c2 f mostN hf mostN_digs (fun i hi=>by unfold mostN;rw[if_neg (by omega),if_neg (by omega)]) w h1 h2
  unfold CmpPost at hcm
  rw[mostN_val 5] at hcm
  have HCM:=Go.Lib.hid hcm
  have HF:=Go.Lib.hid hf
  have H1:=Go.Lib.hid h1
  have hv0:=(valN_bound hf 9).1
  have htop:valN f 9=topN f 0 9:=by have h:=top_val f 9 0;rw[show 0+9=9 from rfl] at h;rw[h];show 0+topN f 0 9*1=_;omega
  have HT:=Go.Lib.hid htop
  have hle:∀ i,i≤9→0≤topN f i (9 - i)∧topN f i (9 - i)≤valN f 9:=fun i hi=>⟨top_pos hf _ _,by have h:=top_le hf (9 - i) i;rw[show i+(9 - i)=9 by omega] at h;exact h⟩
  have HLE:=Go.Lib.hid hle
  generalize hV:valN f 9=V at *
  have hlt:=(show g1<w.heap.size from World.block_lt_of_cell? w _ (h1 0 (by omega)))
  clear hcm hf h1 htop hle hV
  by_cases hm:V≤9223372036854775807
  · rw [if_pos hm,decide_eq_true hm]
    go_enter Tryz.func171,Tryz.ntmps171
    go_wp2_with fail
    refine(HCM.out _ _ _ (rowf_bl H1.out (bl_alloc (bl_alloc (bl_alloc (bl_refl _) _) _) _)) ?_).mono ?_
    · intro i hi
      have:i=0∨i=1∨i=2∨i=3:=by omega
      rcases this with rfl|rfl|rfl|rfl <;> (unfold mostN;go_simp)
    rintro e w1 ⟨r,rfl,hr,rfl⟩
    have hr0:¬ 0<r:=fun z=>by have:=hr.1 z;omega
    clear hr
    go_wp2_with fail
    refine wp_abs (S0:=fun X=>X.cell? ⟨w.heap.size,0,none⟩=some (.slice (some ⟨g1,0,none⟩) 9 c1)∧X.cell? ⟨w.heap.size,1,none⟩=some (.int .i64 0)∧RowF X g1 9 f∧Below w.heap.size w X) ⟨by go_simp,by go_simp,rowf_bl H1.out (bl_alloc (bl_alloc (bl_alloc (bl_refl _) _) _) _),bl_alloc (bl_alloc (bl_alloc (bl_refl _) _) _) _⟩ ?_
    rintro W ⟨b0,b1,hrow,hB⟩
    have HROW:=Go.Lib.hid hrow
    clear hrow
    go_loop [6,7] (fun s6 s7=>∃ i:Nat,s7=.int .i64 ((i:Int) - 1)∧i≤9∧s6=.int .i64 (topN f i (9 - i))) (fun _ s7=>(intOf s7+1).toNat)
    case atStart=>exact⟨9,rfl,by omega,rfl⟩
    case round =>
      obtain⟨i,rfl,hi,rfl⟩:=hrel
      cases i with
      | zero =>
        have hT:=HT.out
        rw[show(9 - 0:Nat)=9 from rfl,← hT]
        clear hT
        go_wp2_with fail
        go_ret2
        exact⟨rfl,hB⟩
      | succ k =>
        have hc:((k+1:Nat):Int) - 1=(k:Int):=by omega
        rw[hc]
        clear hc
        have a1:=HROW.out k (by omega)
        have df:=HF.out k
        have l1:=HLE.out k (by omega)
        have l2:=HLE.out (k+1) (by omega)
        have e1:topN f k (9 - k)=f k+65536*topN f (k+1) (9 - (k+1)):=by rw[show 9 - k=(9 - (k+1))+1 by omega];rfl
        have HE:=Go.Lib.hid e1
        rw[e1] at l1
        generalize topN f (k+1) (9 - (k+1))=tp at *
        generalize f k=x at *
        have k0:(0:Int)≤(k:Int):=by omega
        have k1:(k:Int)<9:=by omega
        have wk:IntKind.i64.wrap ((k:Int) - 1)=(k:Int) - 1:=IntWalk.i64_in _ (by omega)
        have w1:IntKind.i64.wrap (65536*tp)=65536*tp:=IntWalk.i64_in _ (by omega)
        have w2:IntKind.i64.wrap (65536*tp+x)=65536*tp+x:=IntWalk.i64_in _ (by omega)
        clear e1 l1 l2
        go_wp2_with fail
        go_round
        case rel=>exact⟨k,rfl,by omega,by rw[HE.out,Int.add_comm]⟩
        case measure=>(simp[intOf] <;> omega)
  · rw [if_neg hm,decide_eq_false hm]
    go_enter Tryz.func171,Tryz.ntmps171
    go_wp2_with fail
    refine(HCM.out _ _ _ (rowf_bl H1.out (bl_alloc (bl_alloc (bl_alloc (bl_refl _) _) _) _)) ?_).mono ?_
    · intro i hi
      have:i=0∨i=1∨i=2∨i=3:=by omega
      rcases this with rfl|rfl|rfl|rfl <;> (unfold mostN;go_simp)
    rintro e w1 ⟨r,rfl,hr,rfl⟩
    have hr0:0<r:=hr.2 (by omega)
    clear hr
    go_wp2_with fail
    go_ret2
    exact⟨rfl,bl_alloc (bl_alloc (bl_alloc (bl_refl _) _) _) _⟩

/-- One digit more. -/
theorem times_step {O:Nat→Int} {i k:Nat} {c x:Int} (hO:Digs O) (hc:0≤c∧c≤65535) (hx:0≤x∧x≤4294836225) (hik:i+k<9) (hz:∀ j,i+max 4 k≤j→O j=0) :
    let s:=c+O (i+k)+x
    0≤s∧s≤4294967295∧0≤s / 65536∧s / 65536≤65535∧0≤s % 65536∧s % 65536≤65535∧Digs (updN O (i+k) (s % 65536))∧(∀ j,i+max 4 (k+1)≤j→updN O (i+k) (s % 65536) j=0) ∧
    valN (updN O (i+k) (s % 65536)) 9+(s / 65536)*pw (i+(k+1))=valN O 9+c*pw (i+k)+x*pw (i+k):=by
  intro s
  have h1:=hO (i+k)
  have h2:=Int.emod_add_mul_ediv s 65536
  have h3:=Int.emod_nonneg s (show(65536:Int)≠0 by decide)
  have h4:=Int.emod_lt_of_pos s (show(0:Int)<65536 by decide)
  have hs:s=c+O (i+k)+x:=rfl
  refine⟨by omega,by omega,by omega,by omega,by omega,by omega,digs_upd hO _ (by omega),fun j hj=>?_,?_⟩
  · unfold updN
    rw[if_neg (by omega)]
    exact hz j (by omega)
  · rw [valN_upd,if_pos hik,show i+(k+1)=(i+k)+1 by omega,pw_succ]
    have h5:(s % 65536 - O (i+k))*pw (i+k)+s / 65536*(65536*pw (i+k))=(c+x)*pw (i+k):=by
      rw[show s / 65536*(65536*pw (i+k))=(s / 65536*65536)*pw (i+k) by rw[Int.mul_assoc],← Int.add_mul]
      congr 1
      omega
    rw[Int.add_mul] at h5
    omega

def TimesPost (fa fb:Nat→Int) (w:World) (e:Ending) (w':World):Prop:=∃ g c O,e=.returned (.slice (some ⟨g,0,none⟩) 9 c)∧RowF w' g 9 O∧Digs O∧valN O 9=valN fa 4*valN fb 4∧Below w.heap.size w w'
/-- A row of nine that may be written. -/
def RowW (w:World) (g:Nat) (O:Nat→Int):Prop:=∀ i,i<9→w.cell? ⟨g,i,none⟩=some (.int .i64 (O i))∧w.frozen? ⟨g,i,none⟩=false
theorem roww_set {w:World} {g:Nat} {O:Nat→Int} (h:RowW w g O) {p:Nat} (hp:p<9) (v:Int):RowW (w.setCell ⟨g,p,none⟩ (.int .i64 v)) g (updN O p v):=fun i hi=>by
  have h1:=h i hi
  refine⟨?_,by rw[World.frozen?_setCell];exact h1.2⟩
  unfold updN
  by_cases e:i=p
  · subst e
    rw[if_pos rfl,World.cell?_setCell_same' w _ _ (by rw[h1.1];rfl)]
  · rw[if_neg e]
    exact set_other h1.1 _ (by intro z;injection z with _ z;exact e z.symm)
def TInv (w:World) (ga gb go:Nat) (fa fb O:Nat→Int) (wr:World):Prop:=Digs O∧RowW wr go O∧RowF wr ga 4 fa∧RowF wr gb 4 fb∧ga<w.heap.size∧gb<w.heap.size∧w.heap.size≤go∧Below w.heap.size w wr
theorem rtimes_any (ga ca gb cb:Nat) (fa fb:Nat→Int) (hfa:Digs fa) (hfb:Digs fb) (w:World) (h1:RowF w ga 4 fa) (h2:RowF w gb 4 fb) :
    Calls Tryz.prog 172 #[.slice (some ⟨ga,0,none⟩) 4 ca,.slice (some ⟨gb,0,none⟩) 4 cb] w (TimesPost fa fb w):=by
  have la:ga<w.heap.size:=World.block_lt_of_cell? w _ (h1 0 (by omega))
  have lb:gb<w.heap.size:=World.block_lt_of_cell? w _ (h2 0 (by omega))
  have H1:=Go.Lib.hid h1
  have H2:=Go.Lib.hid h2
  have HFA:=Go.Lib.hid hfa
  have HFB:=Go.Lib.hid hfb
  have hmk:∀ w,(Instr.makeSlice 109 (.int .i64 9) (.int .i64 9)).run Tryz.prog w=.ok (.slice (some ⟨w.heap.size,0,none⟩) 9 9) (w.alloc (.cells #[.int .i64 0,.int .i64 0,.int .i64 0,.int .i64 0,.int .i64 0,.int .i64 0,.int .i64 0,.int .i64 0,.int .i64 0] 3)):=fun _=>by kernel_rfl
  clear h1 h2 hfa hfb
  go_enter Tryz.func172,Tryz.ntmps172
  go_wp2_with fail
  refine wp_abs (S0:=fun X=>TInv w ga gb w.heap.size fa fb (fun _=>0) X) ⟨fun _=>⟨Int.le_refl _,by show(0:Int)≤65535;omega⟩,fun i hi=>?_,rowf_bl H1.out (bl_alloc (bl_refl _) _),rowf_bl H2.out (bl_alloc (bl_refl _) _),la,lb,Nat.le_refl _,bl_alloc (bl_refl _) _⟩ ?_
  · have:i=0∨i=1∨i=2∨i=3∨i=4∨i=5∨i=6∨i=7∨i=8:=by omega
    rcases this with rfl|rfl|rfl|rfl|rfl|rfl|rfl|rfl|rfl <;> exact⟨by go_simp,by go_simp⟩
  intro W hW
  have HWW:=Go.Lib.hid hW
  clear hW hmk
  go_loopw [6] (fun s6 wr=>∃ (i:Nat) (O:Nat→Int),s6=.int .i64 i∧i≤4∧Hid (TInv w ga gb w.heap.size fa fb O wr∧(∀ j,i+4≤j→O j=0)∧valN O 9=valN fa i*valN fb 4)) (fun s6 _=>4 - (intOf s6).toNat)
  case atStart=>exact⟨0,_,rfl,by omega,⟨HWW.out,fun _ _=>rfl,by show valN (fun _=>0) 9=0*_;rw[Int.zero_mul];rfl⟩⟩
  case round =>
    obtain⟨i,O,rfl,hi,H⟩:=hrel
    clear HWW
    by_cases hin:i<4
    · have i0 : (0:Int)≤(i:Int):=by omega
      have i1:(i:Int)<4:=by omega
      have hi1:i+1≤4:=hin
      have wi:IntKind.i64.wrap ((i:Int)+1)=(i:Int)+1:=IntWalk.i64_in _ (by omega)
      obtain⟨hT,hz,hv⟩:=H.out
      have HV:=Go.Lib.hid hv
      obtain⟨W1,hW1⟩:∃ W:World,W=wr:=⟨_,rfl⟩
      subst hW1
      go_wp2_with fail
      go_loopw [7,8] (fun s7 s8 wr=>∃ (k:Nat) (c:Int) (O':Nat→Int),s8=.int .i64 k∧s7=.int .i64 c∧k≤5∧Hid (0≤c∧c≤65535∧(k=5→c=0)∧TInv w ga gb w.heap.size fa fb O' wr∧(∀ j,i+max 4 k≤j→O' j=0)∧valN O' 9+c*pw (i+k)=valN O 9+fa i*valN fb (min k 4)*pw i)) (fun _ s8 _=>5 - (intOf s8).toNat)
      case atStart=>exact⟨0,0,O,rfl,rfl,by omega,⟨Int.le_refl _,by omega,fun _=>rfl,hT,fun j hj=>hz j (by omega),by rw[Int.zero_mul,show min 0 4=0 from rfl];show valN O 9+0=valN O 9+fa i*0*pw i;rw[Int.mul_zero,Int.zero_mul]⟩⟩
      case round =>
        clear hT hz hv
        obtain⟨k,c,O',rfl,rfl,hk,HK⟩:=hrel
        obtain⟨c0,c1,c5,hT,hz,hv⟩:=HK.out
        obtain⟨hO,hRW,hRa,hRb,la2,lb2,lg2,hB⟩:=id hT
        have lgo:w.heap.size<wr.heap.size:=World.block_lt_of_cell? wr _ (hRW 0 (by omega)).1
        have ra:=hRa i hin
        have dfa:=HFA.out i
        by_cases hk4:k<4
        · have rb:=hRb k hk4
          have dfb:=HFB.out k
          have hx0:0≤fa i*fb k:=Int.mul_nonneg dfa.1 dfb.1
          have hx1:fa i*fb k≤4294836225:=by
            have h1:fa i*fb k≤65535*fb k:=Int.mul_le_mul_of_nonneg_right dfa.2 dfb.1
            omega
          obtain⟨ro,rf⟩:=hRW (i+k) (by omega)
          have hst:=times_step (x:=fa i*fb k) hO ⟨c0,c1⟩ ⟨hx0,hx1⟩ (show i+k<9 by omega) hz
          have dO:=hO (i+k)
          have hval:valN (updN O' (i+k) ((c+O' (i+k)+fa i*fb k) % 65536)) 9+(c+O' (i+k)+fa i*fb k) / 65536*pw (i+(k+1))=valN O 9+fa i*valN fb (min (k+1) 4)*pw i:=by
            rw[hst.2.2.2.2.2.2.2.2,hv,show min k 4=k by omega,show min (k+1) 4=k+1 by omega]
            show _=valN O 9+fa i*(valN fb k+fb k*pw k)*pw i
            rw[pw_add,Int.mul_add,Int.add_mul,Int.mul_assoc (fa i) (fb k) (pw i*pw k),Int.mul_assoc (fa i) (fb k*pw k) (pw i),Int.mul_assoc (fb k) (pw k) (pw i),Int.mul_comm (pw k) (pw i)]
            omega
          have HN:=Go.Lib.hid (show 0≤(c+O' (i+k)+fa i*fb k) / 65536∧(c+O' (i+k)+fa i*fb k) / 65536≤65535∧(k+1=5→(c+O' (i+k)+fa i*fb k) / 65536=0)∧TInv w ga gb w.heap.size fa fb (updN O' (i+k) ((c+O' (i+k)+fa i*fb k) % 65536)) (wr.drew.setCell ⟨w.heap.size,i+k,none⟩ (.int .i64 ((c+O' (i+k)+fa i*fb k) % 65536)))∧(∀ j,i+max 4 (k+1)≤j→updN O' (i+k) ((c+O' (i+k)+fa i*fb k) % 65536) j=0)∧valN (updN O' (i+k) ((c+O' (i+k)+fa i*fb k) % 65536)) 9+(c+O' (i+k)+fa i*fb k) / 65536*pw (i+(k+1))=valN O 9+fa i*valN fb (min (k+1) 4)*pw i from
            ⟨hst.2.2.1,hst.2.2.2.1,fun z=>by omega,⟨hst.2.2.2.2.2.2.1,roww_set (w:=wr.drew) hRW (by omega) _,fun j hj=>far_set (w:=wr.drew) (hRa j hj) _ _ (by dsimp only;omega),fun j hj=>far_set (w:=wr.drew) (hRb j hj) _ _ (by dsimp only;omega),la2,lb2,lg2,bl_set (bl_drew hB) (by dsimp only;omega) _⟩,hst.2.2.2.2.2.2.2.1,hval⟩)
          have hs1:IntKind.i64.wrap (c+O' (i+k))=c+O' (i+k):=IntWalk.i64_in _ (by omega)
          have hs2:IntKind.i64.wrap (fa i*fb k)=fa i*fb k:=IntWalk.i64_in _ (by omega)
          have hs3:IntKind.i64.wrap (c+O' (i+k)+fa i*fb k)=c+O' (i+k)+fa i*fb k:=IntWalk.i64_in _ (by omega)
          have hsn:0≤c+O' (i+k)+fa i*fb k:=hst.1
          have hsm:c+O' (i+k)+fa i*fb k≤4294967295:=hst.2.1
          clear hst hval hv hz HK c5
          generalize fa i=x at *
          generalize fb k=y at *
          generalize O' (i+k)=u at *
          have k0:(0:Int)≤(k:Int):=by omega
          have k1:(k:Int)<4:=by omega
          have wik:IntKind.i64.wrap ((i:Int)+(k:Int))=(i:Int)+(k:Int):=IntWalk.i64_in _ (by omega)
          have ik0:(0:Int)≤(i:Int)+(k:Int):=by omega
          have ik1:(i:Int)+(k:Int)<9:=by omega
          have ikn:((i:Int)+(k:Int)).toNat=i+k:=by omega
          have wk:IntKind.i64.wrap ((k:Int)+1)=(k:Int)+1:=IntWalk.i64_in _ (by omega)
          have hdk:decide ((k:Int)<4)=true:=decide_eq_true k1
          clear hO hRW hRa hRb hT hx0 hx1 dfa dfb dO
          go_wp2_with fail
          refine wp_region_held_drew (S:=fun w'=>w'.cell? ⟨ga,i,none⟩=some (.int .i64 x)∧w'.cell? ⟨gb,k,none⟩=some (.int .i64 y)) (by kernel_rfl) ?_ (fun hHeld=>?_)
          · exact⟨ra,rb⟩
          try simp only[Act.put,List.setIfInBounds_toArray,List.set_cons_zero,List.set_cons_succ]
          refine tkx 0 ?_
          refine tkx 1 ?_
          refine tkx 2 ?_
          refine tkx 3 ?_
          refine tkx 4 ?_
          refine tkx 5 ?_
          refine tkx 6 ?_
          refine tkx 7 ?_
          refine tkx 8 ?_
          refine tkx 9 ?_
          refine tkx 10 ?_
          refine tkx 11 ?_
          refine wpAnyH_done (by kernel_rfl) ?_ _
          clear hHeld
          go_wp2_with fail
          go_roundw
          case rel=>exact⟨k+1,_,_,by go_num,rfl,by omega,HN.out⟩
          case measure=>(simp[intOf] <;> omega)
        · by_cases hc:0<c
          · have hk5:k=4:=by
              by_cases z:k=5
              · have:=c5 z;omega
              · omega
            subst hk5
            obtain⟨ro,rf⟩:=hRW (i+4) (by omega)
            have hu:O' (i+4)=0:=hz (i+4) (by omega)
            have hst:=times_step (x:=0) hO ⟨c0,c1⟩ ⟨Int.le_refl _,by omega⟩ (show i+4<9 by omega) hz
            dsimp only at hst
            rw[hu] at hst ro
            have e1:c+0+0=c:=by omega
            rw[e1] at hst
            have e2:c / 65536=0:=Int.ediv_eq_zero_of_lt c0 (by omega)
            have e3:c % 65536=c:=Int.emod_eq_of_lt c0 (by omega)
            rw[e2,e3] at hst
            have HN:=Go.Lib.hid (show 0≤(0:Int)∧(0:Int)≤65535∧(4+1=5→(0:Int)=0)∧TInv w ga gb w.heap.size fa fb (updN O' (i+4) c) (wr.setCell ⟨w.heap.size,i+4,none⟩ (.int .i64 c))∧(∀ j,i+max 4 (4+1)≤j→updN O' (i+4) c j=0)∧valN (updN O' (i+4) c) 9+0*pw (i+(4+1))=valN O 9+fa i*valN fb (min (4+1) 4)*pw i from
              ⟨Int.le_refl _,by omega,fun _=>rfl,⟨hst.2.2.2.2.2.2.1,roww_set hRW (by omega) _,fun j hj=>far_set (hRa j hj) _ _ (by dsimp only;omega),fun j hj=>far_set (hRb j hj) _ _ (by dsimp only;omega),la2,lb2,lg2,bl_set hB (by dsimp only;omega) _⟩,hst.2.2.2.2.2.2.2.1,by rw[hst.2.2.2.2.2.2.2.2,hv,Int.zero_mul,Int.add_zero,show min 4 4=4 from rfl,show min (4+1) 4=4 from rfl]⟩)
            have wik:IntKind.i64.wrap ((i:Int)+4)=(i:Int)+4:=IntWalk.i64_in _ (by omega)
            have ik0:(0:Int)≤(i:Int)+4:=by omega
            have ik1:(i:Int)+4<9:=by omega
            have ikn:((i:Int)+4).toNat=i+4:=by omega
            have e2':Int.tdiv c 65536=0:=by rw[Int.tdiv_eq_ediv_of_nonneg c0,e2]
            have e3':Int.tmod c 65536=c:=by rw[Int.tmod_eq_emod_of_nonneg c0,e3]
            clear hst hv hz HK c5 hO hRW hRa hRb hT hu e1
            go_wp2_with fail
            go_roundw
            case rel=>exact⟨4+1,_,_,by go_num,by first|rfl|(rw[e2]),by omega,by first|exact HN.out|(rw[e3];exact HN.out)⟩
            case measure=>(simp[intOf] <;> omega)
          · have hc0:c=0:=by omega
            subst hc0
            have hfin:TInv w ga gb w.heap.size fa fb O' wr∧(∀ j,i+1+4≤j→O' j=0)∧valN O' 9=valN fa (i+1)*valN fb 4:=by
              refine⟨hT,fun j hj=>hz j (by omega),?_⟩
              rw[Int.zero_mul,Int.add_zero,show min k 4=4 by omega,HV.out] at hv
              rw[hv]
              show _=(valN fa i+fa i*pw i)*valN fb 4
              rw[Int.add_mul,Int.mul_assoc (fa i) (pw i),Int.mul_comm (pw i),← Int.mul_assoc]
            have HN:=Go.Lib.hid hfin
            have hk4':¬ (k:Int)<4:=by omega
            clear hfin hv hz HK c5 hO hRW hRa hRb hT
            go_wp2_with fail
            go_roundw
            case rel=>exact⟨i+1,O',by go_num,hi1,HN.out⟩
            case measure=>(simp[intOf] <;> omega)
    · have hie:i=4:=by omega
      subst hie
      obtain⟨⟨hO,hRW,hRa,hRb,la2,lb2,lg2,hB⟩,hz,hv⟩:=H.out
      have HN:=Go.Lib.hid (show RowF wr w.heap.size 9 O∧Digs O∧valN O 9=valN fa 4*valN fb 4∧Below w.heap.size w wr from⟨fun j hj=>(hRW j hj).1,hO,hv,hB⟩)
      clear hO hRW hRa hRb hB hz hv H
      go_wp2_with fail
      go_ret
      exact⟨_,_,O,rfl,HN.out.1,HN.out.2.1,HN.out.2.2.1,HN.out.2.2.2⟩

theorem rmul_any (a b:Int) (ha:0≤a) (hA:a≤9007199254740992) (hb:0≤b) (hB:b≤1048576) (w:World) :
    Calls Tryz.prog 149 #[.int .i64 a,.int .i64 b] w fun e w'=>e=.returned (.tuple #[.int .i64 (mulN a b),.bool (mulOk a b)])∧Below w.heap.size w w':=by
  have hoa:=rof_any a ha hA
  have hob:=rof_any b hb (by omega)
  have hva:=valN_four ha (by omega)
  have hvb:=valN_four hb (by omega)
  have htm:=fun ga ca gb cb w h1 h2=>rtimes_any ga ca gb cb (digN a) (digN b) (digN_digs a) (digN_digs b) w h1 h2
  unfold TimesPost at htm
  rw[hva,hvb] at htm
  unfold OfPost at hoa hob
  generalize digN a=fa at *
  generalize digN b=fb at *
  unfold mulN mulOk
  generalize a*b=V at *
  have HOA:=Go.Lib.hid hoa
  have HOB:=Go.Lib.hid hob
  have HTM:=Go.Lib.hid htm
  have hif:(if decide (V≤9223372036854775807)=true then V else 0)=if V≤9223372036854775807 then V else 0:=by simp only[decide_eq_true_eq]
  rw[hif]
  generalize hN:(if V≤9223372036854775807 then V else 0)=N at *
  generalize hK0:decide (V≤9223372036854775807)=OK at *
  have HN:=Go.Lib.hid hN
  have HK0:=Go.Lib.hid hK0
  clear hoa hob htm hva hvb hif ha hA hb hB hN hK0
  go_enter Tryz.func149,Tryz.ntmps149
  go_wp2_with fail
  refine(HOA.out _).mono ?_
  rintro e w1 ⟨g1,c1,rfl,hr1,hb1⟩
  go_wp2_with fail
  refine(HOB.out _).mono ?_
  rintro e w2 ⟨g2,c2,rfl,hr2,hb2⟩
  have a0:=bl_cell (v:=.slice (some ⟨g1,0,none⟩) 4 c1) hb2 (show World.cell? _ ⟨w1.heap.size,0,none⟩=_ by go_simp)
  have a1:=bl_cell (v:=.int .i64 0) hb2 (show World.cell? _ ⟨w1.heap.size,1,none⟩=_ by go_simp)
  have hr1':=rowf_bl (rowf_bl hr1 (bl_alloc (bl_refl _) _)) hb2
  have hBB:Below w.heap.size w w2:=bl_then (bl_then hb1 (bl_alloc (bl_refl _) _)) hb2
  clear hr1 hb1 hb2
  go_wp2_with fail
  refine wp_region_held_drew (S:=fun X=>X.cell? ⟨w1.heap.size,0,none⟩=some (.slice (some ⟨g1,0,none⟩) 4 c1)∧X.cell? ⟨w1.heap.size,1,none⟩=some (.int .i64 0)∧X.cell? ⟨w2.heap.size,0,none⟩=some (.slice (some ⟨g2,0,none⟩) 4 c2)∧X.cell? ⟨w2.heap.size,1,none⟩=some (.int .i64 0)∧RowF X g1 4 fa∧RowF X g2 4 fb∧Below w.heap.size w X) (by kernel_rfl) ?_ (fun hHeld=>?_)
  · exact⟨bl_cell (bl_alloc (bl_refl _) _) a0,bl_cell (bl_alloc (bl_refl _) _) a1,by go_simp,by go_simp,rowf_bl hr1' (bl_drew (bl_alloc (bl_refl _) _)),rowf_bl hr2 (bl_drew (bl_alloc (bl_refl _) _)),bl_drew (bl_then hBB (bl_alloc (bl_refl _) _))⟩
  try simp only[Act.put,List.setIfInBounds_toArray,List.set_cons_zero,List.set_cons_succ]
  clear a0 a1 hr1' hr2 hBB
  refine tkx 0 ?_
  refine tkx 1 ?_
  refine tkx 2 ?_
  refine tkx 3 ?_
  refine tkx 5 ?_
  refine tkx 6 ?_
  refine tkx 7 ?_
  refine tkx 8 ?_
  refine tkx 9 ?_
  refine tkx 10 ?_
  refine callH (i:=4) rfl hHeld (fun W hW K hK=>?_)
  clear hHeld
  (try dsimp only at hW)
  obtain⟨h0,h1,h2,h3,hra,hrb,hB⟩:=hW
  go_simp
  refine(HTM.out _ _ _ _ W hra hrb).mono ?_
  rintro e w3 ⟨g3,c3,O,rfl,hr3,hO,hv3,hb3⟩
  go_wp2_with fail
  refine hK.out _ _ ?_ (fun hHeld=>?_)
  · (try dsimp only);exact⟨bl_cell hb3 h0,bl_cell hb3 h1,bl_cell hb3 h2,bl_cell hb3 h3,rowf_bl hra hb3,rowf_bl hrb hb3,bl_then hB hb3⟩
  clear hK K h0 h1 h2 h3 hra hrb
  try simp only[Act.put,List.setIfInBounds_toArray,List.set_cons_zero,List.set_cons_succ]
  have hnm:=rnumber_any g3 c3 O hO
  rw[hv3,HN.out,HK0.out] at hnm
  have HNM:=Go.Lib.hid hnm
  clear hnm
  refine wpAnyH_abs (F:=fun X=>RowF X g3 9 O) hHeld hr3 (fun X hHeld hr3=>?_)
  refine tkx 11 ?_
  refine callC (i:=12) rfl (fun K hK=>?_)
  obtain⟨h0,h1,h2,h3,hra,hrb,hB⟩:=(id hHeld)
  go_simp
  refine(HNM.out _ hr3).mono ?_
  rintro e w5 ⟨rfl,hb5⟩
  go_wp2_with fail
  refine hK.out _ _ ?_ (fun hHeld2=>?_)
  · (try dsimp only);exact⟨bl_cell hb5 h0,bl_cell hb5 h1,bl_cell hb5 h2,bl_cell hb5 h3,rowf_bl hra hb5,rowf_bl hrb hb5,bl_then hB hb5⟩
  clear hK K h0 h1 h2 h3 hra hrb hHeld
  try simp only[Act.put,List.setIfInBounds_toArray,List.set_cons_zero,List.set_cons_succ]
  have hHeld:=hHeld2
  clear hHeld2
  refine tkx 13 ?_
  refine tkx 14 ?_
  refine tkx 15 ?_
  refine tkx 16 ?_
  refine wpAnyH_done (by kernel_rfl) ?_ _
  obtain⟨-,-,-,-,-,-,hE⟩:=hHeld
  go_wp2_with fail
  go_ret2
  exact⟨rfl,hE⟩
theorem r5adv_no (p:Pol) (s:St) (a:Option Addr) (n c:Nat) (now:Int) (w:World) (hl:LogAt w a n c s.log) (h:¬ rightG p s):Calls Tryz.prog 90 #[p.v,s.v a n c,.int .i64 now] w (PostS a n (advG p s now) w):=by
  have hrt:=fun w=>r5right_any p s a n c hl.1 w
  rw[decide_eq_false h] at hrt
  unfold advG
  rw[if_neg h]
  clear h
  refine Calls.mono (R:=fun e w'=>e=.returned (St.none.v none 0 0)∧Below w.heap.size w w') ?_ (fun e w' hh=>⟨none,0,0,hh.1,log_nil _ _ _ (by omega),.inl rfl,hh.2⟩)
  obtain⟨k,l,d,b,cc,o⟩:=p
  obtain⟨at_,level,held,L⟩:=s
  unfold St.none St.v Pol.v at *
  dsimp only at *
  have HRT:=Go.Lib.hid hrt
  clear hrt
  clear hl
  go_enter Tryz.func90,Tryz.ntmps90
  go_wp2_with fail
  refine(HRT.out _).mono ?_
  rintro e w1 ⟨rfl,hb⟩
  have hx:Below w.heap.size w w1:=bl_then k3 hb
  have hsz1:w.heap.size+3≤w1.heap.size:=szl hb
  obtain⟨p0,p1,p2,p3,p4,p5⟩:=b6 (w.heap.size) k l d b cc o hb
  obtain⟨s0,s1,s2,s3⟩:=b4 (w.heap.size+1) at_ level held a n c hb
  have sR:=res_bl (b:=w.heap.size+1) (res_bl (res_new _ _ _ _ _ _ (by simp)) k1) hb
  have rR:=res_bl (b:=w.heap.size+1+1) (res_new _ _ _ _ _ _ (by simp)) hb
  have hB:Below w.heap.size w w1:=hx
  have lb_p:=lbc p0
  have lb_s:=lbc s0
  clear hb hx
  obtain⟨f0,f1,f2,f3,u0,u1,u2,u3,i0,i1,i2,i3⟩:=res_all rR
  go_wp2_with fail
  (try simp only[Exit.inBlock,Exit.then,Exit.noGoto_ret])
  refine bodyPost_ret (results_state rfl _ _ (by rfl) (set4r (rR))) rfl ⟨rfl,bl4 (hB) (by omega)⟩
theorem r5adv_stay (p:Pol) (s:St) (a:Option Addr) (n c:Nat) (now:Int) (w:World) (hl:LogAt w a n c s.log) (h:rightG p s) (ht:clampT now≤s.at_):Calls Tryz.prog 90 #[p.v,s.v a n c,.int .i64 now] w (PostS a n (advG p s now) w):=by
  have hrt:=fun w=>r5right_any p s a n c hl.1 w
  rw[decide_eq_true h] at hrt
  rw[advG_stay h ht]
  have hn0:n=0:=by rw[← hl.1,h.2.2.2.2.2.2.2];rfl
  have hc:=hl.2.2.1
  have hL:=h.2.2.2.2.2.2.2
  have hcl:=rclamp_any now
  have hcr:=clampT_range now
  have hA0:=h.2.1
  unfold rightG okG at h
  obtain⟨k,l,d,b,cc,o⟩:=p
  obtain⟨at_,level,held,L⟩:=s
  unfold St.v Pol.v at *
  dsimp only at *
  subst hn0 hL
  generalize clampT now=T at *
  refine Calls.mono (R:=fun e w'=>e=.returned (.agg #[.int .i64 (at_),.int .i64 (level),.int .i64 held,.slice a 0 c])∧Below w.heap.size w w') ?_ (fun e w' hh=>⟨a,0,c,hh.1,log_nil _ _ _ hc,.inl rfl,hh.2⟩)
  have hH:held*d≤1152921504606846976:=prod_le (by omega) (by omega) (by omega)
  have hH0:0≤held*d:=Int.mul_nonneg (by omega) (by omega)
  have hV:b*d≤1152921504606846976:=prod_le (by omega) (by omega) (by omega)
  have wa1:IntKind.i64.wrap (held*d)=held*d:=IntWalk.i64_in _ (by omega)
  have wa2:IntKind.i64.wrap (level - held*d)=level - held*d:=IntWalk.i64_in _ (by omega)
  have wa3:IntKind.i64.wrap (T - at_)=T - at_:=IntWalk.i64_in _ (by omega)
  clear hH hH0 hV hcr hA0
  clear h hl
  have HRT:=Go.Lib.hid hrt
  have HCL:=Go.Lib.hid hcl
  clear hrt hcl
  go_enter Tryz.func90,Tryz.ntmps90
  go_wp2_with fail
  refine(HRT.out _).mono ?_
  rintro e w1 ⟨rfl,hb⟩
  have hx:Below w.heap.size w w1:=bl_then k3 hb
  have hsz1:w.heap.size+3≤w1.heap.size:=szl hb
  obtain⟨p0,p1,p2,p3,p4,p5⟩:=b6 (w.heap.size) k l d b cc o hb
  obtain⟨s0,s1,s2,s3⟩:=b4 (w.heap.size+1) at_ level held a 0 c hb
  have sR:=res_bl (b:=w.heap.size+1) (res_bl (res_new _ _ _ _ _ _ (by simp)) k1) hb
  have rR:=res_bl (b:=w.heap.size+1+1) (res_new _ _ _ _ _ _ (by simp)) hb
  have hB:Below w.heap.size w w1:=hx
  have lb_p:=lbc p0
  have lb_s:=lbc s0
  clear hb hx
  go_wp2_with fail
  refine(HCL.out _).mono ?_
  rintro e w9 ⟨rfl,rfl⟩
  obtain⟨f0,f1,f2,f3,u0,u1,u2,u3,i0,i1,i2,i3⟩:=res_all rR
  have ne:=(show w.heap.size+1≠w.heap.size+1+1 by omega)
  go_wp2_with fail
  (try simp only[Exit.inBlock,Exit.then,Exit.noGoto_ret])
  refine bodyPost_ret (results_state rfl _ _ (by rfl) (set4r (rR))) rfl ⟨rfl,bl4 (hB) (by omega)⟩
theorem r5adv_less (p:Pol) (s:St) (a:Option Addr) (n c:Nat) (now:Int) (w:World) (hl:LogAt w a n c s.log) (h:rightG p s) (ht:s.at_<clampT now) (hm:mulOk (clampT now - s.at_) p.limit=true) (hn:mulN (clampT now - s.at_) p.limit≤s.level - s.held*p.period):Calls Tryz.prog 90 #[p.v,s.v a n c,.int .i64 now] w (PostS a n (advG p s now) w):=by
  have hrt:=fun w=>r5right_any p s a n c hl.1 w
  rw[decide_eq_true h] at hrt
  rw[advG_less h ht hm hn]
  have hn0:n=0:=by rw[← hl.1,h.2.2.2.2.2.2.2];rfl
  have hc:=hl.2.2.1
  have hL:=h.2.2.2.2.2.2.2
  have hcl:=rclamp_any now
  have hcr:=clampT_range now
  have hA0:=h.2.1
  have hmu:=rmul_any (clampT now - s.at_) p.limit (by omega) (by omega) (by have:=h.1.2.1;have:=h.1;unfold okG at this;omega) (by have:=h.1;unfold okG at this;omega)
  unfold rightG okG at h
  obtain⟨k,l,d,b,cc,o⟩:=p
  obtain⟨at_,level,held,L⟩:=s
  unfold St.v Pol.v at *
  dsimp only at *
  subst hn0 hL
  generalize clampT now=T at *
  refine Calls.mono (R:=fun e w'=>e=.returned (.agg #[.int .i64 (T),.int .i64 (level - mulN (T - at_) l),.int .i64 held,.slice none 0 0])∧Below w.heap.size w w') ?_ (fun e w' hh=>⟨none,0,0,hh.1,log_nil _ _ _ (by omega),.inl rfl,hh.2⟩)
  have hH:held*d≤1152921504606846976:=prod_le (by omega) (by omega) (by omega)
  have hH0:0≤held*d:=Int.mul_nonneg (by omega) (by omega)
  have hV:b*d≤1152921504606846976:=prod_le (by omega) (by omega) (by omega)
  have wa1:IntKind.i64.wrap (held*d)=held*d:=IntWalk.i64_in _ (by omega)
  have wa2:IntKind.i64.wrap (level - held*d)=level - held*d:=IntWalk.i64_in _ (by omega)
  have wa3:IntKind.i64.wrap (T - at_)=T - at_:=IntWalk.i64_in _ (by omega)
  have hN0:0≤mulN (T - at_) l:=by rw[mulN_ok hm];exact Int.mul_nonneg (by omega) (by omega)
  rw[hm] at hmu
  generalize mulN (T - at_) l=N at *
  have wa5:IntKind.i64.wrap (level - N)=level - N:=IntWalk.i64_in _ (by omega)
  have hn':¬ level - held*d<N:=by omega
  have ht':¬ T≤at_:=by omega
  clear hN0 hn hm ht
  clear hH hH0 hV hcr hA0
  clear h hl
  have HRT:=Go.Lib.hid hrt
  have HCL:=Go.Lib.hid hcl
  clear hrt hcl
  have HMU:=Go.Lib.hid hmu
  clear hmu
  go_enter Tryz.func90,Tryz.ntmps90
  go_wp2_with fail
  refine(HRT.out _).mono ?_
  rintro e w1 ⟨rfl,hb⟩
  have hx:Below w.heap.size w w1:=bl_then k3 hb
  have hsz1:w.heap.size+3≤w1.heap.size:=szl hb
  obtain⟨p0,p1,p2,p3,p4,p5⟩:=b6 (w.heap.size) k l d b cc o hb
  obtain⟨s0,s1,s2,s3⟩:=b4 (w.heap.size+1) at_ level held a 0 c hb
  have sR:=res_bl (b:=w.heap.size+1) (res_bl (res_new _ _ _ _ _ _ (by simp)) k1) hb
  have rR:=res_bl (b:=w.heap.size+1+1) (res_new _ _ _ _ _ _ (by simp)) hb
  have hB:Below w.heap.size w w1:=hx
  have lb_p:=lbc p0
  have lb_s:=lbc s0
  clear hb hx
  go_wp2_with fail
  refine(HCL.out _).mono ?_
  rintro e w9 ⟨rfl,rfl⟩
  go_wp2_with fail
  refine(HMU.out _).mono ?_
  rintro e w2 ⟨rfl,hb⟩
  have hsz2:w1.heap.size+0≤w2.heap.size:=szl hb
  replace p0:=bl_cell hb p0
  replace p1:=bl_cell hb p1
  replace p2:=bl_cell hb p2
  replace p3:=bl_cell hb p3
  replace p4:=bl_cell hb p4
  replace p5:=bl_cell hb p5
  replace s0:=bl_cell hb s0
  replace s1:=bl_cell hb s1
  replace s2:=bl_cell hb s2
  replace s3:=bl_cell hb s3
  replace sR:=res_bl sR hb
  replace rR:=res_bl rR hb
  replace hB:Below w.heap.size w w2:=bl_then hB hb
  replace lb_p:=lbc p0
  replace lb_s:=lbc s0
  clear hb
  obtain⟨f0,f1,f2,f3,u0,u1,u2,u3,i0,i1,i2,i3⟩:=res_all rR
  have ne:=(show w.heap.size+1≠w.heap.size+1+1 by omega)
  go_wp2_with fail
  (try simp only[Exit.inBlock,Exit.then,Exit.noGoto_ret])
  refine bodyPost_ret (results_state rfl _ _ (by rfl) (set4r (rR))) rfl ⟨rfl,bl4 (hB) (by omega)⟩
theorem r5adv_most (p:Pol) (s:St) (a:Option Addr) (n c:Nat) (now:Int) (w:World) (hl:LogAt w a n c s.log) (h:rightG p s) (ht:s.at_<clampT now) (hm:mulOk (clampT now - s.at_) p.limit=true) (hn:s.level - s.held*p.period<mulN (clampT now - s.at_) p.limit):Calls Tryz.prog 90 #[p.v,s.v a n c,.int .i64 now] w (PostS a n (advG p s now) w):=by
  have hrt:=fun w=>r5right_any p s a n c hl.1 w
  rw[decide_eq_true h] at hrt
  rw[advG_most h ht (.inr ⟨hm,hn⟩)]
  have hn0:n=0:=by rw[← hl.1,h.2.2.2.2.2.2.2];rfl
  have hc:=hl.2.2.1
  have hL:=h.2.2.2.2.2.2.2
  have hcl:=rclamp_any now
  have hcr:=clampT_range now
  have hA0:=h.2.1
  have hmu:=rmul_any (clampT now - s.at_) p.limit (by omega) (by omega) (by have:=h.1.2.1;have:=h.1;unfold okG at this;omega) (by have:=h.1;unfold okG at this;omega)
  unfold rightG okG at h
  obtain⟨k,l,d,b,cc,o⟩:=p
  obtain⟨at_,level,held,L⟩:=s
  unfold St.v Pol.v at *
  dsimp only at *
  subst hn0 hL
  generalize clampT now=T at *
  refine Calls.mono (R:=fun e w'=>e=.returned (.agg #[.int .i64 (T),.int .i64 (level - (level - held*d)),.int .i64 held,.slice none 0 0])∧Below w.heap.size w w') ?_ (fun e w' hh=>⟨none,0,0,hh.1,log_nil _ _ _ (by omega),.inl rfl,hh.2⟩)
  have hH:held*d≤1152921504606846976:=prod_le (by omega) (by omega) (by omega)
  have hH0:0≤held*d:=Int.mul_nonneg (by omega) (by omega)
  have hV:b*d≤1152921504606846976:=prod_le (by omega) (by omega) (by omega)
  have wa1:IntKind.i64.wrap (held*d)=held*d:=IntWalk.i64_in _ (by omega)
  have wa2:IntKind.i64.wrap (level - held*d)=level - held*d:=IntWalk.i64_in _ (by omega)
  have wa3:IntKind.i64.wrap (T - at_)=T - at_:=IntWalk.i64_in _ (by omega)
  rw[hm] at hmu
  generalize mulN (T - at_) l=N at *
  have wa5:IntKind.i64.wrap (level - (level - held*d))=level - (level - held*d):=IntWalk.i64_in _ (by omega)
  have ht':¬ T≤at_:=by omega
  clear hm ht
  clear hH hH0 hV hcr hA0
  clear h hl
  have HRT:=Go.Lib.hid hrt
  have HCL:=Go.Lib.hid hcl
  clear hrt hcl
  have HMU:=Go.Lib.hid hmu
  clear hmu
  go_enter Tryz.func90,Tryz.ntmps90
  go_wp2_with fail
  refine(HRT.out _).mono ?_
  rintro e w1 ⟨rfl,hb⟩
  have hx:Below w.heap.size w w1:=bl_then k3 hb
  have hsz1:w.heap.size+3≤w1.heap.size:=szl hb
  obtain⟨p0,p1,p2,p3,p4,p5⟩:=b6 (w.heap.size) k l d b cc o hb
  obtain⟨s0,s1,s2,s3⟩:=b4 (w.heap.size+1) at_ level held a 0 c hb
  have sR:=res_bl (b:=w.heap.size+1) (res_bl (res_new _ _ _ _ _ _ (by simp)) k1) hb
  have rR:=res_bl (b:=w.heap.size+1+1) (res_new _ _ _ _ _ _ (by simp)) hb
  have hB:Below w.heap.size w w1:=hx
  have lb_p:=lbc p0
  have lb_s:=lbc s0
  clear hb hx
  go_wp2_with fail
  refine(HCL.out _).mono ?_
  rintro e w9 ⟨rfl,rfl⟩
  go_wp2_with fail
  refine(HMU.out _).mono ?_
  rintro e w2 ⟨rfl,hb⟩
  have hsz2:w1.heap.size+0≤w2.heap.size:=szl hb
  replace p0:=bl_cell hb p0
  replace p1:=bl_cell hb p1
  replace p2:=bl_cell hb p2
  replace p3:=bl_cell hb p3
  replace p4:=bl_cell hb p4
  replace p5:=bl_cell hb p5
  replace s0:=bl_cell hb s0
  replace s1:=bl_cell hb s1
  replace s2:=bl_cell hb s2
  replace s3:=bl_cell hb s3
  replace sR:=res_bl sR hb
  replace rR:=res_bl rR hb
  replace hB:Below w.heap.size w w2:=bl_then hB hb
  replace lb_p:=lbc p0
  replace lb_s:=lbc s0
  clear hb
  obtain⟨f0,f1,f2,f3,u0,u1,u2,u3,i0,i1,i2,i3⟩:=res_all rR
  have ne:=(show w.heap.size+1≠w.heap.size+1+1 by omega)
  go_wp2_with fail
  (try simp only[Exit.inBlock,Exit.then,Exit.noGoto_ret])
  refine bodyPost_ret (results_state rfl _ _ (by rfl) (set4r (rR))) rfl ⟨rfl,bl4 (hB) (by omega)⟩
theorem r5adv_over (p:Pol) (s:St) (a:Option Addr) (n c:Nat) (now:Int) (w:World) (hl:LogAt w a n c s.log) (h:rightG p s) (ht:s.at_<clampT now) (hm:mulOk (clampT now - s.at_) p.limit=false):Calls Tryz.prog 90 #[p.v,s.v a n c,.int .i64 now] w (PostS a n (advG p s now) w):=by
  have hrt:=fun w=>r5right_any p s a n c hl.1 w
  rw[decide_eq_true h] at hrt
  rw[advG_most h ht (.inl hm)]
  have hn0:n=0:=by rw[← hl.1,h.2.2.2.2.2.2.2];rfl
  have hc:=hl.2.2.1
  have hL:=h.2.2.2.2.2.2.2
  have hcl:=rclamp_any now
  have hcr:=clampT_range now
  have hA0:=h.2.1
  have hmu:=rmul_any (clampT now - s.at_) p.limit (by omega) (by omega) (by have:=h.1.2.1;have:=h.1;unfold okG at this;omega) (by have:=h.1;unfold okG at this;omega)
  unfold rightG okG at h
  obtain⟨k,l,d,b,cc,o⟩:=p
  obtain⟨at_,level,held,L⟩:=s
  unfold St.v Pol.v at *
  dsimp only at *
  subst hn0 hL
  generalize clampT now=T at *
  refine Calls.mono (R:=fun e w'=>e=.returned (.agg #[.int .i64 (T),.int .i64 (level - (level - held*d)),.int .i64 held,.slice none 0 0])∧Below w.heap.size w w') ?_ (fun e w' hh=>⟨none,0,0,hh.1,log_nil _ _ _ (by omega),.inl rfl,hh.2⟩)
  have hH:held*d≤1152921504606846976:=prod_le (by omega) (by omega) (by omega)
  have hH0:0≤held*d:=Int.mul_nonneg (by omega) (by omega)
  have hV:b*d≤1152921504606846976:=prod_le (by omega) (by omega) (by omega)
  have wa1:IntKind.i64.wrap (held*d)=held*d:=IntWalk.i64_in _ (by omega)
  have wa2:IntKind.i64.wrap (level - held*d)=level - held*d:=IntWalk.i64_in _ (by omega)
  have wa3:IntKind.i64.wrap (T - at_)=T - at_:=IntWalk.i64_in _ (by omega)
  rw[hm] at hmu
  generalize mulN (T - at_) l=N at *
  have wa5:IntKind.i64.wrap (level - (level - held*d))=level - (level - held*d):=IntWalk.i64_in _ (by omega)
  have ht':¬ T≤at_:=by omega
  clear hm ht
  clear hH hH0 hV hcr hA0
  clear h hl
  have HRT:=Go.Lib.hid hrt
  have HCL:=Go.Lib.hid hcl
  clear hrt hcl
  have HMU:=Go.Lib.hid hmu
  clear hmu
  go_enter Tryz.func90,Tryz.ntmps90
  go_wp2_with fail
  refine(HRT.out _).mono ?_
  rintro e w1 ⟨rfl,hb⟩
  have hx:Below w.heap.size w w1:=bl_then k3 hb
  have hsz1:w.heap.size+3≤w1.heap.size:=szl hb
  obtain⟨p0,p1,p2,p3,p4,p5⟩:=b6 (w.heap.size) k l d b cc o hb
  obtain⟨s0,s1,s2,s3⟩:=b4 (w.heap.size+1) at_ level held a 0 c hb
  have sR:=res_bl (b:=w.heap.size+1) (res_bl (res_new _ _ _ _ _ _ (by simp)) k1) hb
  have rR:=res_bl (b:=w.heap.size+1+1) (res_new _ _ _ _ _ _ (by simp)) hb
  have hB:Below w.heap.size w w1:=hx
  have lb_p:=lbc p0
  have lb_s:=lbc s0
  clear hb hx
  go_wp2_with fail
  refine(HCL.out _).mono ?_
  rintro e w9 ⟨rfl,rfl⟩
  go_wp2_with fail
  refine(HMU.out _).mono ?_
  rintro e w2 ⟨rfl,hb⟩
  have hsz2:w1.heap.size+0≤w2.heap.size:=szl hb
  replace p0:=bl_cell hb p0
  replace p1:=bl_cell hb p1
  replace p2:=bl_cell hb p2
  replace p3:=bl_cell hb p3
  replace p4:=bl_cell hb p4
  replace p5:=bl_cell hb p5
  replace s0:=bl_cell hb s0
  replace s1:=bl_cell hb s1
  replace s2:=bl_cell hb s2
  replace s3:=bl_cell hb s3
  replace sR:=res_bl sR hb
  replace rR:=res_bl rR hb
  replace hB:Below w.heap.size w w2:=bl_then hB hb
  replace lb_p:=lbc p0
  replace lb_s:=lbc s0
  clear hb
  obtain⟨f0,f1,f2,f3,u0,u1,u2,u3,i0,i1,i2,i3⟩:=res_all rR
  have ne:=(show w.heap.size+1≠w.heap.size+1+1 by omega)
  go_wp2_with fail
  (try simp only[Exit.inBlock,Exit.then,Exit.noGoto_ret])
  refine bodyPost_ret (results_state rfl _ _ (by rfl) (set4r (rR))) rfl ⟨rfl,bl4 (hB) (by omega)⟩
theorem r5adv_any (p:Pol) (s:St) (a:Option Addr) (n c:Nat) (now:Int) (w:World) (hl:LogAt w a n c s.log):Calls Tryz.prog 90 #[p.v,s.v a n c,.int .i64 now] w (PostS a n (advG p s now) w):=by
  by_cases h:rightG p s
  · by_cases ht:clampT now≤s.at_
    · exact r5adv_stay p s a n c now w hl h ht
    · by_cases hm:mulOk (clampT now - s.at_) p.limit=true
      · by_cases hn:mulN (clampT now - s.at_) p.limit≤s.level - s.held*p.period
        · exact r5adv_less p s a n c now w hl h (by omega) hm hn
        · exact r5adv_most p s a n c now w hl h (by omega) hm (by omega)
      · exact r5adv_over p s a n c now w hl h (by omega) (by simpa using hm)
  · exact r5adv_no p s a n c now w hl h
theorem r5room_no (p:Pol) (s:St) (a:Option Addr) (n c:Nat) (now:Int) (w:World) (hl:LogAt w a n c s.log) (h:¬ rightG p s):Calls Tryz.prog 133 #[p.v,s.v a n c,.int .i64 now] w fun e w'=>e=.returned (.int .i64 (roomG p s now))∧Below w.heap.size w w':=by
  have hrt:=fun w=>r5right_any p s a n c hl.1 w
  unfold roomG
  rw[if_neg h]
  rw[decide_eq_false h] at hrt
  clear h hl
  obtain⟨k,l,d,b,cc,o⟩:=p
  obtain⟨at_,level,held,L⟩:=s
  unfold St.v Pol.v at *
  dsimp only at *
  have HRT:=Go.Lib.hid hrt
  clear hrt
  go_enter Tryz.func133,Tryz.ntmps133
  go_wp2_with fail
  refine(HRT.out _).mono ?_
  rintro e w1 ⟨rfl,hb⟩
  have hx:Below w.heap.size w w1:=bl_then k2 hb
  have hsz1:w.heap.size+2≤w1.heap.size:=szl hb
  obtain⟨p0,p1,p2,p3,p4,p5⟩:=b6 (w.heap.size) k l d b cc o hb
  obtain⟨s0,s1,s2,s3⟩:=b4 (w.heap.size+1) at_ level held a n c hb
  have sR:=res_bl (b:=w.heap.size+1) (res_new _ _ _ _ _ _ (by simp)) hb
  have hB:Below w.heap.size w w1:=hx
  have lb_p:=lbc p0
  have lb_s:=lbc s0
  clear hb hx
  go_wp2_with fail
  go_ret
  exact⟨rfl,hB⟩
theorem r5room_yes (p:Pol) (s:St) (a:Option Addr) (n c:Nat) (now:Int) (w:World) (hl:LogAt w a n c s.log) (h:rightG p s)  : Calls Tryz.prog 133 #[p.v,s.v a n c,.int .i64 now] w fun e w'=>e=.returned (.int .i64 (roomG p s now))∧Below w.heap.size w w':=by
  have hrt:=fun w=>r5right_any p s a n c hl.1 w
  rw[decide_eq_true h] at hrt
  have hav:=fun w hw=>r5adv_any p s a n c now w hw
  unfold PostS at hav
  have hlv:=advG_level p s now h
  have hd:=h.1.2.2.2.2.2.2.1
  have hD:=h.1.2.2.2.2.2.2.2
  have hbm:=h.1.2.2.2.2.2.1
  have hb0:=h.1.2.2.2.2.1
  have hro:=fun c=>roomG_le (now:=now) (c:=c) h
  have hr0:0≤roomG p s now:=(hro 0).2 (by omega)
  have hr1:roomG p s now≤p.burst:=by have h3:¬ p.burst+1≤roomG p s now:=(fun z=>by have h4:=(hro _).1 z;rw[Int.add_mul] at h4;omega);omega
  generalize roomG p s now=RO at *
  clear h
  generalize advG p s now=A at *
  obtain⟨aat,alv,ahd,alg⟩:=A
  obtain⟨k,l,d,b,cc,o⟩:=p
  obtain⟨at_,level,held,L⟩:=s
  unfold St.v Pol.v at *
  dsimp only at *
  obtain⟨g0,gx,gy,g2⟩:=hlv
  have g1:0≤alv:=by omega
  have HST:=Go.Lib.hid (show 0≤(0:Int)∧0≤RO∧RO≤b∧b≤b by omega)
  have HRO:=Go.Lib.hid hro
  have hw:IntKind.i64.wrap (b*d)=b*d:=IntWalk.i64_in _ (by omega)
  have HWB:=Go.Lib.hid hw
  clear hro hr0 hr1 hw gx gy
  have FL:=fld_level
  have HRT:=Go.Lib.hid hrt
  have HAV:=Go.Lib.hid hav
  have HL:=Go.Lib.hid hl
  clear hrt hav hl
  go_enter Tryz.func133,Tryz.ntmps133
  go_wp2_with fail
  refine(HRT.out _).mono ?_
  rintro e w1 ⟨rfl,hb⟩
  have hx:Below w.heap.size w w1:=bl_then k2 hb
  have hsz1:w.heap.size+2≤w1.heap.size:=szl hb
  obtain⟨p0,p1,p2,p3,p4,p5⟩:=b6 (w.heap.size) k l d b cc o hb
  obtain⟨s0,s1,s2,s3⟩:=b4 (w.heap.size+1) at_ level held a n c hb
  have sR:=res_bl (b:=w.heap.size+1) (res_new _ _ _ _ _ _ (by simp)) hb
  have hB:Below w.heap.size w w1:=hx
  have lb_p:=lbc p0
  have lb_s:=lbc s0
  clear hb hx
  go_wp2_with fail
  refine(HAV.out _ (log_bl HL.out (hB))).mono ?_
  rintro e w2 ⟨a1,n1,c1,rfl,-,-,hb⟩
  have hsz2:w1.heap.size+0≤w2.heap.size:=szl hb
  replace p0:=bl_cell hb p0
  replace p1:=bl_cell hb p1
  replace p2:=bl_cell hb p2
  replace p3:=bl_cell hb p3
  replace p4:=bl_cell hb p4
  replace p5:=bl_cell hb p5
  replace s0:=bl_cell hb s0
  replace s1:=bl_cell hb s1
  replace s2:=bl_cell hb s2
  replace s3:=bl_cell hb s3
  replace sR:=res_bl sR hb
  replace hB:Below w.heap.size w w2:=bl_then hB hb
  replace lb_p:=lbc p0
  replace lb_s:=lbc s0
  clear hb
  go_wp2_with fail
  go_loop [8,9] (fun s8 s9=>∃ lo hi:Int,s8=.int .i64 lo∧s9=.int .i64 hi∧Hid (0≤lo∧lo≤RO∧RO≤hi∧hi≤b)) (fun s8 s9=>(intOf s9 - intOf s8).toNat)
  case atStart=>exact⟨0,b,rfl,rfl,HST.out⟩
  case round =>
    obtain⟨lo,hi,rfl,rfl,H⟩:=hrel
    obtain⟨q0,q1,q2,q3⟩:=H.out
    have hro:=HRO.out ((lo+hi+1) / 2)
    have wb:=HWB.out
    by_cases hlt:lo<hi
    · have e1:lo<(lo+hi+1) / 2:=by omega
      have e2:(lo+hi+1) / 2≤hi:=by omega
      have e3:0≤(lo+hi+1) / 2*d:=Int.mul_nonneg (by omega) (by omega)
      have e4:(lo+hi+1) / 2*d≤1152921504606846976:=prod_le (by omega) (by omega) (by omega)
      have wc:IntKind.i64.wrap ((lo+hi+1) / 2*d)=(lo+hi+1) / 2*d:=IntWalk.i64_in _ (by omega)
      have wd:IntKind.i64.wrap (alv+(lo+hi+1) / 2*d)=alv+(lo+hi+1) / 2*d:=IntWalk.i64_in _ (by omega)
      have we:Int.tdiv (lo+hi+1) 2=(lo+hi+1) / 2:=Int.tdiv_eq_ediv_of_nonneg (by omega)
      have wf:IntKind.i64.wrap (lo+hi)=lo+hi:=IntWalk.i64_in _ (by omega)
      have wg:IntKind.i64.wrap (lo+hi+1)=lo+hi+1:=IntWalk.i64_in _ (by omega)
      have wh:IntKind.i64.wrap ((lo+hi+1) / 2)=(lo+hi+1) / 2:=IntWalk.i64_in _ (by omega)
      have wi:IntKind.i64.wrap ((lo+hi+1) / 2 - 1)=(lo+hi+1) / 2 - 1:=IntWalk.i64_in _ (by omega)
      have hH:=H.out
      generalize (lo+hi+1) / 2=C at *
      by_cases hc:alv+C*d≤b*d
      · have hlo:C≤RO:=hro.2 hc
        have HP:=Go.Lib.hid (show 0≤C∧C≤RO∧RO≤hi∧hi≤b by omega)
        have HM:=Go.Lib.hid (show(hi - C).toNat<(hi - lo).toNat by omega)
        clear hro hlo e1 e2 e3 e4 q0 q1 q2 q3 H hH g0 g1 g2 hd hD hbm hb0
        go_wp2_with go_step3
        go_round
        case rel=>exact⟨C,hi,rfl,rfl,HP⟩
        case measure=>(simp[intOf];have:=HM.out;omega)
      · have hhi:RO≤C - 1:=by have h3:¬ C≤RO:=fun z=>hc (hro.1 z);omega
        have HP:=Go.Lib.hid (show 0≤lo∧lo≤RO∧RO≤C - 1∧C - 1≤b by omega)
        have HM:=Go.Lib.hid (show(C - 1 - lo).toNat<(hi - lo).toNat by omega)
        clear hro hhi e1 e2 e3 e4 q0 q1 q2 q3 H hH g0 g1 g2 hd hD hbm hb0
        go_wp2_with go_step3
        go_round
        case rel=>exact⟨lo,C - 1,rfl,rfl,HP⟩
        case measure=>(simp[intOf];have:=HM.out;omega)
    · have he:lo=RO:=by omega
      subst he
      go_wp2_with go_step3
      go_ret
      exact⟨rfl,hB⟩
theorem r5room_any (p:Pol) (s:St) (a:Option Addr) (n c:Nat) (now:Int) (w:World) (hl:LogAt w a n c s.log):Calls Tryz.prog 133 #[p.v,s.v a n c,.int .i64 now] w fun e w'=>e=.returned (.int .i64 (roomG p s now))∧Below w.heap.size w w':=by
  by_cases h:rightG p s
  · exact r5room_yes p s a n c now w hl h
  · exact r5room_no p s a n c now w hl h
theorem r5until_no (p:Pol) (s:St) (a:Option Addr) (n c:Nat) (now:Int) (w:World) (hl:LogAt w a n c s.log) (h:¬ rightG p s):Calls Tryz.prog 49 #[p.v,s.v a n c,.int .i64 now] w fun e w'=>e=.returned (.int .i64 (untilG p s now))∧Below w.heap.size w w':=by
  have hrt:=fun w=>r5right_any p s a n c hl.1 w
  unfold untilG
  rw[if_neg (fun z=>h z.1)]
  rw[decide_eq_false h] at hrt
  clear h hl
  obtain⟨k,l,d,b,cc,o⟩:=p
  obtain⟨at_,level,held,L⟩:=s
  unfold St.v Pol.v at *
  dsimp only at *
  have HRT:=Go.Lib.hid hrt
  clear hrt
  go_enter Tryz.func49,Tryz.ntmps49
  go_wp2_with fail
  refine(HRT.out _).mono ?_
  rintro e w1 ⟨rfl,hb⟩
  have hx:Below w.heap.size w w1:=bl_then k2 hb
  have hsz1:w.heap.size+2≤w1.heap.size:=szl hb
  obtain⟨p0,p1,p2,p3,p4,p5⟩:=b6 (w.heap.size) k l d b cc o hb
  obtain⟨s0,s1,s2,s3⟩:=b4 (w.heap.size+1) at_ level held a n c hb
  have sR:=res_bl (b:=w.heap.size+1) (res_new _ _ _ _ _ _ (by simp)) hb
  have hB:Below w.heap.size w w1:=hx
  have lb_p:=lbc p0
  have lb_s:=lbc s0
  clear hb hx
  go_wp2_with fail
  go_ret
  exact⟨rfl,hB⟩
theorem r5until_held (p:Pol) (s:St) (a:Option Addr) (n c:Nat) (now:Int) (w:World) (hl:LogAt w a n c s.log) (h:rightG p s) (hh:0<s.held):Calls Tryz.prog 49 #[p.v,s.v a n c,.int .i64 now] w fun e w'=>e=.returned (.int .i64 (untilG p s now))∧Below w.heap.size w w':=by
  have hrt:=fun w=>r5right_any p s a n c hl.1 w
  unfold untilG
  rw[if_neg (fun z=>by have:=z.2;omega)]
  rw[decide_eq_true h] at hrt
  clear h hl
  obtain⟨k,l,d,b,cc,o⟩:=p
  obtain⟨at_,level,held,L⟩:=s
  unfold St.v Pol.v at *
  dsimp only at *
  have HRT:=Go.Lib.hid hrt
  clear hrt
  go_enter Tryz.func49,Tryz.ntmps49
  go_wp2_with fail
  refine(HRT.out _).mono ?_
  rintro e w1 ⟨rfl,hb⟩
  have hx:Below w.heap.size w w1:=bl_then k2 hb
  have hsz1:w.heap.size+2≤w1.heap.size:=szl hb
  obtain⟨p0,p1,p2,p3,p4,p5⟩:=b6 (w.heap.size) k l d b cc o hb
  obtain⟨s0,s1,s2,s3⟩:=b4 (w.heap.size+1) at_ level held a n c hb
  have sR:=res_bl (b:=w.heap.size+1) (res_new _ _ _ _ _ _ (by simp)) hb
  have hB:Below w.heap.size w w1:=hx
  have lb_p:=lbc p0
  have lb_s:=lbc s0
  clear hb hx
  go_wp2_with fail
  go_ret
  exact⟨rfl,hB⟩
theorem r5until_yes (p:Pol) (s:St) (a:Option Addr) (n c:Nat) (now:Int) (w:World) (hl:LogAt w a n c s.log) (h:rightG p s) (hh:s.held≤0):Calls Tryz.prog 49 #[p.v,s.v a n c,.int .i64 now] w fun e w'=>e=.returned (.int .i64 (untilG p s now))∧Below w.heap.size w w':=by
  have hrt:=fun w=>r5right_any p s a n c hl.1 w
  rw[decide_eq_true h] at hrt
  have hav:=fun w hw=>r5adv_any p s a n c now w hw
  unfold PostS at hav
  have hlv:=advG_level p s now h
  have hd:=h.1.2.2.2.2.2.2.1
  have hD:=h.1.2.2.2.2.2.2.2
  have hbm:=h.1.2.2.2.2.2.1
  have hb0:=h.1.2.2.2.2.1
  unfold untilG
  rw[if_pos ⟨h,hh⟩]
  have hls:=fun w=>rlasts5_any p (advG p s now).level w h.1.2.2.1 h.1.2.2.2.1 (by omega)
  clear h
  generalize advG p s now=A at *
  obtain⟨aat,alv,ahd,alg⟩:=A
  obtain⟨k,l,d,b,cc,o⟩:=p
  obtain⟨at_,level,held,L⟩:=s
  unfold St.v Pol.v at *
  dsimp only at *
  have hh':¬ 0<held:=by omega
  generalize ceilD alv l=RC at *
  clear hlv hd hD hbm hb0 hh
  have FL:=fld_level
  have HLS:=Go.Lib.hid hls
  clear hls
  have HRT:=Go.Lib.hid hrt
  have HAV:=Go.Lib.hid hav
  have HL:=Go.Lib.hid hl
  clear hrt hav hl
  go_enter Tryz.func49,Tryz.ntmps49
  go_wp2_with fail
  refine(HRT.out _).mono ?_
  rintro e w1 ⟨rfl,hb⟩
  have hx:Below w.heap.size w w1:=bl_then k2 hb
  have hsz1:w.heap.size+2≤w1.heap.size:=szl hb
  obtain⟨p0,p1,p2,p3,p4,p5⟩:=b6 (w.heap.size) k l d b cc o hb
  obtain⟨s0,s1,s2,s3⟩:=b4 (w.heap.size+1) at_ level held a n c hb
  have sR:=res_bl (b:=w.heap.size+1) (res_new _ _ _ _ _ _ (by simp)) hb
  have hB:Below w.heap.size w w1:=hx
  have lb_p:=lbc p0
  have lb_s:=lbc s0
  clear hb hx
  go_wp2_with fail
  refine wp_region_held_drew (S:=fun w'=>P6 w' (w.heap.size) k l d b cc o (S4 w' (w.heap.size+1) at_ level held a n c (ResB w' (w.heap.size+1)∧Below w.heap.size w w'))) (by kernel_rfl) ?_ (fun hHeld=>?_)
  · exact⟨p0,p1,p2,p3,p4,p5,s0,s1,s2,s3,sR,bl_drew hB⟩
  try simp only[Act.put,List.setIfInBounds_toArray,List.set_cons_zero,List.set_cons_succ]
  refine tkx 0 ?_
  refine tkx 1 ?_
  refine tkx 2 ?_
  refine tkx 3 ?_
  (refine callH (i:=4) rfl hHeld (fun W hW K hK=>?_);clear hHeld;(try dsimp only at hW);obtain⟨h_p0,h_p1,h_p2,h_p3,h_p4,h_p5,h_s0,h_s1,h_s2,h_s3,h_sR,h_B⟩:=hW;go_simp;refine(HAV.out W (log_bl HL.out h_B)).mono ?_;rintro e w9 ⟨a1,n1,c1,rfl,-,-,hb⟩;go_wp2_with fail;refine hK.out _ _ ?_ (fun hHeld=>?_);(focus((try dsimp only);exact⟨bl_cell hb h_p0,bl_cell hb h_p1,bl_cell hb h_p2,bl_cell hb h_p3,bl_cell hb h_p4,bl_cell hb h_p5,bl_cell hb h_s0,bl_cell hb h_s1,bl_cell hb h_s2,bl_cell hb h_s3,res_bl h_sR hb,bl_then h_B hb⟩));clear hK K;clear h_p0 h_p1 h_p2 h_p3 h_p4 h_p5 h_s0 h_s1 h_s2 h_s3 h_sR h_B;try simp only[Act.put,List.setIfInBounds_toArray,List.set_cons_zero,List.set_cons_succ])
  refine tkx 5 ?_
  (refine callH (i:=6) rfl hHeld (fun W hW K hK=>?_);clear hHeld;(try dsimp only at hW);obtain⟨h_p0,h_p1,h_p2,h_p3,h_p4,h_p5,h_s0,h_s1,h_s2,h_s3,h_sR,h_B⟩:=hW;go_simp;refine(HLS.out W).mono ?_;rintro e w9 ⟨rfl,hb⟩;go_wp2_with fail;refine hK.out _ _ ?_ (fun hHeld=>?_);(focus((try dsimp only);exact⟨bl_cell hb h_p0,bl_cell hb h_p1,bl_cell hb h_p2,bl_cell hb h_p3,bl_cell hb h_p4,bl_cell hb h_p5,bl_cell hb h_s0,bl_cell hb h_s1,bl_cell hb h_s2,bl_cell hb h_s3,res_bl h_sR hb,bl_then h_B hb⟩));clear hK K;clear h_p0 h_p1 h_p2 h_p3 h_p4 h_p5 h_s0 h_s1 h_s2 h_s3 h_sR h_B;try simp only[Act.put,List.setIfInBounds_toArray,List.set_cons_zero,List.set_cons_succ])
  refine tkx 7 ?_
  refine wpAnyH_done (by kernel_rfl) ?_ _
  refine then_abs (F:=fun w'=>P6 w' (w.heap.size) k l d b cc o (S4 w' (w.heap.size+1) at_ level held a n c (ResB w' (w.heap.size+1)∧Below w.heap.size w w'))) hHeld ?_
  clear hHeld hB p0 p1 p2 p3 p4 p5 s0 s1 s2 s3 sR
  rintro w2 ⟨p0,p1,p2,p3,p4,p5,s0,s1,s2,s3,sR,hB⟩
  replace lb_p:=lbc p0
  replace lb_s:=lbc s0
  go_wp2_with fail
  go_ret
  exact⟨rfl,hB⟩
theorem r5until_any (p:Pol) (s:St) (a:Option Addr) (n c:Nat) (now:Int) (w:World) (hl:LogAt w a n c s.log):Calls Tryz.prog 49 #[p.v,s.v a n c,.int .i64 now] w fun e w'=>e=.returned (.int .i64 (untilG p s now))∧Below w.heap.size w w':=by
  by_cases h:rightG p s
  · by_cases hh:s.held≤0
    · exact r5until_yes p s a n c now w hl h hh
    · exact r5until_held p s a n c now w hl h (by omega)
  · exact r5until_no p s a n c now w hl h
theorem r5retry_no (p:Pol) (s:St) (a:Option Addr) (n c:Nat) (now cost:Int) (w:World) (hl:LogAt w a n c s.log) (h:¬ rightG p s):Calls Tryz.prog 129 #[p.v,s.v a n c,.int .i64 now,.int .i64 cost] w fun e w'=>e=.returned (.tuple #[.int .i64 (retryG p s now cost).1,.bool (retryG p s now cost).2])∧Below w.heap.size w w':=by
  have hrt:=fun w=>r5right_any p s a n c hl.1 w
  unfold retryG
  rw[if_neg (fun z=>h z.1)]
  rw[decide_eq_false h] at hrt
  clear h hl
  obtain⟨k,l,d,b,cc,o⟩:=p
  obtain⟨at_,level,held,L⟩:=s
  unfold St.v Pol.v at *
  dsimp only at *
  have HRT:=Go.Lib.hid hrt
  clear hrt
  go_enter Tryz.func129,Tryz.ntmps129
  go_wp2_with fail
  refine(HRT.out _).mono ?_
  rintro e w1 ⟨rfl,hb⟩
  have hx:Below w.heap.size w w1:=bl_then k2 hb
  have hsz1:w.heap.size+2≤w1.heap.size:=szl hb
  obtain⟨p0,p1,p2,p3,p4,p5⟩:=b6 (w.heap.size) k l d b cc o hb
  obtain⟨s0,s1,s2,s3⟩:=b4 (w.heap.size+1) at_ level held a n c hb
  have sR:=res_bl (b:=w.heap.size+1) (res_new _ _ _ _ _ _ (by simp)) hb
  have hB:Below w.heap.size w w1:=hx
  have lb_p:=lbc p0
  have lb_s:=lbc s0
  clear hb hx
  go_wp2_with fail
  go_ret2
  exact⟨rfl,hB⟩
theorem r5retry_less (p:Pol) (s:St) (a:Option Addr) (n c:Nat) (now cost:Int) (w:World) (hl:LogAt w a n c s.log) (h:rightG p s) (h1:cost<1):Calls Tryz.prog 129 #[p.v,s.v a n c,.int .i64 now,.int .i64 cost] w fun e w'=>e=.returned (.tuple #[.int .i64 (retryG p s now cost).1,.bool (retryG p s now cost).2])∧Below w.heap.size w w':=by
  have hrt:=fun w=>r5right_any p s a n c hl.1 w
  unfold retryG
  rw[if_neg (fun z=>by have:=z.2.1;omega)]
  rw[decide_eq_true h] at hrt
  clear h hl
  obtain⟨k,l,d,b,cc,o⟩:=p
  obtain⟨at_,level,held,L⟩:=s
  unfold St.v Pol.v at *
  dsimp only at *
  have HRT:=Go.Lib.hid hrt
  clear hrt
  go_enter Tryz.func129,Tryz.ntmps129
  go_wp2_with fail
  refine(HRT.out _).mono ?_
  rintro e w1 ⟨rfl,hb⟩
  have hx:Below w.heap.size w w1:=bl_then k2 hb
  have hsz1:w.heap.size+2≤w1.heap.size:=szl hb
  obtain⟨p0,p1,p2,p3,p4,p5⟩:=b6 (w.heap.size) k l d b cc o hb
  obtain⟨s0,s1,s2,s3⟩:=b4 (w.heap.size+1) at_ level held a n c hb
  have sR:=res_bl (b:=w.heap.size+1) (res_new _ _ _ _ _ _ (by simp)) hb
  have hB:Below w.heap.size w w1:=hx
  have lb_p:=lbc p0
  have lb_s:=lbc s0
  clear hb hx
  go_wp2_with fail
  go_ret2
  exact⟨rfl,hB⟩
theorem r5retry_more (p:Pol) (s:St) (a:Option Addr) (n c:Nat) (now cost:Int) (w:World) (hl:LogAt w a n c s.log) (h:rightG p s) (h1:¬ cost<1) (h2:p.burst - s.held<cost):Calls Tryz.prog 129 #[p.v,s.v a n c,.int .i64 now,.int .i64 cost] w fun e w'=>e=.returned (.tuple #[.int .i64 (retryG p s now cost).1,.bool (retryG p s now cost).2])∧Below w.heap.size w w':=by
  have hrt:=fun w=>r5right_any p s a n c hl.1 w
  unfold retryG
  rw[if_neg (fun z=>by have:=z.2.2;omega)]
  have hbb:=h.1.2.2.2.2.2.1
  have hhd:=h.2.2.2.1
  have hhe:=h.2.2.2.2.1
  rw[decide_eq_true h] at hrt
  clear h hl
  obtain⟨k,l,d,b,cc,o⟩:=p
  obtain⟨at_,level,held,L⟩:=s
  unfold St.v Pol.v at *
  dsimp only at *
  have wa9:IntKind.i64.wrap (b - held)=b - held:=IntWalk.i64_in _ (by omega)
  clear hbb hhd hhe
  have HRT:=Go.Lib.hid hrt
  clear hrt
  go_enter Tryz.func129,Tryz.ntmps129
  go_wp2_with fail
  refine(HRT.out _).mono ?_
  rintro e w1 ⟨rfl,hb⟩
  have hx:Below w.heap.size w w1:=bl_then k2 hb
  have hsz1:w.heap.size+2≤w1.heap.size:=szl hb
  obtain⟨p0,p1,p2,p3,p4,p5⟩:=b6 (w.heap.size) k l d b cc o hb
  obtain⟨s0,s1,s2,s3⟩:=b4 (w.heap.size+1) at_ level held a n c hb
  have sR:=res_bl (b:=w.heap.size+1) (res_new _ _ _ _ _ _ (by simp)) hb
  have hB:Below w.heap.size w w1:=hx
  have lb_p:=lbc p0
  have lb_s:=lbc s0
  clear hb hx
  go_wp2_with fail
  go_ret2
  exact⟨rfl,hB⟩
theorem r5retry_yes (p:Pol) (s:St) (a:Option Addr) (n c:Nat) (now cost:Int) (w:World) (hl:LogAt w a n c s.log) (h:rightG p s) (h1:1≤cost) (h2:cost≤p.burst - s.held):Calls Tryz.prog 129 #[p.v,s.v a n c,.int .i64 now,.int .i64 cost] w fun e w'=>e=.returned (.tuple #[.int .i64 (retryG p s now cost).1,.bool (retryG p s now cost).2])∧Below w.heap.size w w':=by
  have hrt:=fun w=>r5right_any p s a n c hl.1 w
  rw[decide_eq_true h] at hrt
  have hav:=fun w hw=>r5adv_any p s a n c now w hw
  unfold PostS at hav
  have hlv:=advG_level p s now h
  have hd:=h.1.2.2.2.2.2.2.1
  have hD:=h.1.2.2.2.2.2.2.2
  have hbm:=h.1.2.2.2.2.2.1
  have hb0:=h.1.2.2.2.2.1
  unfold retryG
  rw[if_pos ⟨h,h1,h2⟩,show(advG p s now).level - (p.burst - cost)*p.period=(advG p s now).level+cost*p.period - p.burst*p.period by rw[Int.sub_mul];omega]
  have hhd:=h.2.2.2.1
  have hhe:=h.2.2.2.2.1
  have hV:cost*p.period≤1152921504606846976:=prod_le (by omega) (by omega) (by omega)
  have hV0:0≤cost*p.period:=Int.mul_nonneg (by omega) (by omega)
  have hls:=fun w=>rlasts5_any p ((advG p s now).level+cost*p.period - p.burst*p.period) w h.1.2.2.1 h.1.2.2.2.1 (by omega)
  clear h
  generalize advG p s now=A at *
  obtain⟨aat,alv,ahd,alg⟩:=A
  obtain⟨k,l,d,b,cc,o⟩:=p
  obtain⟨at_,level,held,L⟩:=s
  unfold St.v Pol.v at *
  dsimp only at *
  obtain⟨g0,gx,gy,g2⟩:=hlv
  have wa1:IntKind.i64.wrap (cost*d)=cost*d:=IntWalk.i64_in _ (by omega)
  have wa2:IntKind.i64.wrap (alv+cost*d)=alv+cost*d:=IntWalk.i64_in _ (by omega)
  have wa3:IntKind.i64.wrap (b*d)=b*d:=IntWalk.i64_in _ (by omega)
  have wa4:IntKind.i64.wrap (alv+cost*d - b*d)=alv+cost*d - b*d:=IntWalk.i64_in _ (by omega)
  have wa9:IntKind.i64.wrap (b - held)=b - held:=IntWalk.i64_in _ (by omega)
  have h1':¬ cost<1:=by omega
  have h2':¬ b - held<cost:=by omega
  generalize ceilD (alv+cost*d - b*d) l=RC at *
  clear g0 gx gy g2 h1 h2 hV hV0 hbm hhd hhe hd hD hb0
  have FL:=fld_level
  have HLS:=Go.Lib.hid hls
  clear hls
  have HRT:=Go.Lib.hid hrt
  have HAV:=Go.Lib.hid hav
  have HL:=Go.Lib.hid hl
  clear hrt hav hl
  go_enter Tryz.func129,Tryz.ntmps129
  go_wp2_with fail
  refine(HRT.out _).mono ?_
  rintro e w1 ⟨rfl,hb⟩
  have hx:Below w.heap.size w w1:=bl_then k2 hb
  have hsz1:w.heap.size+2≤w1.heap.size:=szl hb
  obtain⟨p0,p1,p2,p3,p4,p5⟩:=b6 (w.heap.size) k l d b cc o hb
  obtain⟨s0,s1,s2,s3⟩:=b4 (w.heap.size+1) at_ level held a n c hb
  have sR:=res_bl (b:=w.heap.size+1) (res_new _ _ _ _ _ _ (by simp)) hb
  have hB:Below w.heap.size w w1:=hx
  have lb_p:=lbc p0
  have lb_s:=lbc s0
  clear hb hx
  go_wp2_with fail
  refine wp_region_held_drew (S:=fun w'=>P6 w' (w.heap.size) k l d b cc o (S4 w' (w.heap.size+1) at_ level held a n c (ResB w' (w.heap.size+1)∧Below w.heap.size w w'))) (by kernel_rfl) ?_ (fun hHeld=>?_)
  · exact⟨p0,p1,p2,p3,p4,p5,s0,s1,s2,s3,sR,bl_drew hB⟩
  try simp only[Act.put,List.setIfInBounds_toArray,List.set_cons_zero,List.set_cons_succ]
  refine tkx 0 ?_
  refine tkx 1 ?_
  refine tkx 2 ?_
  refine tkx 3 ?_
  refine tkx 6 ?_
  refine tkx 7 ?_
  refine tkx 8 ?_
  refine tkx 9 ?_
  refine tkx 11 ?_
  refine tkx 12 ?_
  refine tkx 13 ?_
  refine tkx 14 ?_
  refine tkx 15 ?_
  (refine callH (i:=4) rfl hHeld (fun W hW K hK=>?_);clear hHeld;(try dsimp only at hW);obtain⟨h_p0,h_p1,h_p2,h_p3,h_p4,h_p5,h_s0,h_s1,h_s2,h_s3,h_sR,h_B⟩:=hW;go_simp;refine(HAV.out W (log_bl HL.out h_B)).mono ?_;rintro e w9 ⟨a1,n1,c1,rfl,-,-,hb⟩;go_wp2_with fail;refine hK.out _ _ ?_ (fun hHeld=>?_);(focus((try dsimp only);exact⟨bl_cell hb h_p0,bl_cell hb h_p1,bl_cell hb h_p2,bl_cell hb h_p3,bl_cell hb h_p4,bl_cell hb h_p5,bl_cell hb h_s0,bl_cell hb h_s1,bl_cell hb h_s2,bl_cell hb h_s3,res_bl h_sR hb,bl_then h_B hb⟩));clear hK K;clear h_p0 h_p1 h_p2 h_p3 h_p4 h_p5 h_s0 h_s1 h_s2 h_s3 h_sR h_B;try simp only[Act.put,List.setIfInBounds_toArray,List.set_cons_zero,List.set_cons_succ])
  refine tkx 5 ?_
  refine tkx 10 ?_
  refine tkx 16 ?_
  (refine callH (i:=17) rfl hHeld (fun W hW K hK=>?_);clear hHeld;(try dsimp only at hW);obtain⟨h_p0,h_p1,h_p2,h_p3,h_p4,h_p5,h_s0,h_s1,h_s2,h_s3,h_sR,h_B⟩:=hW;go_simp;refine(HLS.out W).mono ?_;rintro e w9 ⟨rfl,hb⟩;go_wp2_with fail;refine hK.out _ _ ?_ (fun hHeld=>?_);(focus((try dsimp only);exact⟨bl_cell hb h_p0,bl_cell hb h_p1,bl_cell hb h_p2,bl_cell hb h_p3,bl_cell hb h_p4,bl_cell hb h_p5,bl_cell hb h_s0,bl_cell hb h_s1,bl_cell hb h_s2,bl_cell hb h_s3,res_bl h_sR hb,bl_then h_B hb⟩));clear hK K;clear h_p0 h_p1 h_p2 h_p3 h_p4 h_p5 h_s0 h_s1 h_s2 h_s3 h_sR h_B;try simp only[Act.put,List.setIfInBounds_toArray,List.set_cons_zero,List.set_cons_succ])
  refine tkx 18 ?_
  refine tkx 19 ?_
  refine wpAnyH_done (by kernel_rfl) ?_ _
  refine then_abs (F:=fun w'=>P6 w' (w.heap.size) k l d b cc o (S4 w' (w.heap.size+1) at_ level held a n c (ResB w' (w.heap.size+1)∧Below w.heap.size w w'))) hHeld ?_
  clear hHeld hB p0 p1 p2 p3 p4 p5 s0 s1 s2 s3 sR
  rintro w2 ⟨p0,p1,p2,p3,p4,p5,s0,s1,s2,s3,sR,hB⟩
  replace lb_p:=lbc p0
  replace lb_s:=lbc s0
  go_wp2_with fail
  go_ret2
  exact⟨rfl,hB⟩
theorem r5retry_any (p:Pol) (s:St) (a:Option Addr) (n c:Nat) (now cost:Int) (w:World) (hl:LogAt w a n c s.log):Calls Tryz.prog 129 #[p.v,s.v a n c,.int .i64 now,.int .i64 cost] w fun e w'=>e=.returned (.tuple #[.int .i64 (retryG p s now cost).1,.bool (retryG p s now cost).2])∧Below w.heap.size w w':=by
  by_cases h:rightG p s
  · by_cases h1:cost<1
    · exact r5retry_less p s a n c now cost w hl h h1
    · by_cases h2:p.burst - s.held<cost
      · exact r5retry_more p s a n c now cost w hl h h1 h2
      · exact r5retry_yes p s a n c now cost w hl h (by omega) (by omega)
  · exact r5retry_no p s a n c now cost w hl h
end Go.Proofs.YtmhikkbdhboodaaGreat
