/-
  What window.Advance answers.
  What window.note answers.
  What window.note answers where an entry is added.
  What window.Advance answers: the other ways, and all in one.
  What window.note and slices.Clone answer: all ways in one.
  What gcra.Do, counter.Do and window.Do answer where the state may not be; gcra.Do where the cost may not be.
  What bucket's acts make of a state: the two that call nothing.
  What bucket.acts answers: a map of four functions; what is found in it.
  What bucket's acts make of a state: the two that call another one.
  What bucket.Right answers.
  What bucket.Right answers: at every policy and every state.
  What bucket.Advance answers.
  What bucket.Do answers where the act is one of the four, and its cost may be.
  What bucket.Do answers where nothing is done.
  What gcra.Do answers where the cost may be.
  What counter.changes answers.
  What counter.Do answers where the state may be.
  What window.Do answers where the state may be.
  What window.Do answers where the state may be.
  What each policy's Do answers: one contract each, by the plain reckoning.
  What gcra.Do, counter.Do and window.Do answer: one contract each.
  What limiter.of answers; limiter.Check.
  What limiter.Check answers.
  What limiter.Check answers.
  What a kernel's methods answer, whatever function stands in it: do, start, room.
  What a kernel's methods answer, whatever function stands in it: right, until, retry, advance.
  What bucket.New answers.
  What gcra.New answers.
  What counter.New answers.
  What window.New answers.
  What bucket.Room answers.
  What gcra.Room answers.
  What counter.next, Room, Until and Retry answer.
  What window.Room answers.
  What limiter.Do, New and Room answer.
  What bucket.Until answers.
  What gcra.Until answers.
  What window.Until answers.
  What limiter.Right, Until, Advance and Fresh answer.
  A map with string keys whose elements are whatever values: as a list of keys and elements, rising by key. Plain words over the kit's 'ownsMap'.
  No condition.
-/
import Derived.Test.YtmhikkbdhboodaaGreatZc1
import Derived.WalkMore
import Derived.LoopN
import Derived.Laws.EntriesVeiled
import Derived.WideLaws
import Derived.Maps.OwnSet
import Derived.Maps.Ext
import Derived.Maps.RangeWalk
import Derived.Sort.KeysCollected
import Derived.WalkKit
import Derived.StringKeys
import Derived.Deep.Draws
set_option maxHeartbeats 8000000
set_option maxRecDepth 100000
namespace Go.Proofs.YtmhikkbdhboodaaGreat
open Go.RowKit
set_option linter.unusedVariables false
set_option linter.unusedSimpArgs false

/-- A state with a log of one's own. -/
def StOwn (s:St) (base:Nat) (e:Ending) (w':World):Prop:=∃ (v:Value) (m:Nat),e=.returned (.agg #[.int .i64 s.at_,.int .i64 s.level,.int .i64 s.held,v])∧OwnLog w' base v m s.log
theorem live_drop {period t:Int} {L:List (Int × Int)} {k:Nat} (hk:k<L.length) (h:live period t L=live period t (L.drop k)) :
  (t - (L.getD k (0,0)).1<period→live period t L=L.drop k)∧(¬ t - (L.getD k (0,0)).1<period→live period t L=live period t (L.drop (k+1))):=by
 rw[drop_getD L k hk] at h
 constructor
 ·intro h1
  rw[h,drop_getD L k hk]
  show(if _ then _ else _)=_
  rw[if_pos h1]
 ·intro h1
  rw[h]
  show(if _ then _ else _)=_
  rw[if_neg h1]

theorem wadv_some (p:Pol) (s:St) (bb off:Nat) (n c:Nat) (now:Int) (w:World) (h:rightL p s) (hlog:LogAt w (some ⟨bb,off,none⟩) n c s.log) (hn0:0<n):Calls Tryz.prog 106 #[p.v,s.v (some ⟨bb,off,none⟩) n c,.int .i64 now] w fun e w'=>StOwn (advL p s now) w.heap.size e w'∧Below w.heap.size w w':=by
 have hrt:=fun W hW=>wright_any p s (some ⟨bb,off,none⟩) n c W hW
 unfold advL
 rw[if_pos h]
 rw[decide_eq_true h] at hrt
 have HLOG:=Go.Lib.hid hlog
 obtain⟨hok,r1,r2,r3,r4,r5,r6,r7,r8⟩:=h
 have hall:=risen_all r6
 have hcr:=clampT_range now
 have hcl:=clamp_any now
 obtain⟨q0,q1,q2,q3,q4,q5,q6,q7⟩:=hok
 have hlen:=hlog.1
 have hcl2:∀ j,j<n→w.cell? ⟨bb,off+j*2,none⟩=some (.int .i64 (s.log.getD j (0,0)).1)∧w.cell? ⟨bb,off+j*2+1,none⟩=some (.int .i64 (s.log.getD j (0,0)).2):=fun j hj=>by
  obtain⟨b1,o1,e1,e2⟩:=hlog.2.2.2 j hj
  injection e1 with e1
  injection e1 with e3 e4
  subst e3 e4
  exact e2
 have hnc:=hlog.2.1
 obtain⟨k,l,d,b,cc,o⟩:=p
 obtain⟨at_,level,held,L⟩:=s
 unfold St.v Pol.v at *
 dsimp only at *
 generalize hCC:clampT now=C at *
 have hmx:(if at_<C then C else at_)=up at_ C:=rfl
 have hTr:at_≤up at_ C∧up at_ C≤9007199254740992:=by unfold up;split <;> omega
 generalize hTT:up at_ C=T at *
 have hent:∀ j,j<n→0≤(L.getD j (0,0)).1∧(L.getD j (0,0)).1≤at_:=fun j hj=>by
  have hjl:j<L.length:=by omega
  have h1:L.getD j (0,0) ∈ L:=by rw[List.getD_eq_getElem?_getD,List.getElem?_eq_getElem hjl];exact List.getElem_mem hjl
  exact(hall _ h1).2.2
 have HX:=Go.Lib.hid (And.intro hent (And.intro hcl2 (And.intro hlen (And.intro hnc (And.intro hTr (And.intro r7 q6))))))
 have HRT:=Go.Lib.hid hrt
 have HCL:=Go.Lib.hid hcl
 clear hrt hcl hall hcr hlog hcl2 hlen hnc hTr hent hCC hTT r1 r2 r3 r4 r5 r6 r7 r8 q0 q1 q2 q3 q4 q5 q6 q7
 go_enter Tryz.func106,Tryz.ntmps106
 go_wp2_with go_step3
 refine(HRT.out _ (log_bl HLOG.out k3)).mono ?_
 rintro e w1 ⟨rfl,hb⟩
 have hB:Below w.heap.size w w1:=bl_then k3 hb
 obtain⟨c0,c1,c2,c3,c4,c5⟩:=b6 (w.heap.size) k l d b cc o hb
 have c6:=bl_cell (v:=.int .i64 at_) hb (show World.cell? _ ⟨w.heap.size+1,0,none⟩=_ by go_simp)
 have c7:=bl_cell (v:=.int .i64 level) hb (show World.cell? _ ⟨w.heap.size+1,1,none⟩=_ by go_simp)
 have c8:=bl_cell (v:=.int .i64 held) hb (show World.cell? _ ⟨w.heap.size+1,2,none⟩=_ by go_simp)
 have c9:=bl_cell (v:=.slice (some ⟨bb,off,none⟩) n c) hb (show World.cell? _ ⟨w.heap.size+1,3,none⟩=_ by go_simp)
 have hR:ResB w1 (w.heap.size+1+1):=res_bl (res_new _ _ _ _ _ _ (by simp)) hb
 clear hb HRT
 go_wp2_with go_step3
 refine wp_region_held_drew (S:=fun w'=>P6 w' (w.heap.size) k l d b cc o (S4 w' (w.heap.size+1) at_ level held (some ⟨bb,off,none⟩) n c (ResB w' (w.heap.size+1+1)∧Below w.heap.size w w'))) (by kernel_rfl) ?_ (fun hHeld=>?_)
 ·exact⟨c0,c1,c2,c3,c4,c5,c6,c7,c8,c9,hR,bl_drew hB⟩
 try simp only[Act.put,List.setIfInBounds_toArray,List.set_cons_zero,List.set_cons_succ]
 all_goals refine tkx 0 ?_
 all_goals refine tkx 1 ?_
 all_goals refine tkx 2 ?_
 all_goals((refine callH (i:=3) rfl hHeld (fun W hW K hK=>?_);clear hHeld;(try dsimp only at hW);go_simp;refine(HCL.out _).mono ?_;rintro e w1 ⟨rfl,rfl⟩;go_wp2_with fail;refine hK.out _ _ ?_ (fun hHeld=>?_);(focus((try dsimp only);exact hW));clear hK K;try simp only[Act.put,List.setIfInBounds_toArray,List.set_cons_zero,List.set_cons_succ]))
 all_goals refine tkx 4 ?_
 all_goals refine tkx 5 ?_
 all_goals(refine wpAnyH_done (by kernel_rfl) ?_ _)
 clear hB hR c0 c1 c2 c3 c4 c5 c6 c7 c8 c9
 refine then_abs (F:=fun w'=>P6 w' (w.heap.size) k l d b cc o (S4 w' (w.heap.size+1) at_ level held (some ⟨bb,off,none⟩) n c (ResB w' (w.heap.size+1+1)∧Below w.heap.size w w'))) hHeld ?_
 clear hHeld
 rintro W ⟨c0,c1,c2,c3,c4,c5,c6,c7,c8,c9,hR,hB⟩
 go_wp2_with go_step3
 go_loopw [8] (fun s8 wr=>∃ j:Nat,s8=.int .i64 j∧j≤n∧Hid (Below W.heap.size W wr∧live d T L=live d T (L.drop j)))
  (fun s8 _=>n - (intOf s8).toNat)
 case atStart=>exact⟨0,rfl,Nat.zero_le _,⟨Below.refl _ _,by simp⟩⟩
 case round =>
  obtain⟨j,rfl,hj,H⟩:=hrel
  obtain⟨hb,hlv⟩:=H.out
  have d0:=bl_cell hb c0
  have d1:=bl_cell hb c1
  have d2:=bl_cell hb c2
  have d3:=bl_cell hb c3
  have d4:=bl_cell hb c4
  have d5:=bl_cell hb c5
  have d6:=bl_cell hb c6
  have d7:=bl_cell hb c7
  have d8:=bl_cell hb c8
  have d9:=bl_cell hb c9
  have dR:=res_bl hR hb
  have dB:Below w.heap.size w wr:=hB.trans (hb.mono hB.size)
  obtain⟨hent,hcl2,hlen,hnc,hTr,hcc,hdd⟩:=HX.out
  by_cases hjn:j<n
  ·have he:=hent j hjn
   have g1:=bl_cell dB (hcl2 j hjn).1
   have hld:=live_drop (k:=j) (by omega) hlv
   generalize (L.getD j (0,0)).1=E at g1 he hld
   have hw:IntKind.i64.wrap (T - E)=T - E:=IntWalk.i64_in _ (by omega)
   have hk0:(0:Int)≤(j:Int):=by omega
   have hk1:(j:Int)<(n:Int):=by omega
   have hj1:j+1≤n:=hjn
   have hms:n - (j+1)<n - j:=by omega
   have hnm:(n:Int)≤9223372036854775807:=by omega
   obtain⟨g,hg⟩:∃ g,decide (T - E<d)=g:=⟨_,rfl⟩
   have HLD:=Go.Lib.hid hld
   clear hld hlv H he hent hcl2 hlen hnc hTr hcc hdd
   go_wp2_with go_step3
   refine wp_region_held_drew (S:=fun w'=>P6 w' (w.heap.size) k l d b cc o (S4 w' (w.heap.size+1) at_ level held (some ⟨bb,off,none⟩) n c (w'.cell? ⟨bb,off+j*2,none⟩=some (.int .i64 E)∧ResB w' (w.heap.size+1+1)∧Below w.heap.size w w'))) (by kernel_rfl) ?_ (fun hHeld=>?_)
   ·exact⟨d0,d1,d2,d3,d4,d5,d6,d7,d8,d9,g1,dR,bl_drew dB⟩
   try simp only[Act.put,List.setIfInBounds_toArray,List.set_cons_zero,List.set_cons_succ]
   refine tkx 0 ?_
   refine tkx 1 ?_
   refine tkx 2 ?_
   refine tkx 3 ?_
   refine tkx 4 ?_
   refine tkx 5 ?_
   refine tkx 6 ?_
   refine tkx 7 ?_
   refine tkx 8 ?_
   refine tkx 9 ?_
   refine tkx 10 ?_
   refine wpAnyH_done (by kernel_rfl) ?_ _
   clear hHeld
   have hbd:Below W.heap.size W wr.drew:=hb.drew
   cases g
   ·go_wp2_with go_step3
    go_roundw
    case rel=>exact⟨j+1,by go_num,hj1,⟨hbd,HLD.out.2 (by simpa using hg)⟩⟩
    case measure=>(simp[intOf];first|exact hms|omega)
   ·have hdrop:=HLD.out.1 (by simpa using hg)
    go_wp2_with go_step3
    refine wp_region_held_drew (S:=fun w'=>P6 w' (w.heap.size) k l d b cc o (S4 w' (w.heap.size+1) at_ level held (some ⟨bb,off,none⟩) n c (ResB w' (w.heap.size+1+1)∧Below w.heap.size w w'))) (by kernel_rfl) ?_ (fun hHeld=>?_)
    ·first|exact⟨d0,d1,d2,d3,d4,d5,d6,d7,d8,d9,dR,bl_drew dB⟩|exact⟨d0,d1,d2,d3,d4,d5,d6,d7,d8,d9,dR,bl_drew (bl_drew dB)⟩
    try simp only[Act.put,List.setIfInBounds_toArray,List.set_cons_zero,List.set_cons_succ]
    have s0:(0:Int)≤(j:Int):=by omega
    have s1:(j:Int)≤(n:Int):=by omega
    have s2:(n:Int)≤(c:Int):=by have:=HX.out.2.2.2.1;omega
    have hcj:¬ c=j:=by omega
    have hnj:IntKind.i64.wrap ((n:Int) - (j:Int))=(n:Int) - (j:Int):=IntWalk.i64_in _ (by omega)
    refine tkx 0 ?_
    refine tkx 1 ?_
    refine tkx 2 ?_
    refine tkx 3 ?_
    refine tkx 4 ?_
    refine tkx 5 ?_
    refine tkx 6 ?_
    (refine callH (i:=7) rfl hHeld (fun W hW K hK=>?_);clear hHeld;(try dsimp only at hW);have hB9:=hW.2.2.2.2.2.2.2.2.2.2.2;have hr9:=res_lt hW.2.2.2.2.2.2.2.2.2.2.1;go_simp;refine(clone_any ⟨bb,off+j*2,none⟩ _ _ (L.drop j) _ (by rw[List.length_drop];have:=HX.out.2.2.1;omega) (by have:=HX.out.2.2.2.2.2.1;have:=HX.out.2.2.2.2.2.2;have:=HX.out.2.2.1;omega) (cells_drop (k:=j) HX.out.2.2.1 (fun i hi=>⟨bl_cell hB9 (HX.out.2.1 i hi).1,bl_cell hB9 (HX.out.2.1 i hi).2⟩))).mono ?_;rintro e w9 ⟨v9,rfl,hown,hb⟩;obtain⟨a9,c9,rfl,-⟩:=own_log hown;go_wp2_with fail;refine hK.out _ _ ?_ (fun hHeld=>?_);(focus((try dsimp only);(obtain⟨h0,h1,h2,h3,h4,h5,h6,h7,h8,h9,hr',hB'⟩:=hW;exact⟨bl_cell hb h0,bl_cell hb h1,bl_cell hb h2,bl_cell hb h3,bl_cell hb h4,bl_cell hb h5,bl_cell hb h6,bl_cell hb h7,bl_cell hb h8,bl_cell hb h9,res_bl hr' hb,bl_then hB' hb⟩)));clear hK K;try simp only[Act.put,List.setIfInBounds_toArray,List.set_cons_zero,List.set_cons_succ])
    refine tkx 8 ?_
    (refine callC (i:=9) rfl (fun K hK=>?_);obtain⟨h0,h1,h2,h3,h4,h5,h6,h7,h8,h9,hr',hB'⟩:=hHeld;obtain⟨f0,f1,f2,f3,u0,u1,u2,u3,i0,i1,i2,i3⟩:=res_all hr';go_simp;refine hK.out _ _ ?_ (fun hHeld=>?_);(focus((try dsimp only);(have e0:w.heap.size+1+1≠w.heap.size:=(by omega);have e1:w.heap.size+1+1≠w.heap.size+1:=(by omega);exact⟨far4 h0 e0,far4 h1 e0,far4 h2 e0,far4 h3 e0,far4 h4 e0,far4 h5 e0,far4 h6 e1,far4 h7 e1,far4 h8 e1,far4 h9 e1,res4 hr',bl4 hB' (by omega)⟩)));clear hK K;try simp only[Act.put,List.setIfInBounds_toArray,List.set_cons_zero,List.set_cons_succ])
    refine wpAnyH_done (by kernel_rfl) ?_ _
    obtain⟨-,-,-,-,-,-,-,-,-,-,-,hE⟩:=hHeld
    repeat' (first|go_skip|go_guarded|go_step|go_step3|go_upon)
    (try simp only[Exit.inBlock,Exit.then,Exit.noGoto_ret])
    refine bodyPost_ret (results_state rfl _ _ (by rfl) (set4r hr')) rfl ⟨⟨_,_,rfl,by dsimp only;rw[hdrop];exact own_mono (own_set4 hown hr9) hB9.size⟩,hE⟩
  ·have hje:n=j:=by omega
   subst hje
   have hdrop:live d T L=L.drop n:=by rw[hlv,List.drop_eq_nil_of_le (by omega)];rfl
   go_wp2_with go_step3
   refine wp_region_held_drew (S:=fun w'=>P6 w' (w.heap.size) k l d b cc o (S4 w' (w.heap.size+1) at_ level held (some ⟨bb,off,none⟩) n c (ResB w' (w.heap.size+1+1)∧Below w.heap.size w w'))) (by kernel_rfl) ?_ (fun hHeld=>?_)
   ·first|exact⟨d0,d1,d2,d3,d4,d5,d6,d7,d8,d9,dR,bl_drew dB⟩|exact⟨d0,d1,d2,d3,d4,d5,d6,d7,d8,d9,dR,bl_drew (bl_drew dB)⟩
   try simp only[Act.put,List.setIfInBounds_toArray,List.set_cons_zero,List.set_cons_succ]
   have s0:(0:Int)≤(n:Int):=by omega
   have s1:(n:Int)≤(n:Int):=by omega
   have s2:(n:Int)≤(c:Int):=by have:=HX.out.2.2.2.1;omega
   obtain⟨ad,had⟩:∃ ad,(if c=n then some (⟨bb,off,none⟩:Addr) else some ⟨bb,off+n*2,none⟩)=some ad:=by split <;> exact⟨_,rfl⟩
   refine tkx 0 ?_
   refine tkx 1 ?_
   refine tkx 2 ?_
   refine tkx 3 ?_
   refine tkx 4 ?_
   refine tkx 5 ?_
   refine tkx 6 ?_
   (refine callH (i:=7) rfl hHeld (fun W hW K hK=>?_);clear hHeld;(try dsimp only at hW);have hB9:=hW.2.2.2.2.2.2.2.2.2.2.2;have hr9:=res_lt hW.2.2.2.2.2.2.2.2.2.2.1;go_simp;refine(clone_any ad _ _ (L.drop n) _ (by rw[List.length_drop];have:=HX.out.2.2.1;omega) (by have:=HX.out.2.2.2.2.2.1;have:=HX.out.2.2.2.2.2.2;have:=HX.out.2.2.1;omega) (fun j u hj=>by rw[List.drop_eq_nil_of_le (by have:=HX.out.2.2.1;omega)] at hj;simp[cellsL] at hj)).mono ?_;rintro e w9 ⟨v9,rfl,hown,hb⟩;obtain⟨a9,c9,rfl,-⟩:=own_log hown;go_wp2_with fail;refine hK.out _ _ ?_ (fun hHeld=>?_);(focus((try dsimp only);(obtain⟨h0,h1,h2,h3,h4,h5,h6,h7,h8,h9,hr',hB'⟩:=hW;exact⟨bl_cell hb h0,bl_cell hb h1,bl_cell hb h2,bl_cell hb h3,bl_cell hb h4,bl_cell hb h5,bl_cell hb h6,bl_cell hb h7,bl_cell hb h8,bl_cell hb h9,res_bl hr' hb,bl_then hB' hb⟩)));clear hK K;try simp only[Act.put,List.setIfInBounds_toArray,List.set_cons_zero,List.set_cons_succ])
   refine tkx 8 ?_
   (refine callC (i:=9) rfl (fun K hK=>?_);obtain⟨h0,h1,h2,h3,h4,h5,h6,h7,h8,h9,hr',hB'⟩:=hHeld;obtain⟨f0,f1,f2,f3,u0,u1,u2,u3,i0,i1,i2,i3⟩:=res_all hr';go_simp;refine hK.out _ _ ?_ (fun hHeld=>?_);(focus((try dsimp only);(have e0:w.heap.size+1+1≠w.heap.size:=(by omega);have e1:w.heap.size+1+1≠w.heap.size+1:=(by omega);exact⟨far4 h0 e0,far4 h1 e0,far4 h2 e0,far4 h3 e0,far4 h4 e0,far4 h5 e0,far4 h6 e1,far4 h7 e1,far4 h8 e1,far4 h9 e1,res4 hr',bl4 hB' (by omega)⟩)));clear hK K;try simp only[Act.put,List.setIfInBounds_toArray,List.set_cons_zero,List.set_cons_succ])
   refine wpAnyH_done (by kernel_rfl) ?_ _
   obtain⟨-,-,-,-,-,-,-,-,-,-,-,hE⟩:=hHeld
   repeat' (first|go_skip|go_guarded|go_step|go_step3|go_upon)
   (try simp only[Exit.inBlock,Exit.then,Exit.noGoto_ret])
   refine bodyPost_ret (results_state rfl _ _ (by rfl) (set4r hr')) rfl ⟨⟨_,_,rfl,by dsimp only;rw[hdrop];exact own_mono (own_set4 hown hr9) hB9.size⟩,hE⟩
theorem own_far {w:World} {base:Nat} {v:Value} {n:Nat} {L:List (Int × Int)} (h:OwnLog w base v n L) (a:Addr) (u:Value) (hne:∀ g,v.ownBlock=some g→g≠a.block):OwnLog (w.setCell a u) base v n L:=by
 obtain⟨hl,h⟩:=h
 refine⟨hl,?_⟩
 rcases h with h|⟨g,cap,cur,rfl,h2,h3,h4⟩
 ·exact .inl h
 ·refine .inr ⟨g,cap,cur,rfl,h2,?_,h4⟩
  rw[Below.heap_setCell _ _ _ _ (hne g rfl)]
  exact h3
theorem grown_cell {w w':World} {row:Option Nat} {b o:Nat} {u:Value} (hg:w.grownBy w' row) (hc:w.cell? ⟨b,o,none⟩=some u) (hne:some b≠row):w'.cell? ⟨b,o,none⟩=some u:=by
 have hb:=World.block_lt_of_cell? w _ hc
 rw[← hc]
 simp only[World.cell?,hg.block b hb hne]
theorem cellsL_append (A B:List (Int × Int)):cellsL (A ++ B)=cellsL A ++ cellsL B:=by
 induction A with
 | nil=>rfl
 | cons e l ih=>simp[cellsL,ih]
theorem grown_res {w w':World} {row:Option Nat} {b:Nat} (hg:w.grownBy w' row) (hr:ResB w b) (hne:some b≠row):ResB w' b:=fun i hi=>by
 have hb:=res_lt hr
 have h:=hr i hi
 simp only[World.cell?,World.frozen?,hg.block b hb hne] at h ⊢
 exact h
theorem wadv_none (p:Pol) (s:St) (c:Nat) (now:Int) (w:World) (h:rightL p s) (hlog:LogAt w none 0 c s.log):Calls Tryz.prog 106 #[p.v,s.v none 0 c,.int .i64 now] w fun e w'=>StOwn (advL p s now) w.heap.size e w'∧Below w.heap.size w w':=by
 have hrt:=fun W hW=>wright_any p s none 0 c W hW
 unfold advL
 rw[if_pos h]
 rw[decide_eq_true h] at hrt
 have HLOG:=Go.Lib.hid hlog
 have hcl:=clamp_any now
 have hnil:s.log=[]:=List.length_eq_zero_iff.1 hlog.1
 have hc:c≤9223372036854775807:=hlog.2.2.1
 clear h hlog
 obtain⟨k,l,d,b,cc,o⟩:=p
 obtain⟨at_,level,held,L⟩:=s
 unfold St.v Pol.v at *
 dsimp only at *
 subst hnil
 generalize clampT now=C at *
 have hmx:(if at_<C then C else at_)=up at_ C:=rfl
 generalize up at_ C=T at *
 have HRT:=Go.Lib.hid hrt
 have HCL:=Go.Lib.hid hcl
 clear hrt hcl
 go_enter Tryz.func106,Tryz.ntmps106
 go_wp2_with go_step3
 refine(HRT.out _ (log_bl HLOG.out k3)).mono ?_
 rintro e w1 ⟨rfl,hb⟩
 have hB:Below w.heap.size w w1:=bl_then k3 hb
 obtain⟨c0,c1,c2,c3,c4,c5⟩:=b6 (w.heap.size) k l d b cc o hb
 have c6:=bl_cell (v:=.int .i64 at_) hb (show World.cell? _ ⟨w.heap.size+1,0,none⟩=_ by go_simp)
 have c7:=bl_cell (v:=.int .i64 level) hb (show World.cell? _ ⟨w.heap.size+1,1,none⟩=_ by go_simp)
 have c8:=bl_cell (v:=.int .i64 held) hb (show World.cell? _ ⟨w.heap.size+1,2,none⟩=_ by go_simp)
 have c9:=bl_cell (v:=.slice none 0 c) hb (show World.cell? _ ⟨w.heap.size+1,3,none⟩=_ by go_simp)
 have hR:ResB w1 (w.heap.size+1+1):=res_bl (res_new _ _ _ _ _ _ (by simp)) hb
 clear hb HRT HLOG
 go_wp2_with go_step3
 refine wp_region_held_drew (S:=fun w'=>P6 w' (w.heap.size) k l d b cc o (S4 w' (w.heap.size+1) at_ level held none 0 c (ResB w' (w.heap.size+1+1)∧Below w.heap.size w w'))) (by kernel_rfl) ?_ (fun hHeld=>?_)
 ·exact⟨c0,c1,c2,c3,c4,c5,c6,c7,c8,c9,hR,bl_drew hB⟩
 try simp only[Act.put,List.setIfInBounds_toArray,List.set_cons_zero,List.set_cons_succ]
 all_goals refine tkx 0 ?_
 all_goals refine tkx 1 ?_
 all_goals refine tkx 2 ?_
 all_goals((refine callH (i:=3) rfl hHeld (fun W hW K hK=>?_);clear hHeld;(try dsimp only at hW);go_simp;refine(HCL.out _).mono ?_;rintro e w1 ⟨rfl,rfl⟩;go_wp2_with fail;refine hK.out _ _ ?_ (fun hHeld=>?_);(focus((try dsimp only);exact hW));clear hK K;try simp only[Act.put,List.setIfInBounds_toArray,List.set_cons_zero,List.set_cons_succ]))
 all_goals refine tkx 4 ?_
 all_goals refine tkx 5 ?_
 all_goals(refine wpAnyH_done (by kernel_rfl) ?_ _)
 clear hB hR c0 c1 c2 c3 c4 c5 c6 c7 c8 c9
 refine then_abs (F:=fun w'=>P6 w' (w.heap.size) k l d b cc o (S4 w' (w.heap.size+1) at_ level held none 0 c (ResB w' (w.heap.size+1+1)∧Below w.heap.size w w'))) hHeld ?_
 clear hHeld
 rintro W ⟨c0,c1,c2,c3,c4,c5,c6,c7,c8,c9,hR,hB⟩
 go_wp2_with go_step3
 refine wp_loop_rounds 1 ?_
 refine Eq.mpr (rounds_succ (n:=0)) ?_
 repeat' (first|go_skip|go_guarded|go_step|go_step3|go_upon)
 refine wp_region_held_drew (S:=fun w'=>P6 w' (w.heap.size) k l d b cc o (S4 w' (w.heap.size+1) at_ level held none 0 c (ResB w' (w.heap.size+1+1)∧Below w.heap.size w w'))) (by kernel_rfl) ?_ (fun hHeld=>?_)
 ·exact⟨c0,c1,c2,c3,c4,c5,c6,c7,c8,c9,hR,bl_drew hB⟩
 try simp only[Act.put,List.setIfInBounds_toArray,List.set_cons_zero,List.set_cons_succ]
 refine tkx 0 ?_
 refine tkx 1 ?_
 refine tkx 2 ?_
 refine tkx 3 ?_
 refine tkx 4 ?_
 refine tkx 5 ?_
 refine tkx 6 ?_
 (refine callH (i:=7) rfl hHeld (fun W hW K hK=>?_);clear hHeld;(try dsimp only at hW);have hB9:=hW.2.2.2.2.2.2.2.2.2.2.2;have hr9:=res_lt hW.2.2.2.2.2.2.2.2.2.2.1;go_simp;refine(clone_nil _ _ _).mono ?_;rintro e w9 ⟨rfl,rfl⟩;go_wp2_with fail;refine hK.out _ _ ?_ (fun hHeld=>?_);(focus((try dsimp only);exact hW));clear hK K;try simp only[Act.put,List.setIfInBounds_toArray,List.set_cons_zero,List.set_cons_succ])
 refine tkx 8 ?_
 (refine callC (i:=9) rfl (fun K hK=>?_);obtain⟨h0,h1,h2,h3,h4,h5,h6,h7,h8,h9,hr',hB'⟩:=hHeld;obtain⟨f0,f1,f2,f3,u0,u1,u2,u3,i0,i1,i2,i3⟩:=res_all hr';go_simp;refine hK.out _ _ ?_ (fun hHeld=>?_);(focus((try dsimp only);(have e0:w.heap.size+1+1≠w.heap.size:=(by omega);have e1:w.heap.size+1+1≠w.heap.size+1:=(by omega);exact⟨far4 h0 e0,far4 h1 e0,far4 h2 e0,far4 h3 e0,far4 h4 e0,far4 h5 e0,far4 h6 e1,far4 h7 e1,far4 h8 e1,far4 h9 e1,res4 hr',bl4 hB' (by omega)⟩)));clear hK K;try simp only[Act.put,List.setIfInBounds_toArray,List.set_cons_zero,List.set_cons_succ])
 refine wpAnyH_done (by kernel_rfl) ?_ _
 obtain⟨-,-,-,-,-,-,-,-,-,-,-,hE⟩:=hHeld
 repeat' (first|go_skip|go_guarded|go_step|go_step3|go_upon)
 (try simp only[Exit.inBlock,Exit.then,Exit.noGoto_ret])
 refine bodyPost_ret (results_state rfl _ _ (by rfl) (set4r hr')) rfl ⟨⟨_,0,rfl,⟨by simp[cellsL,live],.inl ⟨rfl,rfl⟩⟩⟩,hE⟩

theorem wadv_zero (p:Pol) (s:St) (ad:Addr) (c:Nat) (now:Int) (w:World) (h:rightL p s) (hlog:LogAt w (some ad) 0 c s.log):Calls Tryz.prog 106 #[p.v,s.v (some ad) 0 c,.int .i64 now] w fun e w'=>StOwn (advL p s now) w.heap.size e w'∧Below w.heap.size w w':=by
 have hrt:=fun W hW=>wright_any p s (some ad) 0 c W hW
 unfold advL
 rw[if_pos h]
 rw[decide_eq_true h] at hrt
 have HLOG:=Go.Lib.hid hlog
 have hcl:=clamp_any now
 have hnil:s.log=[]:=List.length_eq_zero_iff.1 hlog.1
 have hc:c≤9223372036854775807:=hlog.2.2.1
 clear h hlog
 obtain⟨k,l,d,b,cc,o⟩:=p
 obtain⟨at_,level,held,L⟩:=s
 unfold St.v Pol.v at *
 dsimp only at *
 subst hnil
 generalize clampT now=C at *
 have hmx:(if at_<C then C else at_)=up at_ C:=rfl
 generalize up at_ C=T at *
 have HRT:=Go.Lib.hid hrt
 have HCL:=Go.Lib.hid hcl
 clear hrt hcl
 go_enter Tryz.func106,Tryz.ntmps106
 go_wp2_with go_step3
 refine(HRT.out _ (log_bl HLOG.out k3)).mono ?_
 rintro e w1 ⟨rfl,hb⟩
 have hB:Below w.heap.size w w1:=bl_then k3 hb
 obtain⟨c0,c1,c2,c3,c4,c5⟩:=b6 (w.heap.size) k l d b cc o hb
 have c6:=bl_cell (v:=.int .i64 at_) hb (show World.cell? _ ⟨w.heap.size+1,0,none⟩=_ by go_simp)
 have c7:=bl_cell (v:=.int .i64 level) hb (show World.cell? _ ⟨w.heap.size+1,1,none⟩=_ by go_simp)
 have c8:=bl_cell (v:=.int .i64 held) hb (show World.cell? _ ⟨w.heap.size+1,2,none⟩=_ by go_simp)
 have c9:=bl_cell (v:=.slice (some ad) 0 c) hb (show World.cell? _ ⟨w.heap.size+1,3,none⟩=_ by go_simp)
 have hR:ResB w1 (w.heap.size+1+1):=res_bl (res_new _ _ _ _ _ _ (by simp)) hb
 clear hb HRT HLOG
 go_wp2_with go_step3
 refine wp_region_held_drew (S:=fun w'=>P6 w' (w.heap.size) k l d b cc o (S4 w' (w.heap.size+1) at_ level held (some ad) 0 c (ResB w' (w.heap.size+1+1)∧Below w.heap.size w w'))) (by kernel_rfl) ?_ (fun hHeld=>?_)
 ·exact⟨c0,c1,c2,c3,c4,c5,c6,c7,c8,c9,hR,bl_drew hB⟩
 try simp only[Act.put,List.setIfInBounds_toArray,List.set_cons_zero,List.set_cons_succ]
 all_goals refine tkx 0 ?_
 all_goals refine tkx 1 ?_
 all_goals refine tkx 2 ?_
 all_goals((refine callH (i:=3) rfl hHeld (fun W hW K hK=>?_);clear hHeld;(try dsimp only at hW);go_simp;refine(HCL.out _).mono ?_;rintro e w1 ⟨rfl,rfl⟩;go_wp2_with fail;refine hK.out _ _ ?_ (fun hHeld=>?_);(focus((try dsimp only);exact hW));clear hK K;try simp only[Act.put,List.setIfInBounds_toArray,List.set_cons_zero,List.set_cons_succ]))
 all_goals refine tkx 4 ?_
 all_goals refine tkx 5 ?_
 all_goals(refine wpAnyH_done (by kernel_rfl) ?_ _)
 clear hB hR c0 c1 c2 c3 c4 c5 c6 c7 c8 c9
 refine then_abs (F:=fun w'=>P6 w' (w.heap.size) k l d b cc o (S4 w' (w.heap.size+1) at_ level held (some ad) 0 c (ResB w' (w.heap.size+1+1)∧Below w.heap.size w w'))) hHeld ?_
 clear hHeld
 rintro W ⟨c0,c1,c2,c3,c4,c5,c6,c7,c8,c9,hR,hB⟩
 go_wp2_with go_step3
 refine wp_loop_rounds 1 ?_
 refine Eq.mpr (rounds_succ (n:=0)) ?_
 repeat' (first|go_skip|go_guarded|go_step|go_step3|go_upon)
 refine wp_region_held_drew (S:=fun w'=>P6 w' (w.heap.size) k l d b cc o (S4 w' (w.heap.size+1) at_ level held (some ad) 0 c (ResB w' (w.heap.size+1+1)∧Below w.heap.size w w'))) (by kernel_rfl) ?_ (fun hHeld=>?_)
 ·exact⟨c0,c1,c2,c3,c4,c5,c6,c7,c8,c9,hR,bl_drew hB⟩
 try simp only[Act.put,List.setIfInBounds_toArray,List.set_cons_zero,List.set_cons_succ]
 obtain⟨ad2,had⟩:∃ ad2,(if c=0 then some ad else some ad)=some ad2:=by split <;> exact⟨_,rfl⟩
 refine tkx 0 ?_
 refine tkx 1 ?_
 refine tkx 2 ?_
 refine tkx 3 ?_
 refine tkx 4 ?_
 refine tkx 5 ?_
 refine tkx 6 ?_
 (refine callH (i:=7) rfl hHeld (fun W hW K hK=>?_);clear hHeld;(try dsimp only at hW);have hB9:=hW.2.2.2.2.2.2.2.2.2.2.2;have hr9:=res_lt hW.2.2.2.2.2.2.2.2.2.2.1;go_simp;refine(clone_any _ 0 _ [] _ rfl (by omega) (fun j u hj=>by simp[cellsL] at hj)).mono ?_;rintro e w9 ⟨v9,rfl,hown,hb⟩;obtain⟨a9,c9,rfl,-⟩:=own_log hown;go_wp2_with fail;refine hK.out _ _ ?_ (fun hHeld=>?_);(focus((try dsimp only);(obtain⟨h0,h1,h2,h3,h4,h5,h6,h7,h8,h9,hr',hB'⟩:=hW;exact⟨bl_cell hb h0,bl_cell hb h1,bl_cell hb h2,bl_cell hb h3,bl_cell hb h4,bl_cell hb h5,bl_cell hb h6,bl_cell hb h7,bl_cell hb h8,bl_cell hb h9,res_bl hr' hb,bl_then hB' hb⟩)));clear hK K;try simp only[Act.put,List.setIfInBounds_toArray,List.set_cons_zero,List.set_cons_succ])
 refine tkx 8 ?_
 (refine callC (i:=9) rfl (fun K hK=>?_);obtain⟨h0,h1,h2,h3,h4,h5,h6,h7,h8,h9,hr',hB'⟩:=hHeld;obtain⟨f0,f1,f2,f3,u0,u1,u2,u3,i0,i1,i2,i3⟩:=res_all hr';go_simp;refine hK.out _ _ ?_ (fun hHeld=>?_);(focus((try dsimp only);(have e0:w.heap.size+1+1≠w.heap.size:=(by omega);have e1:w.heap.size+1+1≠w.heap.size+1:=(by omega);exact⟨far4 h0 e0,far4 h1 e0,far4 h2 e0,far4 h3 e0,far4 h4 e0,far4 h5 e0,far4 h6 e1,far4 h7 e1,far4 h8 e1,far4 h9 e1,res4 hr',bl4 hB' (by omega)⟩)));clear hK K;try simp only[Act.put,List.setIfInBounds_toArray,List.set_cons_zero,List.set_cons_succ])
 refine wpAnyH_done (by kernel_rfl) ?_ _
 obtain⟨-,-,-,-,-,-,-,-,-,-,-,hE⟩:=hHeld
 repeat' (first|go_skip|go_guarded|go_step|go_step3|go_upon)
 (try simp only[Exit.inBlock,Exit.then,Exit.noGoto_ret])
 refine bodyPost_ret (results_state rfl _ _ (by rfl) (set4r hr')) rfl ⟨⟨_,0,rfl,by dsimp only;exact own_mono (own_set4 hown hr9) hB9.size⟩,hE⟩

theorem wadv_no (p:Pol) (s:St) (a:Option Addr) (n c:Nat) (now:Int) (w:World) (h:¬ rightL p s) (hlog:LogAt w a n c s.log):Calls Tryz.prog 106 #[p.v,s.v a n c,.int .i64 now] w fun e w'=>StOwn (advL p s now) w.heap.size e w'∧Below w.heap.size w w':=by
 have hrt:=fun W hW=>wright_any p s a n c W hW
 unfold advL
 rw[if_neg h]
 rw[decide_eq_false h] at hrt
 have HLOG:=Go.Lib.hid hlog
 clear h hlog
 unfold St.none St.v Pol.v at *
 have HRT:=Go.Lib.hid hrt
 clear hrt
 go_enter Tryz.func106,Tryz.ntmps106
 go_wp2_with go_step3
 refine(HRT.out _ (log_bl HLOG.out k3)).mono ?_
 rintro e w1 ⟨rfl,hb⟩
 have hB:Below w.heap.size w w1:=bl_then k3 hb
 have hR:ResB w1 (w.heap.size+1+1):=res_bl (res_new _ _ _ _ _ _ (by simp)) hb
 obtain⟨f0,f1,f2,f3,u0,u1,u2,u3,i0,i1,i2,i3⟩:=res_all hR
 clear hb HRT HLOG
 go_wp2_with go_step3
 (try simp only[Exit.inBlock,Exit.then,Exit.noGoto_ret])
 refine bodyPost_ret (results_state rfl _ _ (by rfl) (set4r hR)) rfl ⟨⟨_,0,rfl,⟨by simp[cellsL],.inl ⟨rfl,rfl⟩⟩⟩,bl4 hB (by omega)⟩

theorem wadv_any (p:Pol) (s:St) (a:Option Addr) (n c:Nat) (now:Int) (w:World) (hlog:LogAt w a n c s.log):Calls Tryz.prog 106 #[p.v,s.v a n c,.int .i64 now] w fun e w'=>StOwn (advL p s now) w.heap.size e w'∧Below w.heap.size w w':=by
 by_cases h:rightL p s
 ·by_cases hn:0<n
  ·obtain⟨b,off,rfl,-⟩:=hlog.2.2.2 0 hn
   exact wadv_some p s b off n c now w h hlog hn
  ·have hn0:n=0:=by omega
   subst hn0
   cases a with
   | none=>exact wadv_none p s c now w h hlog
   | some ad=>exact wadv_zero p s ad c now w h hlog
 ·exact wadv_no p s a n c now w h hlog
theorem clone_all (a:Option Addr) (n c:Nat) (L:List (Int × Int)) (w:World) (h:LogAt w a n c L) (hn:n≤1000) :
  Calls Tryz.prog 142 #[.slice a n c] w fun e w'=>∃ v',e=.returned v'∧OwnLog w' w.heap.size v' n L∧Below w.heap.size w w':=by
 cases a with
 | none =>
  have hn0:n=0:=by
   cases n with
   | zero=>rfl
   | succ m=>obtain⟨b,off,e,-⟩:=h.2.2.2 0 (by omega);cases e
  subst hn0
  have hL:L=[]:=List.length_eq_zero_iff.1 h.1
  subst hL
  refine(clone_nil 0 c w).mono ?_
  rintro e w' ⟨rfl,rfl⟩
  exact⟨_,rfl,⟨rfl,.inl ⟨rfl,rfl⟩⟩,Below.refl _ _⟩
 | some ad =>
  refine clone_any ad n c L w h.1 hn ?_
  by_cases hn0:n=0
  ·subst hn0
   have hL:L=[]:=List.length_eq_zero_iff.1 h.1
   subst hL
   intro j u hj
   simp[cellsL] at hj
  ·obtain⟨b,off,e,-⟩:=h.2.2.2 0 (by omega)
   injection e with e
   subst e
   refine cellsL_at fun i hi=>?_
   obtain⟨b',off',e',h1,h2⟩:=h.2.2.2 i (by rw[← h.1];exact hi)
   injection e' with e'
   injection e' with e1 e2
   subst e1 e2
   exact⟨h1,h2⟩
theorem live_sub (period t:Int):∀ (L:List (Int × Int)),(∀ e ∈ live period t L,e ∈ L)∧(live period t L).length≤L.length
 | []=>⟨fun e h=>h,Nat.le_refl _⟩
 | x :: l=>by
  have ih:=live_sub period t l
  unfold live
  split
  ·exact⟨fun e h=>h,Nat.le_refl _⟩
  ·exact⟨fun e h=>List.mem_cons_of_mem _ (ih.1 e h),Nat.le_succ_of_le ih.2⟩
theorem live_sum (period t:Int):∀ (L:List (Int × Int)),(∀ e ∈ L,0≤e.2)→sumL (live period t L)≤sumL L
 | [],_=>Int.le_refl _
 | x :: l,h=>by
  have ih:=live_sum period t l (fun e he=>h e (List.mem_cons_of_mem _ he))
  have hx:=h x List.mem_cons_self
  unfold live
  simp only[sumL]
  split
  ·simp[sumL]
  ·omega
theorem set_other {w:World} {a p:Addr} {u:Value} (h:w.cell? p=some u) (v:Value) (hne:a≠p):(w.setCell a v).cell? p=some u:=by rw[World.cell?_setCell_other w a p v hne];exact h
theorem own_bl {w w':World} {base:Nat} {v:Value} {n:Nat} {L:List (Int × Int)} (h:OwnLog w base v n L) (hb:Below w.heap.size w w'):OwnLog w' base v n L:=by
 obtain⟨hl,h⟩:=h
 refine⟨hl,?_⟩
 rcases h with h|⟨g,cap,cur,rfl,h2,h3,h4⟩
 ·exact .inl h
 ·refine .inr ⟨g,cap,cur,rfl,h2,?_,h4⟩
  rw[hb.block g (Array.getElem?_eq_some_iff.1 h3).1]
  exact h3




theorem bright_walk (k l d b cc:Int) (o:Bool) (at_ level held:Int) (a:Option Addr) (n c:Nat) (w:World) (r:Bool)
  (hr:r=true↔(okB ⟨k,l,d,b,cc,o⟩∧0≤at_∧at_≤9007199254740992∧0≤held∧held≤b∧0≤level∧level≤(b - held)*d∧n=0)) :
  Calls Tryz.prog 121 #[.agg #[.int .i64 k,.int .i64 l,.int .i64 d,.int .i64 b,.int .i64 cc,.bool o],.agg #[.int .i64 at_,.int .i64 level,.int .i64 held,.slice a n c]] w fun e w'=>e=.returned (.bool r)∧Below w.heap.size w w':=by
 have HR:=Go.Lib.hid hr
 clear hr
 have hck:=bcheck_any ⟨k,l,d,b,cc,o⟩
 unfold Pol.v at hck
 dsimp only at hck
 have hC:(chkB ⟨k,l,d,b,cc,o⟩=0∧okB ⟨k,l,d,b,cc,o⟩)∨(chkB ⟨k,l,d,b,cc,o⟩=2∧¬ okB ⟨k,l,d,b,cc,o⟩):=by
  by_cases h:okB ⟨k,l,d,b,cc,o⟩
  ·exact .inl ⟨(chk_ok h).symm,h⟩
  ·exact .inr ⟨(chk_no h).symm,h⟩
 generalize chkB ⟨k,l,d,b,cc,o⟩=C at *
 have HC:=Go.Lib.hid hC
 have HCK:=Go.Lib.hid hck
 have HW:=Go.Lib.hid (show okB ⟨k,l,d,b,cc,o⟩→0≤held→held≤b→IntKind.i64.wrap (b - held)=b - held∧IntKind.i64.wrap ((b - held)*d)=(b - held)*d from fun hok h0 h1=>by
  obtain⟨q0,q1,q2,q3,q4,q5,q6,q7⟩:=hok
  dsimp only at *
  have h2:(b - held)*d≤1152921504606846976:=prod_le (by omega) (by omega) (by omega)
  have h3:0≤(b - held)*d:=Int.mul_nonneg (by omega) (by omega)
  exact⟨IntWalk.i64_in _ (by omega),IntWalk.i64_in _ (by omega)⟩)
 have hcl:=clamp_any at_
 have hT:(clampT at_ == at_)=true↔0≤at_∧at_≤9007199254740992:=by
  have:=clampT_range at_
  rw[beq_iff_eq]
  constructor
  ·intro h;omega
  ·intro h;exact clampT_id h.1 h.2
 generalize clampT at_=T at *
 obtain⟨g1,hg1⟩:∃ g,(T == at_)=g:=⟨_,rfl⟩
 have hg1':decide (T=at_)=g1:=hg1
 obtain⟨g2,hg2⟩:∃ g,decide (0≤held)=g:=⟨_,rfl⟩
 obtain⟨g3,hg3⟩:∃ g,decide (held≤b)=g:=⟨_,rfl⟩
 obtain⟨g4,hg4⟩:∃ g,decide (0≤level)=g:=⟨_,rfl⟩
 obtain⟨g5,hg5⟩:∃ g,decide (level≤(b - held)*d)=g:=⟨_,rfl⟩
 obtain⟨g6,hg6⟩:∃ g,((n:Int) == 0)=g:=⟨_,rfl⟩
 rw[hg1] at hT
 have HT:=Go.Lib.hid hT
 have HCL:=Go.Lib.hid hcl
 clear hck hC hcl hT
 go_enter Tryz.func121,Tryz.ntmps121
 go_wp2_with fail
 refine wp_abs (S0:=fun w'=>P6 w' (w.heap.size) k l d b cc o (S4 w' (w.heap.size+1) at_ level held a n c (Below w.heap.size w w'))) ⟨by go_simp,by go_simp,by go_simp,by go_simp,by go_simp,by go_simp,by go_simp,by go_simp,by go_simp,by go_simp,k2⟩ ?_
 rintro W ⟨c0,c1,c2,c3,c4,c5,c6,c7,c8,c9,hB⟩
 refine wp_region_held_drew (S:=fun w'=>P6 w' (w.heap.size) k l d b cc o (S4 w' (w.heap.size+1) at_ level held a n c (Below w.heap.size w w'))) (by kernel_rfl) ?_ (fun hHeld=>?_)
 ·exact⟨c0,c1,c2,c3,c4,c5,c6,c7,c8,c9,bl_drew hB⟩
 try simp only[Act.put,List.setIfInBounds_toArray,List.set_cons_zero,List.set_cons_succ]
 all_goals((refine tkv (i:=0) (v:=?_) rfl rfl ?_ (by assumption) ?_;rotate_left;(focus(intro w hSw;(try dsimp only at hSw);go_simp <;> with_reducible rfl));try simp only[Act.put,List.setIfInBounds_toArray,List.set_cons_zero,List.set_cons_succ]))
 all_goals((refine callH (i:=1) rfl (by assumption) (fun W hW K hK=>?_);clear hHeld;(try dsimp only at hW);go_simp;refine(HCK.out _).mono ?_;rintro e w1 ⟨rfl,hb⟩;go_wp2_with fail;refine hK.out _ _ ?_ (fun hHeld=>?_);(focus((try dsimp only);(obtain⟨h0,h1,h2,h3,h4,h5,h6,h7,h8,h9,hB'⟩:=hW;exact⟨bl_cell hb h0,bl_cell hb h1,bl_cell hb h2,bl_cell hb h3,bl_cell hb h4,bl_cell hb h5,bl_cell hb h6,bl_cell hb h7,bl_cell hb h8,bl_cell hb h9,bl_then hB' hb⟩)));clear hK K;try simp only[Act.put,List.setIfInBounds_toArray,List.set_cons_zero,List.set_cons_succ]))
 rcases HC.out with⟨rfl,hok⟩|⟨rfl,hok⟩
 all_goals((refine tkv (i:=2) (v:=?_) rfl rfl ?_ (by assumption) ?_;rotate_left;(focus(intro w hSw;(try dsimp only at hSw);go_simp <;> with_reducible rfl));try simp only[Act.put,List.setIfInBounds_toArray,List.set_cons_zero,List.set_cons_succ]))
 all_goals((refine tkv (i:=3) (v:=?_) rfl rfl ?_ (by assumption) ?_;rotate_left;(focus(intro w hSw;(try dsimp only at hSw);go_simp <;> with_reducible rfl));try simp only[Act.put,List.setIfInBounds_toArray,List.set_cons_zero,List.set_cons_succ]))
 all_goals(first|(refine tks (i:=4) rfl rfl (by assumption) ?_;try simp only[Act.put,List.setIfInBounds_toArray,List.set_cons_zero,List.set_cons_succ])|(refine tkv (i:=4) (v:=?_) rfl rfl ?_ (by assumption) ?_;rotate_left;(focus(intro w hSw;(try dsimp only at hSw);go_simp <;> with_reducible rfl));try simp only[Act.put,List.setIfInBounds_toArray,List.set_cons_zero,List.set_cons_succ]))
 all_goals(first|(refine tks (i:=5) rfl rfl (by assumption) ?_;try simp only[Act.put,List.setIfInBounds_toArray,List.set_cons_zero,List.set_cons_succ])|(refine tkv (i:=5) (v:=?_) rfl rfl ?_ (by assumption) ?_;rotate_left;(focus(intro w hSw;(try dsimp only at hSw);go_simp <;> with_reducible rfl));try simp only[Act.put,List.setIfInBounds_toArray,List.set_cons_zero,List.set_cons_succ]))
 all_goals(first|(refine tks (i:=7) rfl rfl (by assumption) ?_;try simp only[Act.put,List.setIfInBounds_toArray,List.set_cons_zero,List.set_cons_succ])|(refine tkv (i:=7) (v:=?_) rfl rfl ?_ (by assumption) ?_;rotate_left;(focus(intro w hSw;(try dsimp only at hSw);go_simp <;> with_reducible rfl));try simp only[Act.put,List.setIfInBounds_toArray,List.set_cons_zero,List.set_cons_succ]))
 all_goals(first|(refine tks (i:=8) rfl rfl (by assumption) ?_;try simp only[Act.put,List.setIfInBounds_toArray,List.set_cons_zero,List.set_cons_succ])|(refine tkv (i:=8) (v:=?_) rfl rfl ?_ (by assumption) ?_;rotate_left;(focus(intro w hSw;(try dsimp only at hSw);go_simp <;> with_reducible rfl));try simp only[Act.put,List.setIfInBounds_toArray,List.set_cons_zero,List.set_cons_succ]))
 all_goals(first|(refine tks (i:=6) rfl rfl (by assumption) ?_;try simp only[Act.put,List.setIfInBounds_toArray,List.set_cons_zero,List.set_cons_succ])|(refine callH (i:=6) rfl (by assumption) (fun W hW K hK=>?_);clear hHeld;(try dsimp only at hW);go_simp;refine(HCL.out _).mono ?_;rintro e w1 ⟨rfl,rfl⟩;go_wp2_with fail;refine hK.out _ _ ?_ (fun hHeld=>?_);(focus((try dsimp only);exact hW));clear hK K;try simp only[Act.put,List.setIfInBounds_toArray,List.set_cons_zero,List.set_cons_succ]))
 all_goals(first|(refine tks (i:=9) rfl rfl (by assumption) ?_;try simp only[Act.put,List.setIfInBounds_toArray,List.set_cons_zero,List.set_cons_succ])|(refine tkv (i:=9) (v:=?_) rfl rfl ?_ (by assumption) ?_;rotate_left;(focus(intro w hSw;(try dsimp only at hSw);go_simp <;> with_reducible rfl));try simp only[Act.put,List.setIfInBounds_toArray,List.set_cons_zero,List.set_cons_succ]))
 all_goals((refine tkv (i:=10) (v:=?_) rfl rfl ?_ (by assumption) ?_;rotate_left;(focus(intro w hSw;(try dsimp only at hSw);go_simp <;> with_reducible rfl));try simp only[Act.put,List.setIfInBounds_toArray,List.set_cons_zero,List.set_cons_succ]))
 all_goals(first|((fail_if_success (clear hg1 hg1' HT g1));cases g1)|skip)
 all_goals((refine tkv (i:=11) (v:=?_) rfl rfl ?_ (by assumption) ?_;rotate_left;(focus(intro w hSw;(try dsimp only at hSw);go_simp <;> with_reducible rfl));try simp only[Act.put,List.setIfInBounds_toArray,List.set_cons_zero,List.set_cons_succ]))
 all_goals(first|(refine tks (i:=12) rfl rfl (by assumption) ?_;try simp only[Act.put,List.setIfInBounds_toArray,List.set_cons_zero,List.set_cons_succ])|(refine tkv (i:=12) (v:=?_) rfl rfl ?_ (by assumption) ?_;rotate_left;(focus(intro w hSw;(try dsimp only at hSw);go_simp <;> with_reducible rfl));try simp only[Act.put,List.setIfInBounds_toArray,List.set_cons_zero,List.set_cons_succ]))
 all_goals(first|(refine tks (i:=13) rfl rfl (by assumption) ?_;try simp only[Act.put,List.setIfInBounds_toArray,List.set_cons_zero,List.set_cons_succ])|(refine tkv (i:=13) (v:=?_) rfl rfl ?_ (by assumption) ?_;rotate_left;(focus(intro w hSw;(try dsimp only at hSw);go_simp <;> with_reducible rfl));try simp only[Act.put,List.setIfInBounds_toArray,List.set_cons_zero,List.set_cons_succ]))
 all_goals(first|(refine tks (i:=14) rfl rfl (by assumption) ?_;try simp only[Act.put,List.setIfInBounds_toArray,List.set_cons_zero,List.set_cons_succ])|(refine tkv (i:=14) (v:=?_) rfl rfl ?_ (by assumption) ?_;rotate_left;(focus(intro w hSw;(try dsimp only at hSw);go_simp <;> with_reducible rfl));try simp only[Act.put,List.setIfInBounds_toArray,List.set_cons_zero,List.set_cons_succ]))
 all_goals((refine tkv (i:=15) (v:=?_) rfl rfl ?_ (by assumption) ?_;rotate_left;(focus(intro w hSw;(try dsimp only at hSw);go_simp <;> with_reducible rfl));try simp only[Act.put,List.setIfInBounds_toArray,List.set_cons_zero,List.set_cons_succ]))
 all_goals(first|((fail_if_success (clear hg2 g2));cases g2)|skip)
 all_goals((refine tkv (i:=16) (v:=?_) rfl rfl ?_ (by assumption) ?_;rotate_left;(focus(intro w hSw;(try dsimp only at hSw);go_simp <;> with_reducible rfl));try simp only[Act.put,List.setIfInBounds_toArray,List.set_cons_zero,List.set_cons_succ]))
 all_goals(first|(refine tks (i:=17) rfl rfl (by assumption) ?_;try simp only[Act.put,List.setIfInBounds_toArray,List.set_cons_zero,List.set_cons_succ])|(refine tkv (i:=17) (v:=?_) rfl rfl ?_ (by assumption) ?_;rotate_left;(focus(intro w hSw;(try dsimp only at hSw);go_simp <;> with_reducible rfl));try simp only[Act.put,List.setIfInBounds_toArray,List.set_cons_zero,List.set_cons_succ]))
 all_goals(first|(refine tks (i:=18) rfl rfl (by assumption) ?_;try simp only[Act.put,List.setIfInBounds_toArray,List.set_cons_zero,List.set_cons_succ])|(refine tkv (i:=18) (v:=?_) rfl rfl ?_ (by assumption) ?_;rotate_left;(focus(intro w hSw;(try dsimp only at hSw);go_simp <;> with_reducible rfl));try simp only[Act.put,List.setIfInBounds_toArray,List.set_cons_zero,List.set_cons_succ]))
 all_goals(first|(refine tks (i:=19) rfl rfl (by assumption) ?_;try simp only[Act.put,List.setIfInBounds_toArray,List.set_cons_zero,List.set_cons_succ])|(refine tkv (i:=19) (v:=?_) rfl rfl ?_ (by assumption) ?_;rotate_left;(focus(intro w hSw;(try dsimp only at hSw);go_simp <;> with_reducible rfl));try simp only[Act.put,List.setIfInBounds_toArray,List.set_cons_zero,List.set_cons_succ]))
 all_goals(first|(refine tks (i:=20) rfl rfl (by assumption) ?_;try simp only[Act.put,List.setIfInBounds_toArray,List.set_cons_zero,List.set_cons_succ])|(refine tkv (i:=20) (v:=?_) rfl rfl ?_ (by assumption) ?_;rotate_left;(focus(intro w hSw;(try dsimp only at hSw);go_simp <;> with_reducible rfl));try simp only[Act.put,List.setIfInBounds_toArray,List.set_cons_zero,List.set_cons_succ]))
 all_goals(first|(refine tks (i:=21) rfl rfl (by assumption) ?_;try simp only[Act.put,List.setIfInBounds_toArray,List.set_cons_zero,List.set_cons_succ])|(refine tkv (i:=21) (v:=?_) rfl rfl ?_ (by assumption) ?_;rotate_left;(focus(intro w hSw;(try dsimp only at hSw);go_simp <;> with_reducible rfl));try simp only[Act.put,List.setIfInBounds_toArray,List.set_cons_zero,List.set_cons_succ]))
 all_goals((refine tkv (i:=22) (v:=?_) rfl rfl ?_ (by assumption) ?_;rotate_left;(focus(intro w hSw;(try dsimp only at hSw);go_simp <;> with_reducible rfl));try simp only[Act.put,List.setIfInBounds_toArray,List.set_cons_zero,List.set_cons_succ]))
 all_goals(first|((fail_if_success (clear hg3 g3));cases g3)|skip)
 all_goals((refine tkv (i:=23) (v:=?_) rfl rfl ?_ (by assumption) ?_;rotate_left;(focus(intro w hSw;(try dsimp only at hSw);go_simp <;> with_reducible rfl));try simp only[Act.put,List.setIfInBounds_toArray,List.set_cons_zero,List.set_cons_succ]))
 all_goals(first|(refine tks (i:=24) rfl rfl (by assumption) ?_;try simp only[Act.put,List.setIfInBounds_toArray,List.set_cons_zero,List.set_cons_succ])|(refine tkv (i:=24) (v:=?_) rfl rfl ?_ (by assumption) ?_;rotate_left;(focus(intro w hSw;(try dsimp only at hSw);go_simp <;> with_reducible rfl));try simp only[Act.put,List.setIfInBounds_toArray,List.set_cons_zero,List.set_cons_succ]))
 all_goals(first|(refine tks (i:=25) rfl rfl (by assumption) ?_;try simp only[Act.put,List.setIfInBounds_toArray,List.set_cons_zero,List.set_cons_succ])|(refine tkv (i:=25) (v:=?_) rfl rfl ?_ (by assumption) ?_;rotate_left;(focus(intro w hSw;(try dsimp only at hSw);go_simp <;> with_reducible rfl));try simp only[Act.put,List.setIfInBounds_toArray,List.set_cons_zero,List.set_cons_succ]))
 all_goals(first|(refine tks (i:=26) rfl rfl (by assumption) ?_;try simp only[Act.put,List.setIfInBounds_toArray,List.set_cons_zero,List.set_cons_succ])|(refine tkv (i:=26) (v:=?_) rfl rfl ?_ (by assumption) ?_;rotate_left;(focus(intro w hSw;(try dsimp only at hSw);go_simp <;> with_reducible rfl));try simp only[Act.put,List.setIfInBounds_toArray,List.set_cons_zero,List.set_cons_succ]))
 all_goals((refine tkv (i:=27) (v:=?_) rfl rfl ?_ (by assumption) ?_;rotate_left;(focus(intro w hSw;(try dsimp only at hSw);go_simp <;> with_reducible rfl));try simp only[Act.put,List.setIfInBounds_toArray,List.set_cons_zero,List.set_cons_succ]))
 all_goals(first|((fail_if_success (clear hg4 g4));cases g4)|skip)
 all_goals((refine tkv (i:=28) (v:=?_) rfl rfl ?_ (by assumption) ?_;rotate_left;(focus(intro w hSw;(try dsimp only at hSw);go_simp <;> with_reducible rfl));try simp only[Act.put,List.setIfInBounds_toArray,List.set_cons_zero,List.set_cons_succ]))
 all_goals(try(have hw:=HW.out hok (by simpa using hg2) (by simpa using hg3);obtain⟨hw1,hw2⟩:=hw))
 all_goals(first|(refine tks (i:=29) rfl rfl (by assumption) ?_;try simp only[Act.put,List.setIfInBounds_toArray,List.set_cons_zero,List.set_cons_succ])|(refine tkv (i:=29) (v:=?_) rfl rfl ?_ (by assumption) ?_;rotate_left;(focus(intro w hSw;(try dsimp only at hSw);go_simp <;> with_reducible rfl));try simp only[Act.put,List.setIfInBounds_toArray,List.set_cons_zero,List.set_cons_succ]))
 all_goals(first|(refine tks (i:=30) rfl rfl (by assumption) ?_;try simp only[Act.put,List.setIfInBounds_toArray,List.set_cons_zero,List.set_cons_succ])|(refine tkv (i:=30) (v:=?_) rfl rfl ?_ (by assumption) ?_;rotate_left;(focus(intro w hSw;(try dsimp only at hSw);go_simp <;> with_reducible rfl));try simp only[Act.put,List.setIfInBounds_toArray,List.set_cons_zero,List.set_cons_succ]))
 all_goals(first|(refine tks (i:=31) rfl rfl (by assumption) ?_;try simp only[Act.put,List.setIfInBounds_toArray,List.set_cons_zero,List.set_cons_succ])|(refine tkv (i:=31) (v:=?_) rfl rfl ?_ (by assumption) ?_;rotate_left;(focus(intro w hSw;(try dsimp only at hSw);go_simp <;> with_reducible rfl));try simp only[Act.put,List.setIfInBounds_toArray,List.set_cons_zero,List.set_cons_succ]))
 all_goals(first|(refine tks (i:=32) rfl rfl (by assumption) ?_;try simp only[Act.put,List.setIfInBounds_toArray,List.set_cons_zero,List.set_cons_succ])|(refine tkv (i:=32) (v:=?_) rfl rfl ?_ (by assumption) ?_;rotate_left;(focus(intro w hSw;(try dsimp only at hSw);go_simp <;> with_reducible rfl));try simp only[Act.put,List.setIfInBounds_toArray,List.set_cons_zero,List.set_cons_succ]))
 all_goals(first|(refine tks (i:=33) rfl rfl (by assumption) ?_;try simp only[Act.put,List.setIfInBounds_toArray,List.set_cons_zero,List.set_cons_succ])|(refine tkv (i:=33) (v:=?_) rfl rfl ?_ (by assumption) ?_;rotate_left;(focus(intro w hSw;(try dsimp only at hSw);go_simp <;> with_reducible rfl));try simp only[Act.put,List.setIfInBounds_toArray,List.set_cons_zero,List.set_cons_succ]))
 all_goals(first|(refine tks (i:=34) rfl rfl (by assumption) ?_;try simp only[Act.put,List.setIfInBounds_toArray,List.set_cons_zero,List.set_cons_succ])|(refine tkv (i:=34) (v:=?_) rfl rfl ?_ (by assumption) ?_;rotate_left;(focus(intro w hSw;(try dsimp only at hSw);go_simp <;> with_reducible rfl));try simp only[Act.put,List.setIfInBounds_toArray,List.set_cons_zero,List.set_cons_succ]))
 all_goals(first|(refine tks (i:=35) rfl rfl (by assumption) ?_;try simp only[Act.put,List.setIfInBounds_toArray,List.set_cons_zero,List.set_cons_succ])|(refine tkv (i:=35) (v:=?_) rfl rfl ?_ (by assumption) ?_;rotate_left;(focus(intro w hSw;(try dsimp only at hSw);go_simp <;> with_reducible rfl));try simp only[Act.put,List.setIfInBounds_toArray,List.set_cons_zero,List.set_cons_succ]))
 all_goals(first|(refine tks (i:=36) rfl rfl (by assumption) ?_;try simp only[Act.put,List.setIfInBounds_toArray,List.set_cons_zero,List.set_cons_succ])|(refine tkv (i:=36) (v:=?_) rfl rfl ?_ (by assumption) ?_;rotate_left;(focus(intro w hSw;(try dsimp only at hSw);go_simp <;> with_reducible rfl));try simp only[Act.put,List.setIfInBounds_toArray,List.set_cons_zero,List.set_cons_succ]))
 all_goals(first|(refine tks (i:=37) rfl rfl (by assumption) ?_;try simp only[Act.put,List.setIfInBounds_toArray,List.set_cons_zero,List.set_cons_succ])|(refine tkv (i:=37) (v:=?_) rfl rfl ?_ (by assumption) ?_;rotate_left;(focus(intro w hSw;(try dsimp only at hSw);go_simp <;> with_reducible rfl));try simp only[Act.put,List.setIfInBounds_toArray,List.set_cons_zero,List.set_cons_succ]))
 all_goals(first|(refine tks (i:=38) rfl rfl (by assumption) ?_;try simp only[Act.put,List.setIfInBounds_toArray,List.set_cons_zero,List.set_cons_succ])|(refine tkv (i:=38) (v:=?_) rfl rfl ?_ (by assumption) ?_;rotate_left;(focus(intro w hSw;(try dsimp only at hSw);go_simp <;> with_reducible rfl));try simp only[Act.put,List.setIfInBounds_toArray,List.set_cons_zero,List.set_cons_succ]))
 all_goals(first|(refine tks (i:=39) rfl rfl (by assumption) ?_;try simp only[Act.put,List.setIfInBounds_toArray,List.set_cons_zero,List.set_cons_succ])|(refine tkv (i:=39) (v:=?_) rfl rfl ?_ (by assumption) ?_;rotate_left;(focus(intro w hSw;(try dsimp only at hSw);go_simp <;> with_reducible rfl));try simp only[Act.put,List.setIfInBounds_toArray,List.set_cons_zero,List.set_cons_succ]))
 all_goals((refine tkv (i:=40) (v:=?_) rfl rfl ?_ (by assumption) ?_;rotate_left;(focus(intro w hSw;(try dsimp only at hSw);go_simp <;> with_reducible rfl));try simp only[Act.put,List.setIfInBounds_toArray,List.set_cons_zero,List.set_cons_succ]))
 all_goals(first|((fail_if_success (clear hg5 g5));cases g5)|skip)
 all_goals((refine tkv (i:=41) (v:=?_) rfl rfl ?_ (by assumption) ?_;rotate_left;(focus(intro w hSw;(try dsimp only at hSw);go_simp <;> with_reducible rfl));try simp only[Act.put,List.setIfInBounds_toArray,List.set_cons_zero,List.set_cons_succ]))
 all_goals(first|(refine tks (i:=42) rfl rfl (by assumption) ?_;try simp only[Act.put,List.setIfInBounds_toArray,List.set_cons_zero,List.set_cons_succ])|(refine tkv (i:=42) (v:=?_) rfl rfl ?_ (by assumption) ?_;rotate_left;(focus(intro w hSw;(try dsimp only at hSw);go_simp <;> with_reducible rfl));try simp only[Act.put,List.setIfInBounds_toArray,List.set_cons_zero,List.set_cons_succ]))
 all_goals(first|(refine tks (i:=43) rfl rfl (by assumption) ?_;try simp only[Act.put,List.setIfInBounds_toArray,List.set_cons_zero,List.set_cons_succ])|(refine tkv (i:=43) (v:=?_) rfl rfl ?_ (by assumption) ?_;rotate_left;(focus(intro w hSw;(try dsimp only at hSw);go_simp <;> with_reducible rfl));try simp only[Act.put,List.setIfInBounds_toArray,List.set_cons_zero,List.set_cons_succ]))
 all_goals(first|(refine tks (i:=44) rfl rfl (by assumption) ?_;try simp only[Act.put,List.setIfInBounds_toArray,List.set_cons_zero,List.set_cons_succ])|(refine tkv (i:=44) (v:=?_) rfl rfl ?_ (by assumption) ?_;rotate_left;(focus(intro w hSw;(try dsimp only at hSw);go_simp <;> with_reducible rfl));try simp only[Act.put,List.setIfInBounds_toArray,List.set_cons_zero,List.set_cons_succ]))
 all_goals(first|(refine tks (i:=45) rfl rfl (by assumption) ?_;try simp only[Act.put,List.setIfInBounds_toArray,List.set_cons_zero,List.set_cons_succ])|(refine tkv (i:=45) (v:=?_) rfl rfl ?_ (by assumption) ?_;rotate_left;(focus(intro w hSw;(try dsimp only at hSw);go_simp <;> with_reducible rfl));try simp only[Act.put,List.setIfInBounds_toArray,List.set_cons_zero,List.set_cons_succ]))
 all_goals((refine tkv (i:=46) (v:=?_) rfl rfl ?_ (by assumption) ?_;rotate_left;(focus(intro w hSw;(try dsimp only at hSw);go_simp <;> with_reducible rfl));try simp only[Act.put,List.setIfInBounds_toArray,List.set_cons_zero,List.set_cons_succ]))
 all_goals((refine tkv (i:=47) (v:=?_) rfl rfl ?_ (by assumption) ?_;rotate_left;(focus(intro w hSw;(try dsimp only at hSw);go_simp <;> with_reducible rfl));try simp only[Act.put,List.setIfInBounds_toArray,List.set_cons_zero,List.set_cons_succ]))
 all_goals(refine wpAnyH_done (by kernel_rfl) ?_ _)
 all_goals(obtain⟨h0,h1,h2,h3,h4,h5,h6,h7,h8,h9,hE⟩:=hHeld;go_wp2;go_ret)
 all_goals
  refine⟨congrArg (fun x=>Ending.returned (.bool x)) ?_,hE⟩
  have h1:=HR.out
  have h2:=HT.out
  generalize (b - held)*d=M at *
  rw[Bool.eq_iff_iff,h1]
  simp only[Bool.false_eq_true,reduceCtorEq,false_iff,iff_true,true_iff,iff_false,decide_eq_true_eq,decide_eq_false_iff_not,beq_iff_eq,beq_eq_false_iff_ne] at *
  first
   | (intro hh;obtain⟨hh0,hh⟩:=hh;first|exact hok hh0|omega)
   | (subst hg6;rw[beq_iff_eq];constructor <;> intro hh <;> (try refine⟨hok,?_⟩) <;> omega)
theorem bright_any (p:Pol) (s:St) (a:Option Addr) (n c:Nat) (hn:s.log.length=n) (w:World) :
  Calls Tryz.prog 121 #[p.v,s.v a n c] w fun e w'=>e=.returned (.bool (decide (rightB p s)))∧Below w.heap.size w w':=by
 refine bright_walk p.kind p.limit p.period p.burst p.cap p.opn s.at_ s.level s.held a n c w _ ?_
 rw[decide_eq_true_eq]
 unfold rightB
 rw[← hn]
 simp only[List.length_eq_zero_iff]
theorem badv_any (p:Pol) (s:St) (a:Option Addr) (n c:Nat) (now:Int) (hn:s.log.length=n) (w:World):Calls Tryz.prog 122 #[p.v,s.v a n c,.int .i64 now] w fun e w'=>e=.returned ((advB p s now).v none 0 0)∧Below w.heap.size w w':=by
 have hrt:=bright_any p s a n c hn
 unfold advB
 by_cases h:rightB p s
 ·rw[if_pos h]
  rw[decide_eq_true h] at hrt
  obtain⟨hok,r1,r2,r3,r4,r5,r6,r7⟩:=h
  rw[r7] at hn
  subst hn
  have hdr:=fun d0 most w h1 h2 h3=>bdrops_any p d0 most w hok.2.1 hok.2.2.2.2.1 h1 h2 h3
  obtain⟨k,l,d,b,cc,o⟩:=p
  obtain⟨at_,level,held,lg⟩:=s
  unfold St.v Pol.v at *
  dsimp only[List.length_nil] at *
  have hcl:=clamp_any now
  have hcr:=clampT_range now
  obtain⟨q0,q1,q2,q3,q4,q5,q6,q7⟩:=hok
  dsimp only at *
  have hM:(b - held)*d≤1152921504606846976:=prod_le (by omega) (by omega) (by omega)
  have hM0:0≤(b - held)*d:=Int.mul_nonneg (by omega) (by omega)
  have hw1:IntKind.i64.wrap (b - held)=b - held:=IntWalk.i64_in _ (by omega)
  generalize hMM:(b - held)*d=M at *
  have hw2:IntKind.i64.wrap M=M:=IntWalk.i64_in _ (by omega)
  generalize hCC:clampT now=C at *
  have hT1:(if at_<C then C else at_)=up at_ C:=rfl
  have hTr:at_≤up at_ C∧up at_ C≤9007199254740992:=by unfold up;split <;> omega
  generalize hTT:up at_ C=T at *
  have hw3:IntKind.i64.wrap (T - at_)=T - at_:=IntWalk.i64_in _ (by omega)
  have hw4:IntKind.i64.wrap (M - level)=M - level:=IntWalk.i64_in _ (by omega)
  have hdr':=fun w=>hdr (T - at_) (M - level) w (by omega) (by omega) (by omega)
  have hDD0:0≤l*(T - at_):=Int.mul_nonneg (by omega) (by omega)
  have hD1:0≤dn (l*(T - at_)) (M - level)∧dn (l*(T - at_)) (M - level)≤M - level:=by unfold dn;split <;> omega
  generalize dn (l*(T - at_)) (M - level)=D at *
  have hw5:IntKind.i64.wrap (level+D)=level+D:=IntWalk.i64_in _ (by omega)
  have HRT:=Go.Lib.hid hrt
  have HCL:=Go.Lib.hid hcl
  have HDR:=Go.Lib.hid hdr'
  have hmx:(if at_<C then C else at_)=T:=hT1
  clear hrt hcl hdr' hdr hT1 hTr hD1 hM hM0 hDD0 q0 q1 q2 q3 q4 q5 q6 q7 r1 r2 r3 r4 r5 r6 hcr hCC hTT
  go_enter Tryz.func122,Tryz.ntmps122
  go_wp2_with fail
  refine(HRT.out _).mono ?_
  rintro e w1 ⟨rfl,hb⟩
  have hB:Below w.heap.size w w1:=bl_then k3 hb
  obtain⟨c0,c1,c2,c3,c4,c5⟩:=b6 (w.heap.size) k l d b cc o hb
  have c6:=bl_cell (v:=.int .i64 at_) hb (show World.cell? _ ⟨w.heap.size+1,0,none⟩=_ by go_simp)
  have c7:=bl_cell (v:=.int .i64 level) hb (show World.cell? _ ⟨w.heap.size+1,1,none⟩=_ by go_simp)
  have c8:=bl_cell (v:=.int .i64 held) hb (show World.cell? _ ⟨w.heap.size+1,2,none⟩=_ by go_simp)
  have c9:=bl_cell (v:=.slice a 0 c) hb (show World.cell? _ ⟨w.heap.size+1,3,none⟩=_ by go_simp)
  have hR:ResB w1 (w.heap.size+1+1):=res_bl (res_new _ _ _ _ _ _ (by simp)) hb
  clear hb HRT
  go_wp2_with fail
  refine wp_region_held_drew (S:=fun w'=>P6 w' (w.heap.size) k l d b cc o (S4 w' (w.heap.size+1) at_ level held a 0 c (ResB w' (w.heap.size+1+1)∧Below w.heap.size w w'))) (by kernel_rfl) ?_ (fun hHeld=>?_)
  ·exact⟨c0,c1,c2,c3,c4,c5,c6,c7,c8,c9,hR,bl_drew hB⟩
  try simp only[Act.put,List.setIfInBounds_toArray,List.set_cons_zero,List.set_cons_succ]
  all_goals refine tkx 0 ?_
  all_goals refine tkx 1 ?_
  all_goals refine tkx 2 ?_
  all_goals((refine callH (i:=3) rfl hHeld (fun W hW K hK=>?_);clear hHeld;(try dsimp only at hW);go_simp;refine(HCL.out _).mono ?_;rintro e w1 ⟨rfl,rfl⟩;go_wp2_with fail;refine hK.out _ _ ?_ (fun hHeld=>?_);(focus((try dsimp only);exact hW));clear hK K;try simp only[Act.put,List.setIfInBounds_toArray,List.set_cons_zero,List.set_cons_succ]))
  all_goals refine tkx 4 ?_
  all_goals refine tkx 5 ?_
  all_goals(refine wpAnyH_done (by kernel_rfl) ?_ _)
  clear hB hR c0 c1 c2 c3 c4 c5 c6 c7 c8 c9
  obtain⟨c0,c1,c2,c3,c4,c5,c6,c7,c8,c9,hR,hB⟩:=hHeld
  try clear hHeld
  go_wp2_with fail
  refine wp_region_held_drew (S:=fun w'=>P6 w' (w.heap.size) k l d b cc o (S4 w' (w.heap.size+1) at_ level held a 0 c (ResB w' (w.heap.size+1+1)∧Below w.heap.size w w'))) (by kernel_rfl) ?_ (fun hHeld=>?_)
  ·exact⟨c0,c1,c2,c3,c4,c5,c6,c7,c8,c9,hR,bl_drew hB⟩
  try simp only[Act.put,List.setIfInBounds_toArray,List.set_cons_zero,List.set_cons_succ]
  all_goals refine tkx 0 ?_
  all_goals refine tkx 1 ?_
  all_goals refine tkx 2 ?_
  all_goals refine tkx 3 ?_
  all_goals refine tkx 4 ?_
  all_goals refine tkx 5 ?_
  all_goals refine tkx 6 ?_
  all_goals refine tkx 7 ?_
  all_goals refine tkx 8 ?_
  all_goals refine tkx 9 ?_
  all_goals refine tkx 10 ?_
  all_goals refine tkx 11 ?_
  all_goals refine tkx 14 ?_
  all_goals refine tkx 15 ?_
  all_goals((refine callH (i:=12) rfl hHeld (fun W hW K hK=>?_);clear hHeld;(try dsimp only at hW);go_simp;refine(HDR.out _).mono ?_;rintro e w1 ⟨rfl,hb⟩;go_wp2_with fail;refine hK.out _ _ ?_ (fun hHeld=>?_);(focus((try dsimp only);(obtain⟨h0,h1,h2,h3,h4,h5,h6,h7,h8,h9,hr',hB'⟩:=hW;exact⟨bl_cell hb h0,bl_cell hb h1,bl_cell hb h2,bl_cell hb h3,bl_cell hb h4,bl_cell hb h5,bl_cell hb h6,bl_cell hb h7,bl_cell hb h8,bl_cell hb h9,res_bl hr' hb,bl_then hB' hb⟩)));clear hK K;try simp only[Act.put,List.setIfInBounds_toArray,List.set_cons_zero,List.set_cons_succ]))
  all_goals refine tkx 13 ?_
  all_goals refine tkx 16 ?_
  all_goals((refine callH (i:=17) rfl hHeld (fun W hW K hK=>?_);clear hHeld;(try dsimp only at hW);obtain⟨h0,h1,h2,h3,h4,h5,h6,h7,h8,h9,hr',hB'⟩:=hW;obtain⟨f0,f1,f2,f3,u0,u1,u2,u3,i0,i1,i2,i3⟩:=res_all hr';go_simp;refine hK.out _ _ ?_ (fun hHeld=>?_);(focus((try dsimp only);(have e0:w.heap.size+1+1≠w.heap.size:=(by omega);have e1:w.heap.size+1+1≠w.heap.size+1:=(by omega);exact⟨far4 h0 e0,far4 h1 e0,far4 h2 e0,far4 h3 e0,far4 h4 e0,far4 h5 e0,far4 h6 e1,far4 h7 e1,far4 h8 e1,far4 h9 e1,res4 hr',bl4 hB' (by omega)⟩)));clear hK K;try simp only[Act.put,List.setIfInBounds_toArray,List.set_cons_zero,List.set_cons_succ]))
  all_goals(refine wpAnyH_done (by kernel_rfl) ?_ _)
  obtain⟨-,-,-,-,-,-,-,-,-,-,-,hE⟩:=hHeld
  go_wp2
  (try simp only[Exit.inBlock,Exit.then])
  refine bodyPost_ret (results_state rfl _ _ (by rfl) (set4 _ _ _ _ i0 i1 i2 i3)) rfl ⟨by first|rfl|simp,hE⟩
 ·rw[if_neg h]
  rw[decide_eq_false h] at hrt
  clear h
  unfold St.none St.v Pol.v at *
  have HRT:=Go.Lib.hid hrt
  clear hrt
  go_enter Tryz.func122,Tryz.ntmps122
  go_wp2_with fail
  refine(HRT.out _).mono ?_
  rintro e w1 ⟨rfl,hb⟩
  have hB:Below w.heap.size w w1:=bl_then k3 hb
  have hR:ResB w1 (w.heap.size+1+1):=res_bl (res_new _ _ _ _ _ _ (by simp)) hb
  obtain⟨f0,f1,f2,f3,u0,u1,u2,u3,i0,i1,i2,i3⟩:=res_all hR
  clear hb HRT
  go_wp2
  (try simp only[Exit.inBlock,Exit.then])
  refine bodyPost_ret (results_state rfl _ _ (by rfl) (set4 _ _ _ _ i0 i1 i2 i3)) rfl ⟨by first|rfl|simp,bl4 hB (by omega)⟩







def Ac.v (a:Ac):Value:=.agg #[.int .i64 a.kind,.int .i64 a.now,.int .i64 a.cost]
/-- Where a log that is told comes from: it is empty, or that which was handed in, or a new one. -/
def Src (a0:Option Addr) (n0:Nat) (w:World) (a:Option Addr) (n:Nat):Prop:=n=0∨(a=a0∧n=n0)∨∀ ad,a=some ad→w.heap.size≤ad.block
/-- A state, and whether it was done. -/
def PostSB (a0:Option Addr) (n0:Nat) (r:St × Bool) (w:World) (e:Ending) (w':World):Prop:=∃ (a:Option Addr) (n c:Nat),e=.returned (.tuple #[r.1.v a n c,.bool r.2])∧LogAt w' a n c r.1.log∧Src a0 n0 w a n∧Below w.heap.size w w'
/-- A state. -/
def PostS (a0:Option Addr) (n0:Nat) (s:St) (w:World) (e:Ending) (w':World):Prop:=∃ (a:Option Addr) (n c:Nat),e=.returned (s.v a n c)∧LogAt w' a n c s.log∧Src a0 n0 w a n∧Below w.heap.size w w'
theorem own_src {w w':World} {a0 a:Option Addr} {n0 n c:Nat} {L:List (Int × Int)} (h:OwnLog w' w.heap.size (.slice a n c) n L):Src a0 n0 w a n :=
 .inr (.inr (fun ad e=>by subst e;exact(World.ownsRow.lt h _ rfl).1))
theorem sb_none {a0:Option Addr} {n0:Nat} {w w':World} {e:Ending} (h:e=.returned (.tuple #[.agg #[.int .i64 0,.int .i64 0,.int .i64 0,.slice none 0 0],.bool false])∧Below w.heap.size w w'):PostSB a0 n0 (St.none,false) w e w' :=
 ⟨none,0,0,h.1,log_nil _ _ _ (by omega),.inl rfl,h.2⟩
theorem sb_same {w w':World} {e:Ending} {s:St} {a:Option Addr} {n c:Nat} (hl:LogAt w a n c s.log) (h:e=.returned (.tuple #[s.v a n c,.bool false])∧Below w.heap.size w w'):PostSB a n (s,false) w e w' :=
 ⟨a,n,c,h.1,log_bl hl h.2,.inr (.inl ⟨rfl,rfl⟩),h.2⟩
theorem s_own {a0:Option Addr} {n0:Nat} {w w':World} {e:Ending} {s:St} (h:StOwn s w.heap.size e w'∧Below w.heap.size w w'):PostS a0 n0 s w e w':=by
 obtain⟨⟨v,m,he,ho⟩,hb⟩:=h
 obtain⟨a,c,rfl,hl⟩:=own_log ho
 exact⟨a,m,c,he,hl,own_src ho,hb⟩

def fv (f:Nat):Value:=.func (.func f) #[] #[]
def kernB:Array Value := #[fv 119,fv 120,fv 121,fv 122,fv 123,fv 124,fv 125,fv 126]
def kernG:Array Value := #[fv 95,fv 96,fv 97,fv 98,fv 99,fv 100,fv 101,fv 102]
def kernL:Array Value := #[fv 103,fv 104,fv 105,fv 106,fv 107,fv 108,fv 109,fv 110]
def kernC:Array Value := #[fv 111,fv 112,fv 113,fv 114,fv 115,fv 116,fv 117,fv 118]
def kern (k:Int):Array Value:=if k=2 then kernG else if k=3 then kernL else if k=4 then kernC else kernB

theorem of_any (p:Pol) (w:World):Calls Tryz.prog 56 #[p.v] w fun e w'=>e=.returned (.iface 108 (.agg (kern p.kind)))∧Below w.heap.size w w':=by
 obtain⟨k,l,d,b,cc,o⟩:=p
 unfold Pol.v
 dsimp only
 unfold kern
 by_cases h2:k=2
 ·subst h2
  go_enter Tryz.func56,Tryz.ntmps56
  go_wp2_with fail
  go_ret
  exact⟨rfl,k1⟩
 rw[if_neg h2]
 by_cases h3:k=3
 ·subst h3
  go_enter Tryz.func56,Tryz.ntmps56
  go_wp2_with fail
  go_ret
  exact⟨rfl,k1⟩
 rw[if_neg h3]
 by_cases h4:k=4
 ·subst h4
  go_enter Tryz.func56,Tryz.ntmps56
  go_wp2_with fail
  go_ret
  exact⟨rfl,k1⟩
 ·rw[if_neg h4]
  go_enter Tryz.func56,Tryz.ntmps56
  go_wp2_with fail
  go_ret
  exact⟨rfl,k1⟩
def Enters (g:Nat):Prop:=∀ args w,(callFunc g args).run Tryz.prog w=.ok (.enter g args) w

theorem log_set4 {w:World} {a:Option Addr} {n c b:Nat} {L:List (Int × Int)} {v0 v1 v2 v3:Value} (h:LogAt w a n c L) (hne:∀ ad,a=some ad→n≠0→ad.block≠b) :
  LogAt ((((w.setCell ⟨b,0,none⟩ v0).setCell ⟨b,1,none⟩ v1).setCell ⟨b,2,none⟩ v2).setCell ⟨b,3,none⟩ v3) a n c L :=
 ⟨h.1,h.2.1,h.2.2.1,fun i hi=>by
  obtain⟨bb,off,e,h1,h2⟩:=h.2.2.2 i hi
  have hb:b≠bb:=fun x=>hne _ e (by omega) x.symm
  exact⟨bb,off,e,far4 h1 hb,far4 h2 hb⟩⟩
theorem log_lt {w:World} {a:Option Addr} {n c:Nat} {L:List (Int × Int)} (h:LogAt w a n c L):∀ ad,a=some ad→n≠0→ad.block<w.heap.size:=fun ad e hn=>by
 obtain⟨bb,off,e',h1,-⟩:=h.2.2.2 0 (by omega)
 rw[e] at e'
 injection e' with e'
 subst e'
 exact World.block_lt_of_cell? w _ h1
theorem src_ne {w w1:World} {a0 a:Option Addr} {n0 n c0 b:Nat} {L0:List (Int × Int)} (h0:LogAt w a0 n0 c0 L0) (h:Src a0 n0 w1 a n) (h1:w.heap.size≤b) (h2:b<w1.heap.size):∀ ad,a=some ad→n≠0→ad.block≠b:=fun ad e hn=>by
 rcases h with h|⟨rfl,rfl⟩|h
 ·exact absurd h hn
 ·have:=log_lt h0 ad e hn
  omega
 ·have:=h ad e
  omega
theorem src_out {w w1:World} {a0 a:Option Addr} {n0 n:Nat} (h:Src a0 n0 w1 a n) (hs:w.heap.size≤w1.heap.size):Src a0 n0 w a n:=by
 rcases h with h|h|h
 ·exact .inl h
 ·exact .inr (.inl h)
 ·exact .inr (.inr fun ad e=>Nat.le_trans hs (h ad e))

theorem made_do (g:Nat) (eg:Enters g) (f0 f1 f2 f3 f4 f6 f7:Value) (p:Pol) (s:St) (a:Option Addr) (n c:Nat) (x:Ac) (R:St × Bool) (hc:∀ w,LogAt w a n c s.log→Calls Tryz.prog g #[p.v,s.v a n c,x.v] w (PostSB a n R w)) (w:World) (hl:LogAt w a n c s.log) :
  Calls Tryz.prog 208 #[.agg #[f0,f1,f2,f3,f4,fv g,f6,f7],p.v,s.v a n c,x.v] w (PostSB a n R w):=by
 obtain⟨k,l,d,b,cc,o⟩:=p
 obtain⟨at_,level,held,L⟩:=s
 obtain⟨ak,anow,acost⟩:=x
 obtain⟨⟨rat,rlv,rhd,rL⟩,rok⟩:=R
 unfold Ac.v St.v Pol.v at *
 unfold fv
 unfold Enters at eg
 dsimp only at *
 have HC:=Go.Lib.hid hc
 have HL:=Go.Lib.hid hl
 clear hc hl
 go_enter Tryz.func208,Tryz.ntmps208
 go_wp2_with fail
 refine(HC.out _ (log_bl HL.out k5)).mono ?_
 rintro e w1 ⟨a9,n9,c9,rfl,hl9,hs9,hb⟩
 have hB:Below w.heap.size w w1:=bl_then k5 hb
 have hR:ResB w1 (w.heap.size+1+1+1+1):=res_bl (res_new _ _ _ _ _ _ (by simp)) hb
 have hne:=src_ne (b:=w.heap.size+1+1+1+1) HL.out hs9 (by omega) (by simp)
 have hso:=src_out (w:=w) hs9 (by simp;omega)
 obtain⟨f0',f1',f2',f3',u0,u1,u2,u3,i0,i1,i2,i3⟩:=res_all hR
 have HNE:=Go.Lib.hid hne
 have HSO:=Go.Lib.hid hso
 have HL9:=Go.Lib.hid hl9
 clear hb HC HL hne hso hs9 hl9
 unfold St.v
 dsimp only
 go_wp2_with fail
 (try simp only[Exit.inBlock,Exit.then])
 refine bodyPost_ret (results_state2 rfl _ _ (by rfl) (set4r hR)) rfl ⟨a9,n9,c9,rfl,log_set4 HL9.out HNE.out,HSO.out,bl4 hB (by omega)⟩

theorem made_start (g:Nat) (eg:Enters g) (f0 f2 f3 f4 f5 f6 f7:Value) (p:Pol) (now:Int) (s:St) (hc:∀ w,Calls Tryz.prog g #[p.v,.int .i64 now] w fun e w'=>e=.returned (s.v none 0 0)∧Below w.heap.size w w') (w:World) :
  Calls Tryz.prog 212 #[.agg #[f0,fv g,f2,f3,f4,f5,f6,f7],p.v,.int .i64 now] w fun e w'=>e=.returned (s.v none 0 0)∧Below w.heap.size w w':=by
 obtain⟨k,l,d,b,cc,o⟩:=p
 obtain⟨at_,level,held,L⟩:=s
 unfold St.v Pol.v at *
 unfold fv
 unfold Enters at eg
 dsimp only at *
 have HC:=Go.Lib.hid hc
 clear hc
 go_enter Tryz.func212,Tryz.ntmps212
 go_wp2_with fail
 refine(HC.out _).mono ?_
 rintro e w1 ⟨rfl,hb⟩
 have hB:Below w.heap.size w w1:=bl_then k3 hb
 have hR:ResB w1 (w.heap.size+1+1):=res_bl (res_new _ _ _ _ _ _ (by simp)) hb
 obtain⟨f0',f1',f2',f3',u0,u1,u2,u3,i0,i1,i2,i3⟩:=res_all hR
 clear hb HC
 go_wp2_with fail
 (try simp only[Exit.inBlock,Exit.then])
 refine bodyPost_ret (results_state rfl _ _ (by rfl) (set4r hR)) rfl ⟨rfl,bl4 hB (by omega)⟩
theorem made_right (g:Nat) (eg:Enters g) (f0 f1 f3 f4 f5 f6 f7:Value) (p:Pol) (s:St) (a:Option Addr) (n c:Nat) (R:Bool) (hc:∀ w,LogAt w a n c s.log→Calls Tryz.prog g #[p.v,s.v a n c] w fun e w'=>e=.returned (.bool R)∧Below w.heap.size w w') (w:World) (hl:LogAt w a n c s.log) :
  Calls Tryz.prog 210 #[.agg #[f0,f1,fv g,f3,f4,f5,f6,f7],p.v,s.v a n c] w fun e w'=>e=.returned (.bool R)∧Below w.heap.size w w':=by
 obtain⟨k,l,d,b,cc,o⟩:=p
 obtain⟨at_,level,held,L⟩:=s
 unfold St.v Pol.v at *
 unfold fv
 unfold Enters at eg
 dsimp only at *
 have HC:=Go.Lib.hid hc
 have HL:=Go.Lib.hid hl
 clear hc hl
 go_enter Tryz.func210,Tryz.ntmps210
 go_wp2_with fail
 refine(HC.out _ (log_bl HL.out k3)).mono ?_
 rintro e w1 ⟨rfl,hb⟩
 go_wp2_with fail
 go_ret
 exact⟨rfl,bl_then k3 hb⟩
theorem made_until (g:Nat) (eg:Enters g) (f0 f1 f2 f3 f4 f5 f7:Value) (p:Pol) (s:St) (a:Option Addr) (n c:Nat) (now:Int) (R:Int) (hc:∀ w,LogAt w a n c s.log→Calls Tryz.prog g #[p.v,s.v a n c,.int .i64 now] w fun e w'=>e=.returned (.int .i64 R)∧Below w.heap.size w w') (w:World) (hl:LogAt w a n c s.log) :
  Calls Tryz.prog 213 #[.agg #[f0,f1,f2,f3,f4,f5,fv g,f7],p.v,s.v a n c,.int .i64 now] w fun e w'=>e=.returned (.int .i64 R)∧Below w.heap.size w w':=by
 obtain⟨k,l,d,b,cc,o⟩:=p
 obtain⟨at_,level,held,L⟩:=s
 unfold St.v Pol.v at *
 unfold fv
 unfold Enters at eg
 dsimp only at *
 have HC:=Go.Lib.hid hc
 have HL:=Go.Lib.hid hl
 clear hc hl
 go_enter Tryz.func213,Tryz.ntmps213
 go_wp2_with fail
 refine(HC.out _ (log_bl HL.out k3)).mono ?_
 rintro e w1 ⟨rfl,hb⟩
 go_wp2_with fail
 go_ret
 exact⟨rfl,bl_then k3 hb⟩
theorem bnew_any (p:Pol) (now:Int) (w:World):Calls Tryz.prog 120 #[p.v,.int .i64 now] w fun e w'=>e=.returned ((newB p now).v none 0 0)∧Below w.heap.size w w':=by
 obtain⟨k,l,d,b,cc,o⟩:=p
 have hck:=bcheck_any ⟨k,l,d,b,cc,o⟩
 unfold newB
 unfold Pol.v at *
 unfold St.v
 dsimp only at *
 by_cases h:okB ⟨k,l,d,b,cc,o⟩
 ·rw [if_pos h]
  rw[show chkB ⟨k,l,d,b,cc,o⟩=0 from if_pos h] at hck
  have HCK:=Go.Lib.hid hck
  have hcl:=clamp_any now
  have hw2:IntKind.i64.wrap (b*d)=b*d:=by
   obtain⟨q0,q1,q2,q3,q4,q5,q6,q7⟩:=h
   dsimp only at *
   have h2:b*d≤1152921504606846976:=prod_le (by omega) (by omega) (by omega)
   have h3:0≤b*d:=Int.mul_nonneg (by omega) (by omega)
   exact IntWalk.i64_in _ (by omega)
  clear h hck
  dsimp only
  generalize clampT now=T at *
  have HCL:=Go.Lib.hid hcl
  clear hcl
  go_enter Tryz.func120,Tryz.ntmps120
  go_wp2_with fail
  refine(HCK.out _).mono ?_
  rintro e w1 ⟨rfl,hb⟩
  have hB:Below w.heap.size w w1:=bl_then k2 hb
  obtain⟨c0,c1,c2,c3,c4,c5⟩:=b6 (w.heap.size) k l d b cc o hb
  have hR:ResB w1 (w.heap.size+1):=res_bl (res_new _ _ _ _ _ _ (by simp)) hb
  clear hb HCK
  go_wp2_with fail
  refine wp_region_held_drew (S:=fun w'=>P6 w' (w.heap.size) k l d b cc o (ResB w' (w.heap.size+1)∧Below w.heap.size w w')) (by kernel_rfl) ?_ (fun hHeld=>?_)
  ·exact⟨c0,c1,c2,c3,c4,c5,hR,bl_drew hB⟩
  try simp only[Act.put,List.setIfInBounds_toArray,List.set_cons_zero,List.set_cons_succ]
  all_goals refine tkx 0 ?_
  all_goals refine tkx 2 ?_
  all_goals refine tkx 3 ?_
  all_goals refine tkx 4 ?_
  all_goals refine tkx 5 ?_
  all_goals refine tkx 6 ?_
  all_goals((refine callH (i:=1) rfl hHeld (fun W hW K hK=>?_);clear hHeld;(try dsimp only at hW);go_simp;refine(HCL.out _).mono ?_;rintro e w1 ⟨rfl,rfl⟩;go_wp2_with fail;refine hK.out _ _ ?_ (fun hHeld=>?_);(focus((try dsimp only);exact hW));clear hK K;try simp only[Act.put,List.setIfInBounds_toArray,List.set_cons_zero,List.set_cons_succ]))
  all_goals refine tkx 7 ?_
  all_goals((refine callH (i:=8) rfl hHeld (fun W hW K hK=>?_);clear hHeld;(try dsimp only at hW);obtain⟨h0,h1,h2,h3,h4,h5,hr',hB'⟩:=hW;obtain⟨f0,f1,f2,f3,u0,u1,u2,u3,i0,i1,i2,i3⟩:=res_all hr';go_simp;refine hK.out _ _ ?_ (fun hHeld=>?_);(focus((try dsimp only);(have e0:w.heap.size+1≠w.heap.size:=(by omega);exact⟨far4 h0 e0,far4 h1 e0,far4 h2 e0,far4 h3 e0,far4 h4 e0,far4 h5 e0,res4 hr',bl4 hB' (by omega)⟩)));clear hK K;try simp only[Act.put,List.setIfInBounds_toArray,List.set_cons_zero,List.set_cons_succ]))
  all_goals(refine wpAnyH_done (by kernel_rfl) ?_ _)
  obtain⟨-,-,-,-,-,-,-,hE⟩:=hHeld
  go_wp2
  (try simp only[Exit.inBlock,Exit.then])
  refine bodyPost_ret (results_state rfl _ _ (by rfl) (set4 _ _ _ _ i0 i1 i2 i3)) rfl ⟨by first|rfl|simp,hE⟩
 ·rw[if_neg h]
  rw[show chkB ⟨k,l,d,b,cc,o⟩=2 from if_neg h] at hck
  have HCK:=Go.Lib.hid hck
  clear hck h
  unfold St.none
  go_enter Tryz.func120,Tryz.ntmps120
  go_wp2_with fail
  refine(HCK.out _).mono ?_
  rintro e w1 ⟨rfl,hb⟩
  have hB:Below w.heap.size w w1:=bl_then k2 hb
  have hR:ResB w1 (w.heap.size+1):=res_bl (res_new _ _ _ _ _ _ (by simp)) hb
  obtain⟨f0,f1,f2,f3,u0,u1,u2,u3,i0,i1,i2,i3⟩:=res_all hR
  clear hb HCK
  go_wp2
  (try simp only[Exit.inBlock,Exit.then])
  refine bodyPost_ret (results_state rfl _ _ (by rfl) (set4 _ _ _ _ i0 i1 i2 i3)) rfl ⟨by first|rfl|simp,bl4 hB (by omega)⟩
theorem gnew_any (p:Pol) (now:Int) (w:World):Calls Tryz.prog 96 #[p.v,.int .i64 now] w fun e w'=>e=.returned ((newG p now).v none 0 0)∧Below w.heap.size w w':=by
 have hck:=gcheck_any p
 unfold newG
 by_cases h:okG p
 ·rw[if_pos h]
  rw[show chkG p=0 from if_pos h] at hck
  clear h
  obtain⟨k,l,d,b,cc,o⟩:=p
  have hcl:=clamp_any now
  unfold St.v Pol.v at *
  dsimp only at *
  generalize clampT now=T at *
  have HCK:=Go.Lib.hid hck
  have HCL:=Go.Lib.hid hcl
  clear hcl hck
  go_enter Tryz.func96,Tryz.ntmps96
  go_wp2_with fail
  refine(HCK.out _).mono ?_
  rintro e w1 ⟨rfl,hb⟩
  have hB:Below w.heap.size w w1:=bl_then k2 hb
  obtain⟨c0,c1,c2,c3,c4,c5⟩:=b6 (w.heap.size) k l d b cc o hb
  have hR:ResB w1 (w.heap.size+1):=res_bl (res_new _ _ _ _ _ _ (by simp)) hb
  clear hb HCK
  go_wp2_with fail
  refine(HCL.out _).mono ?_
  rintro e w2 ⟨rfl,rfl⟩
  obtain⟨f0,f1,f2,f3,u0,u1,u2,u3,i0,i1,i2,i3⟩:=res_all hR
  go_wp2_with fail
  (try simp only[Exit.inBlock,Exit.then])
  refine bodyPost_ret (results_state rfl _ _ (by rfl) (set4 _ _ _ _ i0 i1 i2 i3)) rfl ⟨by first|rfl|simp,bl4 hB (by omega)⟩
 ·rw[if_neg h]
  rw[show chkG p=2 from if_neg h] at hck
  clear h
  unfold St.v Pol.v at *
  have HCK:=Go.Lib.hid hck
  clear hck
  unfold St.none
  go_enter Tryz.func96,Tryz.ntmps96
  go_wp2_with fail
  refine(HCK.out _).mono ?_
  rintro e w1 ⟨rfl,hb⟩
  have hB:Below w.heap.size w w1:=bl_then k2 hb
  have hR:ResB w1 (w.heap.size+1):=res_bl (res_new _ _ _ _ _ _ (by simp)) hb
  obtain⟨f0,f1,f2,f3,u0,u1,u2,u3,i0,i1,i2,i3⟩:=res_all hR
  clear hb HCK
  go_wp2_with fail
  (try simp only[Exit.inBlock,Exit.then])
  refine bodyPost_ret (results_state rfl _ _ (by rfl) (set4 _ _ _ _ i0 i1 i2 i3)) rfl ⟨by first|rfl|simp,bl4 hB (by omega)⟩
theorem cnew_any (p:Pol) (now:Int) (w:World):Calls Tryz.prog 112 #[p.v,.int .i64 now] w fun e w'=>e=.returned ((newC p now).v none 0 0)∧Below w.heap.size w w':=by
 have hck:=ccheck_any p
 unfold newC
 by_cases h:okC p
 ·rw[if_pos h]
  rw[show chkC p=0 from if_pos h] at hck
  clear h
  obtain⟨k,l,d,b,cc,o⟩:=p
  have hcl:=clamp_any now
  unfold St.v Pol.v at *
  dsimp only at *
  generalize clampT now=T at *
  have HCK:=Go.Lib.hid hck
  have HCL:=Go.Lib.hid hcl
  clear hcl hck
  go_enter Tryz.func112,Tryz.ntmps112
  go_wp2_with fail
  refine(HCK.out _).mono ?_
  rintro e w1 ⟨rfl,hb⟩
  have hB:Below w.heap.size w w1:=bl_then k2 hb
  obtain⟨c0,c1,c2,c3,c4,c5⟩:=b6 (w.heap.size) k l d b cc o hb
  have hR:ResB w1 (w.heap.size+1):=res_bl (res_new _ _ _ _ _ _ (by simp)) hb
  clear hb HCK
  go_wp2_with fail
  refine(HCL.out _).mono ?_
  rintro e w2 ⟨rfl,rfl⟩
  obtain⟨f0,f1,f2,f3,u0,u1,u2,u3,i0,i1,i2,i3⟩:=res_all hR
  go_wp2_with fail
  (try simp only[Exit.inBlock,Exit.then])
  refine bodyPost_ret (results_state rfl _ _ (by rfl) (set4 _ _ _ _ i0 i1 i2 i3)) rfl ⟨by first|rfl|simp,bl4 hB (by omega)⟩
 ·rw[if_neg h]
  rw[show chkC p=2 from if_neg h] at hck
  clear h
  unfold St.v Pol.v at *
  have HCK:=Go.Lib.hid hck
  clear hck
  unfold St.none
  go_enter Tryz.func112,Tryz.ntmps112
  go_wp2_with fail
  refine(HCK.out _).mono ?_
  rintro e w1 ⟨rfl,hb⟩
  have hB:Below w.heap.size w w1:=bl_then k2 hb
  have hR:ResB w1 (w.heap.size+1):=res_bl (res_new _ _ _ _ _ _ (by simp)) hb
  obtain⟨f0,f1,f2,f3,u0,u1,u2,u3,i0,i1,i2,i3⟩:=res_all hR
  clear hb HCK
  go_wp2_with fail
  (try simp only[Exit.inBlock,Exit.then])
  refine bodyPost_ret (results_state rfl _ _ (by rfl) (set4 _ _ _ _ i0 i1 i2 i3)) rfl ⟨by first|rfl|simp,bl4 hB (by omega)⟩
theorem wnew_any (p:Pol) (now:Int) (w:World):Calls Tryz.prog 104 #[p.v,.int .i64 now] w fun e w'=>e=.returned ((newL p now).v none 0 0)∧Below w.heap.size w w':=by
 have hck:=wcheck_any p
 unfold newL
 by_cases h:okL p
 ·rw[if_pos h]
  rw[show chkL p=0 from if_pos h] at hck
  clear h
  obtain⟨k,l,d,b,cc,o⟩:=p
  have hcl:=clamp_any now
  unfold St.v Pol.v at *
  dsimp only at *
  generalize clampT now=T at *
  have HCK:=Go.Lib.hid hck
  have HCL:=Go.Lib.hid hcl
  clear hcl hck
  go_enter Tryz.func104,Tryz.ntmps104
  go_wp2_with fail
  refine(HCK.out _).mono ?_
  rintro e w1 ⟨rfl,hb⟩
  have hB:Below w.heap.size w w1:=bl_then k2 hb
  obtain⟨c0,c1,c2,c3,c4,c5⟩:=b6 (w.heap.size) k l d b cc o hb
  have hR:ResB w1 (w.heap.size+1):=res_bl (res_new _ _ _ _ _ _ (by simp)) hb
  clear hb HCK
  go_wp2_with fail
  refine(HCL.out _).mono ?_
  rintro e w2 ⟨rfl,rfl⟩
  obtain⟨f0,f1,f2,f3,u0,u1,u2,u3,i0,i1,i2,i3⟩:=res_all hR
  go_wp2_with fail
  (try simp only[Exit.inBlock,Exit.then])
  refine bodyPost_ret (results_state rfl _ _ (by rfl) (set4 _ _ _ _ i0 i1 i2 i3)) rfl ⟨by first|rfl|simp,bl4 hB (by omega)⟩
 ·rw[if_neg h]
  rw[show chkL p=2 from if_neg h] at hck
  clear h
  unfold St.v Pol.v at *
  have HCK:=Go.Lib.hid hck
  clear hck
  unfold St.none
  go_enter Tryz.func104,Tryz.ntmps104
  go_wp2_with fail
  refine(HCK.out _).mono ?_
  rintro e w1 ⟨rfl,hb⟩
  have hB:Below w.heap.size w w1:=bl_then k2 hb
  have hR:ResB w1 (w.heap.size+1):=res_bl (res_new _ _ _ _ _ _ (by simp)) hb
  obtain⟨f0,f1,f2,f3,u0,u1,u2,u3,i0,i1,i2,i3⟩:=res_all hR
  clear hb HCK
  go_wp2_with fail
  (try simp only[Exit.inBlock,Exit.then])
  refine bodyPost_ret (results_state rfl _ _ (by rfl) (set4 _ _ _ _ i0 i1 i2 i3)) rfl ⟨by first|rfl|simp,bl4 hB (by omega)⟩


theorem cnext_any (k l d b cc:Int) (o:Bool) (T:Int) (w:World) (hd:1≤d) (hD:d≤1099511627776) (h0:0≤T):Calls Tryz.prog 158 #[.agg #[.int .i64 k,.int .i64 l,.int .i64 d,.int .i64 b,.int .i64 cc,.bool o],.int .i64 T] w fun e w'=>e=.returned (.int .i64 (d - T % d))∧Below w.heap.size w w':=by
 have hd0:¬ d=0:=by omega
 have t1:Int.tmod T d=T % d:=Int.tmod_eq_emod_of_nonneg h0
 have t2:0≤T % d:=Int.emod_nonneg _ hd0
 have t3:T % d<d:=Int.emod_lt_of_pos _ (by omega)
 generalize T % d=M at *
 have t4:IntKind.i64.wrap M=M:=IntWalk.i64_in _ (by omega)
 have t5:IntKind.i64.wrap (d - M)=d - M:=IntWalk.i64_in _ (by omega)
 clear t2 t3 hd hD h0
 go_enter Tryz.func158,Tryz.ntmps158
 go_wp2_with fail
 refine wp_abs (S0:=fun w'=>P6 w' (w.heap.size) k l d b cc o (Below w.heap.size w w')) ⟨by go_simp,by go_simp,by go_simp,by go_simp,by go_simp,by go_simp,k1⟩ ?_
 rintro W ⟨c0,c1,c2,c3,c4,c5,hB⟩
 refine wp_region_held_drew (S:=fun w'=>P6 w' (w.heap.size) k l d b cc o (Below w.heap.size w w')) (by kernel_rfl) ?_ (fun hHeld=>?_)
 ·exact⟨c0,c1,c2,c3,c4,c5,bl_drew hB⟩
 try simp only[Act.put,List.setIfInBounds_toArray,List.set_cons_zero,List.set_cons_succ]
 all_goals refine tkx 0 ?_
 all_goals refine tkx 1 ?_
 all_goals refine tkx 2 ?_
 all_goals refine tkx 3 ?_
 all_goals refine tkx 4 ?_
 all_goals refine tkx 5 ?_
 all_goals refine tkx 6 ?_
 all_goals refine tkx 7 ?_
 all_goals(refine wpAnyH_done (by kernel_rfl) ?_ _)
 obtain⟨-,-,-,-,-,-,hE⟩:=hHeld
 repeat' (first|go_skip|go_guarded|go_step|go_upon)
 go_ret
 exact⟨rfl,hE⟩

theorem croom_any (p:Pol) (s:St) (a:Option Addr) (n c:Nat) (now:Int) (hn:s.log.length=n) (w:World):Calls Tryz.prog 115 #[p.v,s.v a n c,.int .i64 now] w fun e w'=>e=.returned (.int .i64 (roomC p s now))∧Below w.heap.size w w':=by
 have hrt:=cright_any p s a n c hn
 have hav:=cadv_any p s a n c now hn
 unfold roomC
 by_cases h:rightC p s
 ·rw[if_pos h]
  rw[decide_eq_true h] at hrt
  have hlv:=advC_level p s now h
  obtain⟨⟨q0,q1,q2,q3,q4,q5,q6⟩,r1,r2,r3,r4,r5,r6,r7,r8⟩:=h
  rw[r8] at hn
  subst hn
  generalize advC p s now=A at *
  obtain⟨aat,alv,ahd,alg⟩:=A
  obtain⟨k,l,d,b,cc,o⟩:=p
  obtain⟨at_,level,held,lg⟩:=s
  unfold St.v Pol.v at *
  dsimp only[List.length_nil] at *
  have hw1:IntKind.i64.wrap (l - held)=l - held:=IntWalk.i64_in _ (by omega)
  have hw2:IntKind.i64.wrap (l - held - alv)=l - held - alv:=IntWalk.i64_in _ (by omega)
  have HRT:=Go.Lib.hid hrt
  have HAV:=Go.Lib.hid hav
  clear hrt hav hlv q0 q1 q2 q3 q4 q5 q6 r1 r2 r3 r4 r5 r6 r7 r8
  have FL:=fld_level
  go_enter Tryz.func115,Tryz.ntmps115
  go_wp2_with fail
  refine(HRT.out _).mono ?_
  rintro e w1 ⟨rfl,hb⟩
  have hB:Below w.heap.size w w1:=bl_then k2 hb
  obtain⟨c0,c1,c2,c3,c4,c5⟩:=b6 (w.heap.size) k l d b cc o hb
  have c6:=bl_cell (v:=.int .i64 at_) hb (show World.cell? _ ⟨w.heap.size+1,0,none⟩=_ by go_simp)
  have c7:=bl_cell (v:=.int .i64 level) hb (show World.cell? _ ⟨w.heap.size+1,1,none⟩=_ by go_simp)
  have c8:=bl_cell (v:=.int .i64 held) hb (show World.cell? _ ⟨w.heap.size+1,2,none⟩=_ by go_simp)
  have c9:=bl_cell (v:=.slice a 0 c) hb (show World.cell? _ ⟨w.heap.size+1,3,none⟩=_ by go_simp)
  clear hb HRT
  go_wp2_with fail
  refine wp_region_held_drew (S:=fun w'=>P6 w' (w.heap.size) k l d b cc o (S4 w' (w.heap.size+1) at_ level held a 0 c (Below w.heap.size w w'))) (by kernel_rfl) ?_ (fun hHeld=>?_)
  ·exact⟨c0,c1,c2,c3,c4,c5,c6,c7,c8,c9,bl_drew hB⟩
  try simp only[Act.put,List.setIfInBounds_toArray,List.set_cons_zero,List.set_cons_succ]
  all_goals refine tkx 0 ?_
  all_goals refine tkx 1 ?_
  all_goals refine tkx 2 ?_
  all_goals refine tkx 3 ?_
  all_goals refine tkx 4 ?_
  all_goals refine tkx 5 ?_
  all_goals refine tkx 6 ?_
  all_goals refine tkx 7 ?_
  all_goals((refine callH (i:=8) rfl hHeld (fun W hW K hK=>?_);clear hHeld;(try dsimp only at hW);go_simp;refine(HAV.out _).mono ?_;rintro e w1 ⟨rfl,hb⟩;go_wp2_with fail;refine hK.out _ _ ?_ (fun hHeld=>?_);(focus((try dsimp only);(obtain⟨h0,h1,h2,h3,h4,h5,h6,h7,h8,h9,hB'⟩:=hW;exact⟨bl_cell hb h0,bl_cell hb h1,bl_cell hb h2,bl_cell hb h3,bl_cell hb h4,bl_cell hb h5,bl_cell hb h6,bl_cell hb h7,bl_cell hb h8,bl_cell hb h9,bl_then hB' hb⟩)));clear hK K;try simp only[Act.put,List.setIfInBounds_toArray,List.set_cons_zero,List.set_cons_succ]))
  all_goals refine tkx 9 ?_
  all_goals refine tkx 10 ?_
  all_goals refine tkx 11 ?_
  all_goals(refine wpAnyH_done (by kernel_rfl) ?_ _)
  obtain⟨-,-,-,-,-,-,-,-,-,-,hE⟩:=hHeld
  repeat' (first|go_skip|go_guarded|go_step|go_upon)
  go_ret
  exact⟨rfl,hE⟩
 ·rw[if_neg h]
  rw[decide_eq_false h] at hrt
  clear h hav
  unfold St.v Pol.v at *
  have HRT:=Go.Lib.hid hrt
  clear hrt
  go_enter Tryz.func115,Tryz.ntmps115
  go_wp2_with fail
  refine(HRT.out _).mono ?_
  rintro e w1 ⟨rfl,hb⟩
  have hB:Below w.heap.size w w1:=bl_then k2 hb
  clear hb HRT
  go_wp2
  go_ret
  exact⟨rfl,hB⟩

theorem cuntil_any (p:Pol) (s:St) (a:Option Addr) (n c:Nat) (now:Int) (hn:s.log.length=n) (w:World):Calls Tryz.prog 117 #[p.v,s.v a n c,.int .i64 now] w fun e w'=>e=.returned (.int .i64 (untilC p s now))∧Below w.heap.size w w':=by
 have hrt:=cright_any p s a n c hn
 have hav:=cadv_any p s a n c now hn
 unfold untilC
 by_cases h:rightC p s∧s.held≤0
 ·rw [if_pos h]
  obtain⟨h,hh⟩:=h
  rw[decide_eq_true h] at hrt
  have hlv:=advC_level p s now h
  have r8:=h.2.2.2.2.2.2.2.2
  have q2:=h.1.2.2.1
  have q4:=h.1.2.2.2.2.1
  rw[r8] at hn
  subst hn
  have hnx:=fun w=>cnext_any p.kind p.limit p.period p.burst p.cap p.opn (advC p s now).at_ w q2 q4 hlv.2.2.2.1
  generalize advC p s now=A at *
  obtain⟨aat,alv,ahd,alg⟩:=A
  clear h r8
  obtain⟨k,l,d,b,cc,o⟩:=p
  obtain⟨at_,level,held,lg⟩:=s
  unfold St.v Pol.v at *
  dsimp only[List.length_nil] at *
  have HRT:=Go.Lib.hid hrt
  have HAV:=Go.Lib.hid hav
  have HNX:=Go.Lib.hid hnx
  clear hrt hav hnx hlv
  by_cases hx:0<alv
  ·rw[if_pos hx]
   go_enter Tryz.func117,Tryz.ntmps117
   go_wp2_with fail
   refine(HRT.out _).mono ?_
   rintro e w1 ⟨rfl,hb⟩
   have hB:Below w.heap.size w w1:=bl_then k2 hb
   obtain⟨c0,c1,c2,c3,c4,c5⟩:=b6 (w.heap.size) k l d b cc o hb
   have c6:=bl_cell (v:=.int .i64 at_) hb (show World.cell? _ ⟨w.heap.size+1,0,none⟩=_ by go_simp)
   have c7:=bl_cell (v:=.int .i64 level) hb (show World.cell? _ ⟨w.heap.size+1,1,none⟩=_ by go_simp)
   have c8:=bl_cell (v:=.int .i64 held) hb (show World.cell? _ ⟨w.heap.size+1,2,none⟩=_ by go_simp)
   have c9:=bl_cell (v:=.slice a 0 c) hb (show World.cell? _ ⟨w.heap.size+1,3,none⟩=_ by go_simp)
   clear hb HRT
   go_wp2_with fail
   refine(HAV.out _).mono ?_
   rintro e w2 ⟨rfl,hb⟩
   have d0:=bl_cell (bl_alloc hb (.cells #[.int .i64 aat,.int .i64 alv,.int .i64 ahd,.slice none 0 0] 26)) c0
   have d1:=bl_cell (bl_alloc hb (.cells #[.int .i64 aat,.int .i64 alv,.int .i64 ahd,.slice none 0 0] 26)) c1
   have d2:=bl_cell (bl_alloc hb (.cells #[.int .i64 aat,.int .i64 alv,.int .i64 ahd,.slice none 0 0] 26)) c2
   have d3:=bl_cell (bl_alloc hb (.cells #[.int .i64 aat,.int .i64 alv,.int .i64 ahd,.slice none 0 0] 26)) c3
   have d4:=bl_cell (bl_alloc hb (.cells #[.int .i64 aat,.int .i64 alv,.int .i64 ahd,.slice none 0 0] 26)) c4
   have d5:=bl_cell (bl_alloc hb (.cells #[.int .i64 aat,.int .i64 alv,.int .i64 ahd,.slice none 0 0] 26)) c5
   have d6:=bl_cell (bl_alloc hb (.cells #[.int .i64 aat,.int .i64 alv,.int .i64 ahd,.slice none 0 0] 26)) c6
   have d7:=bl_cell (bl_alloc hb (.cells #[.int .i64 aat,.int .i64 alv,.int .i64 ahd,.slice none 0 0] 26)) c7
   have d8:=bl_cell (bl_alloc hb (.cells #[.int .i64 aat,.int .i64 alv,.int .i64 ahd,.slice none 0 0] 26)) c8
   have d9:=bl_cell (bl_alloc hb (.cells #[.int .i64 aat,.int .i64 alv,.int .i64 ahd,.slice none 0 0] 26)) c9
   have dB:=bl_then hB hb
   clear hB hb c0 c1 c2 c3 c4 c5 c6 c7 c8 c9
   go_wp2_with fail
   refine(HNX.out _).mono ?_
   rintro e w3 ⟨rfl,hb⟩
   go_wp2_with fail
   go_ret
   exact⟨rfl,bl_then (bl_alloc dB _) hb⟩
  ·rw[if_neg hx]
   go_enter Tryz.func117,Tryz.ntmps117
   go_wp2_with fail
   refine(HRT.out _).mono ?_
   rintro e w1 ⟨rfl,hb⟩
   have hB:Below w.heap.size w w1:=bl_then k2 hb
   obtain⟨c0,c1,c2,c3,c4,c5⟩:=b6 (w.heap.size) k l d b cc o hb
   have c6:=bl_cell (v:=.int .i64 at_) hb (show World.cell? _ ⟨w.heap.size+1,0,none⟩=_ by go_simp)
   have c7:=bl_cell (v:=.int .i64 level) hb (show World.cell? _ ⟨w.heap.size+1,1,none⟩=_ by go_simp)
   have c8:=bl_cell (v:=.int .i64 held) hb (show World.cell? _ ⟨w.heap.size+1,2,none⟩=_ by go_simp)
   have c9:=bl_cell (v:=.slice a 0 c) hb (show World.cell? _ ⟨w.heap.size+1,3,none⟩=_ by go_simp)
   clear hb HRT
   go_wp2_with fail
   refine(HAV.out _).mono ?_
   rintro e w2 ⟨rfl,hb⟩
   have d0:=bl_cell (bl_alloc hb (.cells #[.int .i64 aat,.int .i64 alv,.int .i64 ahd,.slice none 0 0] 26)) c0
   have d1:=bl_cell (bl_alloc hb (.cells #[.int .i64 aat,.int .i64 alv,.int .i64 ahd,.slice none 0 0] 26)) c1
   have d2:=bl_cell (bl_alloc hb (.cells #[.int .i64 aat,.int .i64 alv,.int .i64 ahd,.slice none 0 0] 26)) c2
   have d3:=bl_cell (bl_alloc hb (.cells #[.int .i64 aat,.int .i64 alv,.int .i64 ahd,.slice none 0 0] 26)) c3
   have d4:=bl_cell (bl_alloc hb (.cells #[.int .i64 aat,.int .i64 alv,.int .i64 ahd,.slice none 0 0] 26)) c4
   have d5:=bl_cell (bl_alloc hb (.cells #[.int .i64 aat,.int .i64 alv,.int .i64 ahd,.slice none 0 0] 26)) c5
   have d6:=bl_cell (bl_alloc hb (.cells #[.int .i64 aat,.int .i64 alv,.int .i64 ahd,.slice none 0 0] 26)) c6
   have d7:=bl_cell (bl_alloc hb (.cells #[.int .i64 aat,.int .i64 alv,.int .i64 ahd,.slice none 0 0] 26)) c7
   have d8:=bl_cell (bl_alloc hb (.cells #[.int .i64 aat,.int .i64 alv,.int .i64 ahd,.slice none 0 0] 26)) c8
   have d9:=bl_cell (bl_alloc hb (.cells #[.int .i64 aat,.int .i64 alv,.int .i64 ahd,.slice none 0 0] 26)) c9
   have dB:=bl_then hB hb
   clear hB hb c0 c1 c2 c3 c4 c5 c6 c7 c8 c9
   go_wp2_with fail
   go_ret
   exact⟨rfl,bl_alloc dB _⟩
 ·rw [if_neg h]
  by_cases h1:rightC p s
  ·rw [decide_eq_true h1] at hrt
   have hh:0<s.held:=by
    by_cases h2:0<s.held
    ·exact h2
    ·exact absurd ⟨h1,by omega⟩ h
   clear h h1 hav
   obtain⟨k,l,d,b,cc,o⟩:=p
   obtain⟨at_,level,held,lg⟩:=s
   unfold St.v Pol.v at *
   dsimp only at *
   have HRT:=Go.Lib.hid hrt
   clear hrt
   go_enter Tryz.func117,Tryz.ntmps117
   go_wp2_with fail
   refine(HRT.out _).mono ?_
   rintro e w1 ⟨rfl,hb⟩
   have hB:Below w.heap.size w w1:=bl_then k2 hb
   obtain⟨c0,c1,c2,c3,c4,c5⟩:=b6 (w.heap.size) k l d b cc o hb
   have c6:=bl_cell (v:=.int .i64 at_) hb (show World.cell? _ ⟨w.heap.size+1,0,none⟩=_ by go_simp)
   have c7:=bl_cell (v:=.int .i64 level) hb (show World.cell? _ ⟨w.heap.size+1,1,none⟩=_ by go_simp)
   have c8:=bl_cell (v:=.int .i64 held) hb (show World.cell? _ ⟨w.heap.size+1,2,none⟩=_ by go_simp)
   have c9:=bl_cell (v:=.slice a n c) hb (show World.cell? _ ⟨w.heap.size+1,3,none⟩=_ by go_simp)
   clear hb HRT
   go_wp2
   go_ret
   exact⟨rfl,hB⟩
  ·rw[decide_eq_false h1] at hrt
   clear h h1 hav
   unfold St.v Pol.v at *
   have HRT:=Go.Lib.hid hrt
   clear hrt
   go_enter Tryz.func117,Tryz.ntmps117
   go_wp2_with fail
   refine(HRT.out _).mono ?_
   rintro e w1 ⟨rfl,hb⟩
   have hB:Below w.heap.size w w1:=bl_then k2 hb
   clear hb HRT
   go_wp2
   go_ret
   exact⟨rfl,hB⟩

theorem meth_start (x : Array Value) (w : World) : (method 85 108 (.agg x) "tapster/limiter.start").run Tryz.prog w = .ok (212, .agg x) w := by kernel_rfl
def doP (p:Pol) (s:St) (x:Ac):St × Bool:=if p.kind=2 then doG p s x else if p.kind=3 then doL p s x else if p.kind=4 then doC p s x else doB p s x
def newP (p:Pol) (now:Int):St:=if p.kind=2 then newG p now else if p.kind=3 then newL p now else if p.kind=4 then newC p now else newB p now
theorem kern_start (p:Pol) (now:Int) (w:World):Calls Tryz.prog 212 #[.agg (kern p.kind),p.v,.int .i64 now] w fun e w'=>e=.returned ((newP p now).v none 0 0)∧Below w.heap.size w w':=by
 unfold kern newP
 by_cases h2:p.kind=2
 ·rw[if_pos h2,if_pos h2];exact made_start _ (fun _ _=>by kernel_rfl) _ _ _ _ _ _ _ p now _ (gnew_any p now) w
 rw[if_neg h2,if_neg h2]
 by_cases h3:p.kind=3
 ·rw[if_pos h3,if_pos h3];exact made_start _ (fun _ _=>by kernel_rfl) _ _ _ _ _ _ _ p now _ (wnew_any p now) w
 rw[if_neg h3,if_neg h3]
 by_cases h4:p.kind=4
 ·rw[if_pos h4,if_pos h4];exact made_start _ (fun _ _=>by kernel_rfl) _ _ _ _ _ _ _ p now _ (cnew_any p now) w
 rw[if_neg h4,if_neg h4]
 exact made_start _ (fun _ _=>by kernel_rfl) _ _ _ _ _ _ _ p now _ (bnew_any p now) w
theorem lnew_any (p:Pol) (now:Int) (w:World):Calls Tryz.prog 24 #[p.v,.int .i64 now] w fun e w'=>e=.returned ((newP p now).v none 0 0)∧Below w.heap.size w w':=by
 have hof:=of_any p
 have hkc:=kern_start p now
 have hme:=meth_start
 generalize kern p.kind=KV at *
 generalize newP p now=R at *
 obtain⟨k,l,d,b,cc,o⟩:=p
 obtain⟨rat,rlv,rhd,rL⟩:=R
 unfold St.v Pol.v at *
 dsimp only at *
 have HOF:=Go.Lib.hid hof
 have HKC:=Go.Lib.hid hkc
 clear hof hkc
 go_enter Tryz.func24,Tryz.ntmps24
 go_wp2_with fail
 refine wp_abs (S0:=fun w'=>P6 w' (w.heap.size) k l d b cc o (ResB w' (w.heap.size+1)∧Below w.heap.size w w')) ⟨by go_simp,by go_simp,by go_simp,by go_simp,by go_simp,by go_simp,res_new _ _ _ _ _ _ (by simp),k2⟩ ?_
 rintro W ⟨c0,c1,c2,c3,c4,c5,hR,hB⟩
 refine wp_region_held_drew (S:=fun w'=>P6 w' (w.heap.size) k l d b cc o (ResB w' (w.heap.size+1)∧Below w.heap.size w w')) (by kernel_rfl) ?_ (fun hHeld=>?_)
 ·exact⟨c0,c1,c2,c3,c4,c5,hR,bl_drew hB⟩
 try simp only[Act.put,List.setIfInBounds_toArray,List.set_cons_zero,List.set_cons_succ]
 all_goals refine tkx 0 ?_
 all_goals refine tkx 2 ?_
 all_goals refine tkx 3 ?_
 all_goals((refine callH (i:=1) rfl hHeld (fun W hW K hK=>?_);clear hHeld;(try dsimp only at hW);go_simp;refine(HOF.out _).mono ?_;rintro e w1 ⟨rfl,hb⟩;go_wp2_with fail;refine hK.out _ _ ?_ (fun hHeld=>?_);(focus((try dsimp only);(obtain⟨h0,h1,h2,h3,h4,h5,hr',hB'⟩:=hW;exact⟨bl_cell hb h0,bl_cell hb h1,bl_cell hb h2,bl_cell hb h3,bl_cell hb h4,bl_cell hb h5,res_bl hr' hb,bl_then hB' hb⟩)));clear hK K;try simp only[Act.put,List.setIfInBounds_toArray,List.set_cons_zero,List.set_cons_succ]))
 all_goals((refine callH (i:=4) rfl hHeld (fun W hW K hK=>?_);clear hHeld;(try dsimp only at hW);go_simp;refine(HKC.out _).mono ?_;rintro e w1 ⟨rfl,hb⟩;go_wp2_with fail;refine hK.out _ _ ?_ (fun hHeld=>?_);(focus((try dsimp only);(obtain⟨h0,h1,h2,h3,h4,h5,hr',hB'⟩:=hW;exact⟨bl_cell hb h0,bl_cell hb h1,bl_cell hb h2,bl_cell hb h3,bl_cell hb h4,bl_cell hb h5,res_bl hr' hb,bl_then hB' hb⟩)));clear hK K;try simp only[Act.put,List.setIfInBounds_toArray,List.set_cons_zero,List.set_cons_succ]))
 all_goals((refine callH (i:=5) rfl hHeld (fun W hW K hK=>?_);clear hHeld;(try dsimp only at hW);obtain⟨h0,h1,h2,h3,h4,h5,hr',hB'⟩:=hW;obtain⟨f0,f1,f2,f3,u0,u1,u2,u3,i0,i1,i2,i3⟩:=res_all hr';go_simp;refine hK.out _ _ ?_ (fun hHeld=>?_);(focus((try dsimp only);(have e0:w.heap.size+1≠w.heap.size:=(by omega);exact⟨far4 h0 e0,far4 h1 e0,far4 h2 e0,far4 h3 e0,far4 h4 e0,far4 h5 e0,res4 hr',bl4 hB' (by omega)⟩)));clear hK K;try simp only[Act.put,List.setIfInBounds_toArray,List.set_cons_zero,List.set_cons_succ]))
 all_goals(refine wpAnyH_done (by kernel_rfl) ?_ _)
 obtain⟨-,-,-,-,-,-,-,hE⟩:=hHeld
 repeat' (first|go_skip|go_guarded|go_step|go_upon)
 (try simp only[Exit.inBlock,Exit.then])
 refine bodyPost_ret (results_state rfl _ _ (by rfl) (set4 _ _ _ _ i0 i1 i2 i3)) rfl ⟨by first|rfl|simp,hE⟩
theorem buntil_any (p:Pol) (s:St) (a:Option Addr) (n c:Nat) (now:Int) (hn:s.log.length=n) (w:World):Calls Tryz.prog 125 #[p.v,s.v a n c,.int .i64 now] w fun e w'=>e=.returned (.int .i64 (untilB p s now))∧Below w.heap.size w w':=by
 have hrt:=bright_any p s a n c hn
 have hav:=badv_any p s a n c now hn
 unfold untilB
 by_cases h:rightB p s∧s.held≤0
 ·rw[if_pos h]
  obtain⟨h,hh⟩:=h
  rw[decide_eq_true h] at hrt
  have hok:=h.1
  have hlv:=advB_level p s now h
  have r7:=h.2.2.2.2.2.2.2
  have r3:=h.2.2.2.1
  rw[r7] at hn
  subst hn
  have hla:=fun m w hm=>blasts_any p m w hok.2.1 hok.2.2.2.2.1 hm
  generalize advB p s now=A at *
  obtain⟨aat,alv,ahd,alg⟩:=A
  clear h r7
  obtain⟨k,l,d,b,cc,o⟩:=p
  obtain⟨at_,level,held,lg⟩:=s
  unfold St.v Pol.v at *
  dsimp only[List.length_nil] at *
  obtain⟨q0,q1,q2,q3,q4,q5,q6,q7⟩:=hok
  dsimp only at *
  have hM:b*d≤1152921504606846976:=prod_le (by omega) (by omega) (by omega)
  have hM0:0≤b*d:=Int.mul_nonneg (by omega) (by omega)
  have hw1:IntKind.i64.wrap (b*d)=b*d:=IntWalk.i64_in _ (by omega)
  have hw2:IntKind.i64.wrap (b*d - alv)=b*d - alv:=IntWalk.i64_in _ (by omega)
  have hla':=fun w=>hla (b*d - alv) w (by omega)
  generalize ceilD (b*d - alv) l=R at *
  have HRT:=Go.Lib.hid hrt
  have HAV:=Go.Lib.hid hav
  have HLA:=Go.Lib.hid hla'
  have FL:=fld_level
  clear hrt hav hlv hla hla' hM hM0 q0 q1 q2 q3 q4 q5 q6 q7 r3
  go_enter Tryz.func125,Tryz.ntmps125
  go_wp2_with fail
  refine(HRT.out _).mono ?_
  rintro e w1 ⟨rfl,hb⟩
  have hB:Below w.heap.size w w1:=bl_then k2 hb
  obtain⟨c0,c1,c2,c3,c4,c5⟩:=b6 (w.heap.size) k l d b cc o hb
  have c6:=bl_cell (v:=.int .i64 at_) hb (show World.cell? _ ⟨w.heap.size+1,0,none⟩=_ by go_simp)
  have c7:=bl_cell (v:=.int .i64 level) hb (show World.cell? _ ⟨w.heap.size+1,1,none⟩=_ by go_simp)
  have c8:=bl_cell (v:=.int .i64 held) hb (show World.cell? _ ⟨w.heap.size+1,2,none⟩=_ by go_simp)
  have c9:=bl_cell (v:=.slice a 0 c) hb (show World.cell? _ ⟨w.heap.size+1,3,none⟩=_ by go_simp)
  clear hb HRT
  go_wp2_with fail
  refine wp_region_held_drew (S:=fun w'=>P6 w' (w.heap.size) k l d b cc o (S4 w' (w.heap.size+1) at_ level held a 0 c (Below w.heap.size w w'))) (by kernel_rfl) ?_ (fun hHeld=>?_)
  ·exact⟨c0,c1,c2,c3,c4,c5,c6,c7,c8,c9,bl_drew hB⟩
  try simp only[Act.put,List.setIfInBounds_toArray,List.set_cons_zero,List.set_cons_succ]
  all_goals refine tkx 0 ?_
  all_goals refine tkx 1 ?_
  all_goals refine tkx 2 ?_
  all_goals refine tkx 3 ?_
  all_goals refine tkx 4 ?_
  all_goals refine tkx 5 ?_
  all_goals refine tkx 6 ?_
  all_goals refine tkx 7 ?_
  all_goals refine tkx 8 ?_
  all_goals((refine callH (i:=9) rfl hHeld (fun W hW K hK=>?_);clear hHeld;(try dsimp only at hW);go_simp;refine(HAV.out _).mono ?_;rintro e w1 ⟨rfl,hb⟩;go_wp2_with fail;refine hK.out _ _ ?_ (fun hHeld=>?_);(focus((try dsimp only);(obtain⟨h0,h1,h2,h3,h4,h5,h6,h7,h8,h9,hB'⟩:=hW;exact⟨bl_cell hb h0,bl_cell hb h1,bl_cell hb h2,bl_cell hb h3,bl_cell hb h4,bl_cell hb h5,bl_cell hb h6,bl_cell hb h7,bl_cell hb h8,bl_cell hb h9,bl_then hB' hb⟩)));clear hK K;try simp only[Act.put,List.setIfInBounds_toArray,List.set_cons_zero,List.set_cons_succ]))
  all_goals refine tkx 10 ?_
  all_goals refine tkx 11 ?_
  all_goals((refine callH (i:=12) rfl hHeld (fun W hW K hK=>?_);clear hHeld;(try dsimp only at hW);go_simp;refine(HLA.out _).mono ?_;rintro e w1 ⟨rfl,hb⟩;go_wp2_with fail;refine hK.out _ _ ?_ (fun hHeld=>?_);(focus((try dsimp only);(obtain⟨h0,h1,h2,h3,h4,h5,h6,h7,h8,h9,hB'⟩:=hW;exact⟨bl_cell hb h0,bl_cell hb h1,bl_cell hb h2,bl_cell hb h3,bl_cell hb h4,bl_cell hb h5,bl_cell hb h6,bl_cell hb h7,bl_cell hb h8,bl_cell hb h9,bl_then hB' hb⟩)));clear hK K;try simp only[Act.put,List.setIfInBounds_toArray,List.set_cons_zero,List.set_cons_succ]))
  all_goals refine tkx 13 ?_
  all_goals(refine wpAnyH_done (by kernel_rfl) ?_ _)
  obtain⟨-,-,-,-,-,-,-,-,-,-,hE⟩:=hHeld
  go_wp2
  go_ret
  exact⟨rfl,hE⟩
 ·rw [if_neg h]
  by_cases h1:rightB p s
  ·rw [decide_eq_true h1] at hrt
   have hh:0<s.held:=by
    have:=h1.2.2.2.1
    by_cases h2:0<s.held
    ·exact h2
    ·exact absurd ⟨h1,by omega⟩ h
   clear h h1 hav
   obtain⟨k,l,d,b,cc,o⟩:=p
   obtain⟨at_,level,held,lg⟩:=s
   unfold St.v Pol.v at *
   dsimp only at *
   have HRT:=Go.Lib.hid hrt
   clear hrt
   go_enter Tryz.func125,Tryz.ntmps125
   go_wp2_with fail
   refine(HRT.out _).mono ?_
   rintro e w1 ⟨rfl,hb⟩
   have hB:Below w.heap.size w w1:=bl_then k2 hb
   obtain⟨c0,c1,c2,c3,c4,c5⟩:=b6 (w.heap.size) k l d b cc o hb
   have c6:=bl_cell (v:=.int .i64 at_) hb (show World.cell? _ ⟨w.heap.size+1,0,none⟩=_ by go_simp)
   have c7:=bl_cell (v:=.int .i64 level) hb (show World.cell? _ ⟨w.heap.size+1,1,none⟩=_ by go_simp)
   have c8:=bl_cell (v:=.int .i64 held) hb (show World.cell? _ ⟨w.heap.size+1,2,none⟩=_ by go_simp)
   have c9:=bl_cell (v:=.slice a n c) hb (show World.cell? _ ⟨w.heap.size+1,3,none⟩=_ by go_simp)
   clear hb HRT
   go_wp2
   go_ret
   exact⟨rfl,hB⟩
  ·rw[decide_eq_false h1] at hrt
   clear h h1 hav
   unfold St.v Pol.v at *
   have HRT:=Go.Lib.hid hrt
   clear hrt
   go_enter Tryz.func125,Tryz.ntmps125
   go_wp2_with fail
   refine(HRT.out _).mono ?_
   rintro e w1 ⟨rfl,hb⟩
   have hB:Below w.heap.size w w1:=bl_then k2 hb
   clear hb HRT
   go_wp2
   go_ret
   exact⟨rfl,hB⟩
theorem guntil_any (p:Pol) (s:St) (a:Option Addr) (n c:Nat) (now:Int) (hn:s.log.length=n) (w:World):Calls Tryz.prog 101 #[p.v,s.v a n c,.int .i64 now] w fun e w'=>e=.returned (.int .i64 (untilG p s now))∧Below w.heap.size w w':=by
 have hrt:=gright_any p s a n c hn
 have hav:=gadv_any p s a n c now hn
 unfold untilG
 by_cases h:rightG p s∧s.held≤0
 ·rw[if_pos h]
  obtain⟨h,hh⟩:=h
  rw[decide_eq_true h] at hrt
  have hok:=h.1
  have hlv:=advG_level p s now h
  have r7:=h.2.2.2.2.2.2.2
  rw[r7] at hn
  subst hn
  have hla:=fun m w hm=>glasts_any p m w hok.2.2.1 hok.2.2.2.1 hm
  generalize advG p s now=A at *
  obtain⟨aat,alv,ahd,alg⟩:=A
  clear h r7
  obtain⟨k,l,d,b,cc,o⟩:=p
  obtain⟨at_,level,held,lg⟩:=s
  unfold St.v Pol.v at *
  dsimp only[List.length_nil] at *
  have hla':=fun w=>hla alv w (by omega)
  generalize ceilD alv l=R at *
  have HRT:=Go.Lib.hid hrt
  have HAV:=Go.Lib.hid hav
  have HLA:=Go.Lib.hid hla'
  have FL:=fld_level
  clear hrt hav hlv hla hla' hok
  go_enter Tryz.func101,Tryz.ntmps101
  go_wp2_with fail
  refine(HRT.out _).mono ?_
  rintro e w1 ⟨rfl,hb⟩
  have hB:Below w.heap.size w w1:=bl_then k2 hb
  obtain⟨c0,c1,c2,c3,c4,c5⟩:=b6 (w.heap.size) k l d b cc o hb
  have c6:=bl_cell (v:=.int .i64 at_) hb (show World.cell? _ ⟨w.heap.size+1,0,none⟩=_ by go_simp)
  have c7:=bl_cell (v:=.int .i64 level) hb (show World.cell? _ ⟨w.heap.size+1,1,none⟩=_ by go_simp)
  have c8:=bl_cell (v:=.int .i64 held) hb (show World.cell? _ ⟨w.heap.size+1,2,none⟩=_ by go_simp)
  have c9:=bl_cell (v:=.slice a 0 c) hb (show World.cell? _ ⟨w.heap.size+1,3,none⟩=_ by go_simp)
  clear hb HRT
  go_wp2_with fail
  refine wp_region_held_drew (S:=fun w'=>P6 w' (w.heap.size) k l d b cc o (S4 w' (w.heap.size+1) at_ level held a 0 c (Below w.heap.size w w'))) (by kernel_rfl) ?_ (fun hHeld=>?_)
  ·exact⟨c0,c1,c2,c3,c4,c5,c6,c7,c8,c9,bl_drew hB⟩
  try simp only[Act.put,List.setIfInBounds_toArray,List.set_cons_zero,List.set_cons_succ]
  all_goals refine tkx 0 ?_
  all_goals refine tkx 1 ?_
  all_goals refine tkx 2 ?_
  all_goals refine tkx 3 ?_
  all_goals((refine callH (i:=4) rfl hHeld (fun W hW K hK=>?_);clear hHeld;(try dsimp only at hW);go_simp;refine(HAV.out _).mono ?_;rintro e w1 ⟨rfl,hb⟩;go_wp2_with fail;refine hK.out _ _ ?_ (fun hHeld=>?_);(focus((try dsimp only);(obtain⟨h0,h1,h2,h3,h4,h5,h6,h7,h8,h9,hB'⟩:=hW;exact⟨bl_cell hb h0,bl_cell hb h1,bl_cell hb h2,bl_cell hb h3,bl_cell hb h4,bl_cell hb h5,bl_cell hb h6,bl_cell hb h7,bl_cell hb h8,bl_cell hb h9,bl_then hB' hb⟩)));clear hK K;try simp only[Act.put,List.setIfInBounds_toArray,List.set_cons_zero,List.set_cons_succ]))
  all_goals refine tkx 5 ?_
  all_goals((refine callH (i:=6) rfl hHeld (fun W hW K hK=>?_);clear hHeld;(try dsimp only at hW);go_simp;refine(HLA.out _).mono ?_;rintro e w1 ⟨rfl,hb⟩;go_wp2_with fail;refine hK.out _ _ ?_ (fun hHeld=>?_);(focus((try dsimp only);(obtain⟨h0,h1,h2,h3,h4,h5,h6,h7,h8,h9,hB'⟩:=hW;exact⟨bl_cell hb h0,bl_cell hb h1,bl_cell hb h2,bl_cell hb h3,bl_cell hb h4,bl_cell hb h5,bl_cell hb h6,bl_cell hb h7,bl_cell hb h8,bl_cell hb h9,bl_then hB' hb⟩)));clear hK K;try simp only[Act.put,List.setIfInBounds_toArray,List.set_cons_zero,List.set_cons_succ]))
  all_goals refine tkx 7 ?_
  all_goals(refine wpAnyH_done (by kernel_rfl) ?_ _)
  obtain⟨-,-,-,-,-,-,-,-,-,-,hE⟩:=hHeld
  go_wp2_with fail
  go_ret
  exact⟨rfl,hE⟩
 ·rw [if_neg h]
  by_cases h1:rightG p s
  ·rw [decide_eq_true h1] at hrt
   have hh:0<s.held:=by
    by_cases h2:0<s.held
    ·exact h2
    ·exact absurd ⟨h1,by omega⟩ h
   clear h h1 hav
   obtain⟨k,l,d,b,cc,o⟩:=p
   obtain⟨at_,level,held,lg⟩:=s
   unfold St.v Pol.v at *
   dsimp only at *
   have HRT:=Go.Lib.hid hrt
   clear hrt
   go_enter Tryz.func101,Tryz.ntmps101
   go_wp2_with fail
   refine(HRT.out _).mono ?_
   rintro e w1 ⟨rfl,hb⟩
   have hB:Below w.heap.size w w1:=bl_then k2 hb
   obtain⟨c0,c1,c2,c3,c4,c5⟩:=b6 (w.heap.size) k l d b cc o hb
   have c6:=bl_cell (v:=.int .i64 at_) hb (show World.cell? _ ⟨w.heap.size+1,0,none⟩=_ by go_simp)
   have c7:=bl_cell (v:=.int .i64 level) hb (show World.cell? _ ⟨w.heap.size+1,1,none⟩=_ by go_simp)
   have c8:=bl_cell (v:=.int .i64 held) hb (show World.cell? _ ⟨w.heap.size+1,2,none⟩=_ by go_simp)
   have c9:=bl_cell (v:=.slice a n c) hb (show World.cell? _ ⟨w.heap.size+1,3,none⟩=_ by go_simp)
   clear hb HRT
   go_wp2
   go_ret
   exact⟨rfl,hB⟩
  ·rw[decide_eq_false h1] at hrt
   clear h h1 hav
   unfold St.v Pol.v at *
   have HRT:=Go.Lib.hid hrt
   clear hrt
   go_enter Tryz.func101,Tryz.ntmps101
   go_wp2_with fail
   refine(HRT.out _).mono ?_
   rintro e w1 ⟨rfl,hb⟩
   have hB:Below w.heap.size w w1:=bl_then k2 hb
   clear hb HRT
   go_wp2
   go_ret
   exact⟨rfl,hB⟩
theorem lastT_get:∀ (L:List (Int × Int)) (m:Nat),L.length=m+1→lastT L=(L.getD m (0,0)).1
 | [],m,h=>by simp at h
 | [e],m,h=>by
  have:m=0:=by simpa using h.symm
  subst this
  rfl
 | e :: f :: l,m,h=>by
  cases m with
  | zero=>simp at h
  | succ m =>
   show lastT (f :: l)=_
   rw[lastT_get (f :: l) m (by simpa using h)]
   simp
theorem wuntil_any (p:Pol) (s:St) (a:Option Addr) (n c:Nat) (now:Int) (w:World) (hlog:LogAt w a n c s.log):Calls Tryz.prog 109 #[p.v,s.v a n c,.int .i64 now] w fun e w'=>e=.returned (.int .i64 (untilL p s now))∧Below w.heap.size w w':=by
 have hrt:=fun W hW=>wright_any p s a n c W hW
 have hav:=fun W hW=>wadv_any p s a n c now W hW
 unfold untilL
 by_cases h:rightL p s∧s.held≤0
 ·rw [if_pos h]
  obtain⟨h,hh⟩:=h
  rw[decide_eq_true h] at hrt
  have hall:=risen_all h.2.2.2.2.2.2.1
  have hsub:=live_sub p.period (up s.at_ (clampT now)) s.log
  have hcr:=clampT_range now
  have hAe:(advL p s now).log=live p.period (up s.at_ (clampT now)) s.log∧0≤(advL p s now).at_∧(advL p s now).at_≤9007199254740992:=by
   have r1:=h.2.1
   have r2:=h.2.2.1
   unfold advL
   rw[if_pos h]
   refine⟨rfl,?_,?_⟩ <;> (dsimp only;unfold up;split <;> omega)
  rw[← hAe.1] at hsub
  obtain⟨⟨q0,q1,q2,q3,q4,q5,q6,q7⟩,r1,r2,r3,r4,r5,r6,r7,r8⟩:=h
  obtain⟨-,hA1,hA2⟩:=hAe
  generalize advL p s now=A at *
  have hent:∀ e ∈ A.log,0≤e.1∧e.1≤9007199254740992:=fun e he=>by have:=hall e (hsub.1 e he);omega
  have hd:1≤p.period∧p.period≤1099511627776:=by omega
  clear hall hsub hcr r1 r2 r3 r4 r6 r7 r8 q0 q1 q2 q3 q4 q5 q6 q7
  obtain⟨k,l,d,b,cc,o⟩:=p
  obtain⟨at_,level,held,L⟩:=s
  obtain⟨aat,alv,ahd,L2⟩:=A
  unfold St.v Pol.v at *
  dsimp only at *
  subst r5
  have HRT:=Go.Lib.hid hrt
  have HAV:=Go.Lib.hid hav
  have HLOG:=Go.Lib.hid hlog
  have HE:=Go.Lib.hid (And.intro hent (And.intro hd (And.intro hA1 hA2)))
  clear hrt hav hlog hent hd hA1 hA2
  go_enter Tryz.func109,Tryz.ntmps109
  go_wp2_with fail
  refine(HRT.out _ (log_bl HLOG.out (bl_alloc (bl_alloc (bl_refl _) _) _))).mono ?_
  rintro e w1 ⟨rfl,hb⟩
  have hB:Below w.heap.size w w1:=bl_then (bl_alloc (bl_alloc (bl_refl _) _) _) hb
  obtain⟨c0,c1,c2,c3,c4,c5⟩:=b6 (w.heap.size) k l d b cc o hb
  have c6:=bl_cell (v:=.int .i64 at_) hb (show World.cell? _ ⟨w.heap.size+1,0,none⟩=_ by go_simp)
  have c7:=bl_cell (v:=.int .i64 0) hb (show World.cell? _ ⟨w.heap.size+1,1,none⟩=_ by go_simp)
  have c8:=bl_cell (v:=.int .i64 held) hb (show World.cell? _ ⟨w.heap.size+1,2,none⟩=_ by go_simp)
  have c9:=bl_cell (v:=.slice a n c) hb (show World.cell? _ ⟨w.heap.size+1,3,none⟩=_ by go_simp)
  have hlg:=log_bl HLOG.out hB
  clear hb HRT HLOG
  go_wp2_with fail
  refine(HAV.out _ hlg).mono ?_
  rintro e w2 ⟨⟨v2,m2,rfl,hown⟩,hb⟩
  obtain⟨a2,cp2,rfl,hl2⟩:=own_log hown
  clear HAV hlg hown
  dsimp only
  have d2:=bl_cell (bl_alloc hb (.cells #[.int .i64 aat,.int .i64 alv,.int .i64 ahd,.slice a2 m2 cp2] 26)) c2
  have dB:=bl_then hB hb
  clear hB hb c0 c1 c2 c3 c4 c5 c6 c7 c8 c9
  cases hm:m2 with
  | zero =>
   subst hm
   have hL2:L2=[]:=List.length_eq_zero_iff.1 hl2.1
   subst hL2
   clear hl2
   go_wp2_with fail
   go_ret
   exact⟨by simp,bl_alloc dB _⟩
  | succ m =>
   subst hm
   have hlen:=hl2.1
   have hval:(L2.getD m (0,0)).1+d - aat=(if L2=[] then 0 else lastT L2+d - aat):=by rw[if_neg (by intro hz;rw[hz] at hlen;simp at hlen),lastT_get L2 m hlen]
   have HV:=Go.Lib.hid hval
   clear hval
   obtain⟨bb,off,rfl,p1,-⟩:=hl2.2.2.2 m (by omega)
   have hml:m<L2.length:=by rw[hlen];exact Nat.lt_succ_self m
   have hmem:L2.getD m (0,0) ∈ L2:=by rw[List.getD_eq_getElem?_getD,List.getElem?_eq_getElem hml];exact List.getElem_mem hml
   have hbd:=HE.out.1 _ hmem
   have hx:=HE.out.2
   have hmm:(m:Int)+1≤9223372036854775807:=by have:=hl2.2.1;have:=hl2.2.2.1;omega
   have x1:=bl_cell (bl_alloc (bl_refl w2) (.cells #[.int .i64 aat,.int .i64 alv,.int .i64 ahd,.slice (some ⟨bb,off,none⟩) (m+1) cp2] 26)) p1
   generalize (L2.getD m (0,0)).1=E at *
   have w1':IntKind.i64.wrap (m:Int)=(m:Int):=IntWalk.i64_in _ (by omega)
   have w2':IntKind.i64.wrap (E+d)=E+d:=IntWalk.i64_in _ (by omega)
   have w3':IntKind.i64.wrap (E+d - aat)=E+d - aat:=IntWalk.i64_in _ (by omega)
   have k0:(0:Int)≤(m:Int):=by omega
   have k1:(m:Int)<(m:Int)+1:=by omega
   have k2:(0:Int)<(m:Int)+1:=by omega
   clear hl2 hlen p1 hml hmem hbd hx HE
   go_wp2_with fail
   refine wp_region_held_drew (S:=fun w'=>w'.cell? ⟨w.heap.size,2,none⟩=some (.int .i64 d)∧S4 w' (w2.heap.size) aat alv ahd (some ⟨bb,off,none⟩) (m+1) cp2 (w'.cell? ⟨bb,off+m*2,none⟩=some (.int .i64 E)∧Below w.heap.size w w')) (by kernel_rfl) ?_ (fun hHeld=>?_)
   ·exact⟨d2,by go_simp,by go_simp,by go_simp,by go_simp,x1,bl_drew (bl_alloc dB _)⟩
   try simp only[Act.put,List.setIfInBounds_toArray,List.set_cons_zero,List.set_cons_succ]
   refine tkx 0 ?_
   refine tkx 1 ?_
   refine tkx 2 ?_
   refine tkx 3 ?_
   refine tkx 4 ?_
   refine tkx 5 ?_
   refine tkx 6 ?_
   refine tkx 7 ?_
   refine tkx 8 ?_
   refine tkx 9 ?_
   refine tkx 10 ?_
   refine tkx 11 ?_
   refine tkx 12 ?_
   refine tkx 13 ?_
   refine wpAnyH_done (by kernel_rfl) ?_ _
   obtain⟨-,-,-,-,-,-,hE⟩:=hHeld
   repeat' (first|go_skip|go_guarded|go_step|go_upon)
   go_ret
   exact⟨congrArg (fun x=>Ending.returned (.int .i64 x)) HV.out,hE⟩
 ·rw [if_neg h]
  by_cases h1:rightL p s
  ·rw [decide_eq_true h1] at hrt
   have hh:0<s.held:=by
    by_cases h2:0<s.held
    ·exact h2
    ·exact absurd ⟨h1,by omega⟩ h
   clear h h1 hav
   obtain⟨k,l,d,b,cc,o⟩:=p
   obtain⟨at_,level,held,L⟩:=s
   unfold St.v Pol.v at *
   dsimp only at *
   have HRT:=Go.Lib.hid hrt
   clear hrt
   go_enter Tryz.func109,Tryz.ntmps109
   go_wp2_with fail
   refine(HRT.out _ (log_bl hlog (bl_alloc (bl_alloc (bl_refl _) _) _))).mono ?_
   rintro e w1 ⟨rfl,hb⟩
   have hB:Below w.heap.size w w1:=bl_then (bl_alloc (bl_alloc (bl_refl _) _) _) hb
   obtain⟨c0,c1,c2,c3,c4,c5⟩:=b6 (w.heap.size) k l d b cc o hb
   have c6:=bl_cell (v:=.int .i64 at_) hb (show World.cell? _ ⟨w.heap.size+1,0,none⟩=_ by go_simp)
   have c7:=bl_cell (v:=.int .i64 level) hb (show World.cell? _ ⟨w.heap.size+1,1,none⟩=_ by go_simp)
   have c8:=bl_cell (v:=.int .i64 held) hb (show World.cell? _ ⟨w.heap.size+1,2,none⟩=_ by go_simp)
   have c9:=bl_cell (v:=.slice a n c) hb (show World.cell? _ ⟨w.heap.size+1,3,none⟩=_ by go_simp)
   clear hb HRT
   go_wp2_with fail
   go_ret
   exact⟨rfl,hB⟩
  ·rw[decide_eq_false h1] at hrt
   clear h h1 hav
   unfold St.v Pol.v at *
   have HRT:=Go.Lib.hid hrt
   clear hrt
   go_enter Tryz.func109,Tryz.ntmps109
   go_wp2_with fail
   refine(HRT.out _ (log_bl hlog (bl_alloc (bl_alloc (bl_refl _) _) _))).mono ?_
   rintro e w1 ⟨rfl,hb⟩
   have hB:Below w.heap.size w w1:=bl_then (bl_alloc (bl_alloc (bl_refl _) _) _) hb
   go_wp2_with fail
   go_ret
   exact⟨rfl,hB⟩
theorem meth_right (x : Array Value) (w : World) : (method 85 108 (.agg x) "tapster/limiter.right").run Tryz.prog w = .ok (210, .agg x) w := by kernel_rfl
theorem meth_until (x : Array Value) (w : World) : (method 85 108 (.agg x) "tapster/limiter.until").run Tryz.prog w = .ok (213, .agg x) w := by kernel_rfl
def rightP (p:Pol) (s:St):Bool:=if p.kind=2 then decide (rightG p s) else if p.kind=3 then decide (rightL p s) else if p.kind=4 then decide (rightC p s) else decide (rightB p s)
def untilP (p:Pol) (s:St) (now:Int):Int:=if p.kind=2 then untilG p s now else if p.kind=3 then untilL p s now else if p.kind=4 then untilC p s now else untilB p s now
def advP (p:Pol) (s:St) (now:Int):St:=if p.kind=2 then advG p s now else if p.kind=3 then advL p s now else if p.kind=4 then advC p s now else advB p s now
theorem kern_right (p:Pol) (s:St) (a:Option Addr) (n c:Nat) (w:World) (hl:LogAt w a n c s.log):Calls Tryz.prog 210 #[.agg (kern p.kind),p.v,s.v a n c] w fun e w'=>e=.returned (.bool (rightP p s))∧Below w.heap.size w w':=by
 unfold kern rightP
 by_cases h2:p.kind=2
 ·rw[if_pos h2,if_pos h2];exact made_right _ (fun _ _=>by kernel_rfl) _ _ _ _ _ _ _ p s a n c _ (fun w hw=>gright_any p s a n c hw.1 w) w hl
 rw[if_neg h2,if_neg h2]
 by_cases h3:p.kind=3
 ·rw[if_pos h3,if_pos h3];exact made_right _ (fun _ _=>by kernel_rfl) _ _ _ _ _ _ _ p s a n c _ (fun w hw=>wright_any p s a n c w hw) w hl
 rw[if_neg h3,if_neg h3]
 by_cases h4:p.kind=4
 ·rw[if_pos h4,if_pos h4];exact made_right _ (fun _ _=>by kernel_rfl) _ _ _ _ _ _ _ p s a n c _ (fun w hw=>cright_any p s a n c hw.1 w) w hl
 rw[if_neg h4,if_neg h4]
 exact made_right _ (fun _ _=>by kernel_rfl) _ _ _ _ _ _ _ p s a n c _ (fun w hw=>bright_any p s a n c hw.1 w) w hl
theorem kern_until (p:Pol) (s:St) (a:Option Addr) (n c:Nat) (now:Int) (w:World) (hl:LogAt w a n c s.log):Calls Tryz.prog 213 #[.agg (kern p.kind),p.v,s.v a n c,.int .i64 now] w fun e w'=>e=.returned (.int .i64 (untilP p s now))∧Below w.heap.size w w':=by
 unfold kern untilP
 by_cases h2:p.kind=2
 ·rw[if_pos h2,if_pos h2];exact made_until _ (fun _ _=>by kernel_rfl) _ _ _ _ _ _ _ p s a n c now _ (fun w hw=>guntil_any p s a n c now hw.1 w) w hl
 rw[if_neg h2,if_neg h2]
 by_cases h3:p.kind=3
 ·rw[if_pos h3,if_pos h3];exact made_until _ (fun _ _=>by kernel_rfl) _ _ _ _ _ _ _ p s a n c now _ (fun w hw=>wuntil_any p s a n c now w hw) w hl
 rw[if_neg h3,if_neg h3]
 by_cases h4:p.kind=4
 ·rw[if_pos h4,if_pos h4];exact made_until _ (fun _ _=>by kernel_rfl) _ _ _ _ _ _ _ p s a n c now _ (fun w hw=>cuntil_any p s a n c now hw.1 w) w hl
 rw[if_neg h4,if_neg h4]
 exact made_until _ (fun _ _=>by kernel_rfl) _ _ _ _ _ _ _ p s a n c now _ (fun w hw=>buntil_any p s a n c now hw.1 w) w hl
theorem lright_any (p:Pol) (s:St) (a:Option Addr) (n c:Nat) (w:World) (hl:LogAt w a n c s.log):Calls Tryz.prog 65 #[p.v,s.v a n c] w fun e w'=>e=.returned (.bool (rightP p s))∧Below w.heap.size w w':=by
 have hof:=of_any p
 have hkc:=fun W hW=>kern_right p s a n c W hW
 have hme:=meth_right
 generalize kern p.kind=KV at *
 generalize rightP p s=R at *
 obtain⟨k,l,d,b,cc,o⟩:=p
 obtain⟨at_,level,held,L⟩:=s
 unfold St.v Pol.v at *
 dsimp only at *
 have HOF:=Go.Lib.hid hof
 have HKC:=Go.Lib.hid hkc
 have HL:=Go.Lib.hid hl
 clear hof hkc hl
 go_enter Tryz.func65,Tryz.ntmps65
 go_wp2_with fail
 refine wp_abs (S0:=fun w'=>P6 w' (w.heap.size) k l d b cc o (S4 w' (w.heap.size+1) at_ level held a n c (LogAt w' a n c L∧Below w.heap.size w w'))) ⟨by go_simp,by go_simp,by go_simp,by go_simp,by go_simp,by go_simp,by go_simp,by go_simp,by go_simp,by go_simp,log_bl HL.out k2,k2⟩ ?_
 rintro W ⟨c0,c1,c2,c3,c4,c5,c6,c7,c8,c9,hLg,hB⟩
 refine wp_region_held_drew (S:=fun w'=>P6 w' (w.heap.size) k l d b cc o (S4 w' (w.heap.size+1) at_ level held a n c (LogAt w' a n c L∧Below w.heap.size w w'))) (by kernel_rfl) ?_ (fun hHeld=>?_)
 ·exact⟨c0,c1,c2,c3,c4,c5,c6,c7,c8,c9,hLg,bl_drew hB⟩
 try simp only[Act.put,List.setIfInBounds_toArray,List.set_cons_zero,List.set_cons_succ]
 all_goals refine tkx 0 ?_
 all_goals refine tkx 2 ?_
 all_goals refine tkx 3 ?_
 all_goals((refine callH (i:=1) rfl hHeld (fun W hW K hK=>?_);clear hHeld;(try dsimp only at hW);go_simp;refine(HOF.out _).mono ?_;rintro e w1 ⟨rfl,hb⟩;go_wp2_with fail;refine hK.out _ _ ?_ (fun hHeld=>?_);(focus((try dsimp only);(obtain⟨h0,h1,h2,h3,h4,h5,h6,h7,h8,h9,hl',hB'⟩:=hW;exact⟨bl_cell hb h0,bl_cell hb h1,bl_cell hb h2,bl_cell hb h3,bl_cell hb h4,bl_cell hb h5,bl_cell hb h6,bl_cell hb h7,bl_cell hb h8,bl_cell hb h9,log_bl hl' hb,bl_then hB' hb⟩)));clear hK K;try simp only[Act.put,List.setIfInBounds_toArray,List.set_cons_zero,List.set_cons_succ]))
 all_goals((refine callH (i:=4) rfl hHeld (fun W hW K hK=>?_);clear hHeld;(try dsimp only at hW);have hwl:=hW.2.2.2.2.2.2.2.2.2.2.1;go_simp;refine(HKC.out _ hwl).mono ?_;rintro e w1 ⟨rfl,hb⟩;go_wp2_with fail;refine hK.out _ _ ?_ (fun hHeld=>?_);(focus((try dsimp only);(obtain⟨h0,h1,h2,h3,h4,h5,h6,h7,h8,h9,hl',hB'⟩:=hW;exact⟨bl_cell hb h0,bl_cell hb h1,bl_cell hb h2,bl_cell hb h3,bl_cell hb h4,bl_cell hb h5,bl_cell hb h6,bl_cell hb h7,bl_cell hb h8,bl_cell hb h9,log_bl hl' hb,bl_then hB' hb⟩)));clear hK K;try simp only[Act.put,List.setIfInBounds_toArray,List.set_cons_zero,List.set_cons_succ]))
 all_goals refine tkx 5 ?_
 all_goals(refine wpAnyH_done (by kernel_rfl) ?_ _)
 obtain⟨-,-,-,-,-,-,-,-,-,-,-,hE⟩:=hHeld
 repeat' (first|go_skip|go_guarded|go_step|go_upon)
 go_ret
 exact⟨rfl,hE⟩

theorem luntil_any (p:Pol) (s:St) (a:Option Addr) (n c:Nat) (now:Int) (w:World) (hl:LogAt w a n c s.log):Calls Tryz.prog 47 #[p.v,s.v a n c,.int .i64 now] w fun e w'=>e=.returned (.int .i64 (untilP p s now))∧Below w.heap.size w w':=by
 have hof:=of_any p
 have hkc:=fun W hW=>kern_until p s a n c now W hW
 have hme:=meth_until
 generalize kern p.kind=KV at *
 generalize untilP p s now=R at *
 obtain⟨k,l,d,b,cc,o⟩:=p
 obtain⟨at_,level,held,L⟩:=s
 unfold St.v Pol.v at *
 dsimp only at *
 have HOF:=Go.Lib.hid hof
 have HKC:=Go.Lib.hid hkc
 have HL:=Go.Lib.hid hl
 clear hof hkc hl
 go_enter Tryz.func47,Tryz.ntmps47
 go_wp2_with fail
 refine wp_abs (S0:=fun w'=>P6 w' (w.heap.size) k l d b cc o (S4 w' (w.heap.size+1) at_ level held a n c (LogAt w' a n c L∧Below w.heap.size w w'))) ⟨by go_simp,by go_simp,by go_simp,by go_simp,by go_simp,by go_simp,by go_simp,by go_simp,by go_simp,by go_simp,log_bl HL.out k2,k2⟩ ?_
 rintro W ⟨c0,c1,c2,c3,c4,c5,c6,c7,c8,c9,hLg,hB⟩
 refine wp_region_held_drew (S:=fun w'=>P6 w' (w.heap.size) k l d b cc o (S4 w' (w.heap.size+1) at_ level held a n c (LogAt w' a n c L∧Below w.heap.size w w'))) (by kernel_rfl) ?_ (fun hHeld=>?_)
 ·exact⟨c0,c1,c2,c3,c4,c5,c6,c7,c8,c9,hLg,bl_drew hB⟩
 try simp only[Act.put,List.setIfInBounds_toArray,List.set_cons_zero,List.set_cons_succ]
 all_goals refine tkx 0 ?_
 all_goals refine tkx 2 ?_
 all_goals refine tkx 3 ?_
 all_goals refine tkx 4 ?_
 all_goals((refine callH (i:=1) rfl hHeld (fun W hW K hK=>?_);clear hHeld;(try dsimp only at hW);go_simp;refine(HOF.out _).mono ?_;rintro e w1 ⟨rfl,hb⟩;go_wp2_with fail;refine hK.out _ _ ?_ (fun hHeld=>?_);(focus((try dsimp only);(obtain⟨h0,h1,h2,h3,h4,h5,h6,h7,h8,h9,hl',hB'⟩:=hW;exact⟨bl_cell hb h0,bl_cell hb h1,bl_cell hb h2,bl_cell hb h3,bl_cell hb h4,bl_cell hb h5,bl_cell hb h6,bl_cell hb h7,bl_cell hb h8,bl_cell hb h9,log_bl hl' hb,bl_then hB' hb⟩)));clear hK K;try simp only[Act.put,List.setIfInBounds_toArray,List.set_cons_zero,List.set_cons_succ]))
 all_goals((refine callH (i:=5) rfl hHeld (fun W hW K hK=>?_);clear hHeld;(try dsimp only at hW);have hwl:=hW.2.2.2.2.2.2.2.2.2.2.1;go_simp;refine(HKC.out _ hwl).mono ?_;rintro e w1 ⟨rfl,hb⟩;go_wp2_with fail;refine hK.out _ _ ?_ (fun hHeld=>?_);(focus((try dsimp only);(obtain⟨h0,h1,h2,h3,h4,h5,h6,h7,h8,h9,hl',hB'⟩:=hW;exact⟨bl_cell hb h0,bl_cell hb h1,bl_cell hb h2,bl_cell hb h3,bl_cell hb h4,bl_cell hb h5,bl_cell hb h6,bl_cell hb h7,bl_cell hb h8,bl_cell hb h9,log_bl hl' hb,bl_then hB' hb⟩)));clear hK K;try simp only[Act.put,List.setIfInBounds_toArray,List.set_cons_zero,List.set_cons_succ]))
 all_goals refine tkx 6 ?_
 all_goals(refine wpAnyH_done (by kernel_rfl) ?_ _)
 obtain⟨-,-,-,-,-,-,-,-,-,-,-,hE⟩:=hHeld
 repeat' (first|go_skip|go_guarded|go_step|go_upon)
 go_ret
 exact⟨rfl,hE⟩

theorem lfresh_any (p:Pol) (s:St) (a:Option Addr) (n c:Nat) (now:Int) (w:World) (hl:LogAt w a n c s.log):Calls Tryz.prog 20 #[p.v,s.v a n c,.int .i64 now] w fun e w'=>e=.returned (.bool (untilP p s now == 0))∧Below w.heap.size w w':=by
 have hof:=of_any p
 have hkc:=fun W hW=>luntil_any p s a n c now W hW
 generalize kern p.kind=KV at *
 generalize untilP p s now=R at *
 obtain⟨k,l,d,b,cc,o⟩:=p
 obtain⟨at_,level,held,L⟩:=s
 unfold St.v Pol.v at *
 dsimp only at *
 have HOF:=Go.Lib.hid hof
 have HKC:=Go.Lib.hid hkc
 have HL:=Go.Lib.hid hl
 clear hof hkc hl
 go_enter Tryz.func20,Tryz.ntmps20
 go_wp2_with fail
 refine(HKC.out _ (log_bl HL.out k2)).mono ?_
 rintro e w1 ⟨rfl,hb⟩
 go_wp2_with fail
 go_ret
 exact⟨by first|rfl|simp,bl_then k2 hb⟩
end Go.Proofs.YtmhikkbdhboodaaGreat

namespace Go.Proofs.YtmhikkbdhboodaaGreat
open Go.RowKit Go.Maps
open Go (strKeys)
open Go.WideMaps (keyOf_string_mk)

/-- Whatever value stands in a map's element reads as itself. -/
def heldRd (v:Value):Option (DataW Value × List MemPlace):=some (.held v,[])

abbrev Key:=List UInt8
variable {β:Type}

section
variable {P:Program} {k t e:TypeId} {w:World} {b n:Nat} {f:β→Value} {m:List (Key × β)}
end

end Go.Proofs.YtmhikkbdhboodaaGreat
