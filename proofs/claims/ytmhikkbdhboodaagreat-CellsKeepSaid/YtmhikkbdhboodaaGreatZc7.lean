/-
  What tapsterref01.Of, cmp, number, times and Mul answer, of numbers that are not below 0.
  What tapsterref05.Advance answers.
  What tapsterref05.Room, Until and Retry answer.
  No condition.
-/
import Derived.Test.YtmhikkbdhboodaaGreatZc1
import Derived.Test.YtmhikkbdhboodaaGreatZc2
import Derived.Test.YtmhikkbdhboodaaGreatZc6
set_option maxHeartbeats 8000000
set_option maxRecDepth 100000
namespace Go.Proofs.YtmhikkbdhboodaaGreat
open Go.RowKit
set_option linter.unusedVariables false
set_option linter.unusedSimpArgs false

/-- Two cells that may be written. -/
def Res2 (w:World) (b:Nat):Prop:=∀ i,i<2→w.frozen? ⟨b,i,none⟩=false∧(w.cell? ⟨b,i,none⟩).isSome=true
theorem res2_new (w:World) (c0 c1:Value) (t:TypeId) {b:Nat} (hb:b=w.heap.size):Res2 (w.alloc (.cells #[c0,c1] t)) b:=by
 subst hb
 intro i hi
 have:i=0∨i=1:=by omega
 rcases this with rfl|rfl <;> exact⟨by simp,by simp⟩
theorem res2_lt {w:World} {b:Nat} (h:Res2 w b):b<w.heap.size:=by
 obtain⟨u,hu⟩:=Option.isSome_iff_exists.1 (h 0 (by omega)).2
 exact World.block_lt_of_cell? w _ hu
theorem res2_bl {w w':World} {b:Nat} (h:Res2 w b) (hb:Below w.heap.size w w'):Res2 w' b:=fun i hi=>by
 have h1:=h i hi
 obtain⟨u,hu⟩:=Option.isSome_iff_exists.1 h1.2
 have hlt:b<w.heap.size:=World.block_lt_of_cell? w _ hu
 exact⟨by rw[hb.frozen (p:=⟨b,i,none⟩) hlt];exact h1.1,by rw[hb.cell (p:=⟨b,i,none⟩) hlt];exact h1.2⟩
theorem res2_set {w:World} {b:Nat} (h:Res2 w b) (a:Addr) (v:Value):Res2 (w.setCell a v) b:=fun i hi=>⟨by rw[World.frozen?_setCell];exact(h i hi).1,isSome_set (h i hi).2⟩
theorem res2_grown {w w':World} {row:Option Nat} {b:Nat} (hg:w.grownBy w' row) (h:Res2 w b) (hne:some b≠row):Res2 w' b:=fun i hi=>by
 have hb:=res2_lt h
 have h1:=h i hi
 simp only[World.cell?,World.frozen?,hg.block b hb hne] at h1 ⊢
 exact h1
theorem res2_all {w:World} {b:Nat} (h:Res2 w b):w.frozen? ⟨b,0,none⟩=false∧w.frozen? ⟨b,1,none⟩=false∧∃ u0 u1,w.cell? ⟨b,0,none⟩=some u0∧w.cell? ⟨b,1,none⟩=some u1:=by
 obtain⟨u0,h0⟩:=Option.isSome_iff_exists.1 (h 0 (by omega)).2
 obtain⟨u1,h1⟩:=Option.isSome_iff_exists.1 (h 1 (by omega)).2
 exact⟨(h 0 (by omega)).1,(h 1 (by omega)).1,u0,u1,h0,h1⟩
/-- The first n cells of a block are these numbers. -/
def RowF (w:World) (g n:Nat) (f:Nat→Int):Prop:=∀ i,i<n→w.cell? ⟨g,i,none⟩=some (.int .i64 (f i))
theorem rowf_bl {w w':World} {g n:Nat} {f:Nat→Int} (h:RowF w g n f) (hb:Below w.heap.size w w'):RowF w' g n f:=fun i hi=>bl_cell hb (h i hi)
def OwnI (w:World) (base:Nat) (v:Value) (n:Nat) (f:Nat→Int):Prop:=w.ownsRow base 3 1 v n ((List.range n).map fun i=>Value.int .i64 (f i))
theorem infoI:(Tryz.prog.info? 3).map (fun i=>(i.zero,i.size,i.bytes))=some (some (.int .i64 0),1,8):=by kernel_rfl
theorem undN:Tryz.prog.underlying 109=some (.slice 3):=by kernel_rfl
theorem rowi_succ (f:Nat→Int) (n:Nat):(List.range (n+1)).map (fun i=>Value.int .i64 (f i))=(List.range n).map (fun i=>Value.int .i64 (f i)) ++ [.int .i64 (f n)]:=by rw[List.range_succ,List.map_append];rfl
theorem owni_row {w:World} {base g n c:Nat} {f:Nat→Int} (h:OwnI w base (.slice (some ⟨g,0,none⟩) n c) n f):RowF w g n f:=fun i hi=>by
 have:=World.ownsRow.cells h (g:=g) rfl i (.int .i64 (f i)) (by rw[List.getElem?_map,List.getElem?_range hi];rfl)
 rw[Addr.add_lit] at this
 simpa using this
theorem owni_form {w:World} {base n:Nat} {v:Value} {f:Nat→Int} (h:OwnI w base v n f):v=.slice none 0 0∧n=0∨∃ g cap,v=.slice (some ⟨g,0,none⟩) n cap:=by
 rcases h.2 with⟨rfl,hx⟩|⟨g,cap,cur,rfl,-⟩
 ·exact .inl ⟨rfl,by simpa using hx⟩
 ·exact .inr ⟨g,cap,rfl⟩
theorem owni_far {w:World} {base n:Nat} {v:Value} {f:Nat→Int} (h:OwnI w base v n f) (a:Addr) (u:Value) (ha:a.block<base):OwnI (w.setCell a u) base v n f:=by
 obtain⟨hl,h⟩:=h
 refine⟨hl,?_⟩
 rcases h with h|⟨g,cap,cur,h1,h2,h3,h4⟩
 ·exact .inl h
 ·refine .inr ⟨g,cap,cur,h1,h2,?_,h4⟩
  rw[Below.heap_setCell _ _ _ _ (by omega)]
  exact h3

def OfPost (n:Int) (w:World) (e:Ending) (w':World):Prop:=∃ g c,e=.returned (.agg #[.slice (some ⟨g,0,none⟩) 4 c,.int .i64 0])∧RowF w' g 4 (digN n)∧Below w.heap.size w w'
theorem results_big {fn:Func} {x:Tmp} (h:fn.results = #[.cell x 149]) (tmps:Array Value) (w:World) {b:Nat} {v0 v1:Value} (hx:tmps.getD x undef=.pointer (some ⟨b,0,none⟩))
  (hc:w.cell? ⟨b,0,none⟩=some v0∧w.cell? ⟨b,1,none⟩=some v1):(results fn tmps).run Tryz.prog w=.ok (.agg #[v0,v1]) w:=by
 obtain⟨i0,i1⟩:=hc
 have hx':tmps[x]?.getD undef=.pointer (some ⟨b,0,none⟩):=by simpa using hx
 unfold results
 simp[h,hx',go_sem,i0,i1]
theorem rof_any (n:Int) (h0:0≤n) (h1:n≤9007199254740992) (w:World):Calls Tryz.prog 170 #[.int .i64 n] w (OfPost n w):=by
 have hq:∀ j,0≤n / pw j∧n / pw j≤9007199254740992:=fun j=>⟨Int.ediv_nonneg h0 (by have:=pw_pos j;omega),Int.le_trans (Int.ediv_le_self _ h0) h1⟩
 have hd:∀ j,n / pw j % 65536=digN n j∧n / pw (j+1)=n / pw j / 65536:=fun j=>⟨rfl,div_pw n j⟩
 have hz:n / pw 0=n:=by show n / 1=n;exact Int.ediv_one n
 generalize hD:digN n=D at *
 generalize hF:(fun j=>n / pw j)=F at *
 have HQ:=Go.Lib.hid (show ∀ j,0≤F j∧F j≤9007199254740992 by rw[← hF];exact hq)
 have HD:=Go.Lib.hid (show ∀ j,F j % 65536=D j∧F (j+1)=F j / 65536 by rw[← hF];exact hd)
 have HZ:=Go.Lib.hid (show n=F 0 by rw[← hF];exact hz.symm)
 obtain⟨i0',hi,hz0,hz1,hz2⟩:=info_parts infoI
 have HI:=Go.Lib.hid (And.intro hi (And.intro hz0 (And.intro hz1 hz2)))
 have HDD:=Go.Lib.hid hD
 have hn0:¬ n<0:=by omega
 clear hq hd hz hF hD hi hz0 hz1 hz2 h0 h1
 go_enter Tryz.func170,Tryz.ntmps170
 go_wp2_with fail
 refine wp_abs (S0:=fun X=>Res2 X w.heap.size∧Res2 X (w.heap.size+1)∧X.cell? ⟨w.heap.size+1,0,none⟩=some (.slice none 0 0)∧X.cell? ⟨w.heap.size+1,1,none⟩=some (.int .i64 0)∧w.heap.size+1+1≤X.heap.size∧Below w.heap.size w X) ⟨res2_bl (res2_new _ _ _ _ rfl) (bl_alloc (bl_refl _) _),res2_new _ _ _ _ (by simp),by go_simp,by go_simp,by simp,bl_alloc (bl_alloc (bl_refl _) _) _⟩ ?_
 rintro W ⟨r2,t2,c0,c1,sz,hB⟩
 go_loopw [0,4] (fun s0 s4 wr=>∃ (j:Nat) (v:Value),s4=.int .i64 j∧j≤4∧s0=.int .i64 (F j)∧Hid (wr.cell? ⟨w.heap.size+1,0,none⟩=some v∧OwnI wr (w.heap.size+1+1) v j D∧Res2 wr w.heap.size∧Res2 wr (w.heap.size+1)∧wr.cell? ⟨w.heap.size+1,1,none⟩=some (.int .i64 0)∧w.heap.size+1+1≤wr.heap.size∧Below w.heap.size w wr))
  (fun _ s4 _=>4 - (intOf s4).toNat)
 case atStart=>exact⟨0,_,rfl,by omega,by rw[← HZ.out],⟨c0,⟨rfl,.inl ⟨rfl,rfl⟩⟩,r2,t2,c1,sz,hB⟩⟩
 case round =>
  clear r2 t2 c0 c1 sz hB
  obtain⟨j,v,rfl,hj,rfl,H⟩:=hrel
  obtain⟨c0,ow,r2,t2,c1,sz,hB⟩:=H.out
  clear H
  by_cases hjn:j<4
  ·obtain ⟨q0,q1⟩:=HQ.out j
   obtain⟨d0,d1⟩:=HD.out j
   have HX:=Go.Lib.hid (And.intro d0 d1)
   generalize F j=m at *
   clear d0 d1
   have k0:(0:Int)≤(j:Int):=by omega
   have k1:(j:Int)<4:=by omega
   have m0:=Int.emod_nonneg m (show(65536:Int)≠0 by decide)
   have m9:=Int.emod_lt_of_pos m (show(0:Int)<65536 by decide)
   have m1:¬ m % 65536<0:=by omega
   have hj1:j+1≤4:=by omega
   obtain⟨f0,f1,u0,u1,i0,i1⟩:=res2_all t2
   have hi:=HI.out
   go_wp2_with (at_builtin;refine wpList_append_own _ rfl _ _ 109 rfl (w.heap.size+1+1) 3 i0' (.int .i64 0) 1 8 undN hi.1 hi.2.1 hi.2.2.1 hi.2.2.2 rfl (by decide) v j ((List.range j).map fun i=>Value.int .i64 (D i)) rfl ?qc0 ⟨wr.heap.size,0,none⟩ 1 1 [.int .i64 (m % 65536)] rfl ?qc1 ?qc2 ?qc3 ?qc4 ?qc5 ?qc6 ?_)
   case qc0=>exact World.ownsRow.alloc ow _
   case qc3=>first|rfl|(intro u hu;simp at hu;subst hu;rfl)
   case qc4=>simp only[maxLen];omega
   case qc5=>omega
   case qc6=>first|omega|(rw[World.size_alloc];omega)
   intro v5 w5 hown hgrow hnil
   have hown2:OwnI w5 (w.heap.size+1+1) v5 (j+1) D:=by unfold OwnI;rw[rowi_succ,← HX.out.1];exact hown
   have hne:∀ gg,Value.ownBlock v=some gg→w.heap.size+1+1≤gg:=fun gg hgg=>(World.ownsRow.lt ow gg hgg).1
   have e0:=grown_cell hgrow (bl_cell (bl_alloc (bl_refl wr) _) c1) (by intro he;have:=hne _ he.symm;omega)
   have eR:=res2_grown hgrow (res2_bl r2 (bl_alloc (bl_refl wr) _)) (by intro he;have:=hne _ he.symm;omega)
   have eT:=res2_grown hgrow (res2_bl t2 (bl_alloc (bl_refl wr) _)) (by intro he;have:=hne _ he.symm;omega)
   have eB:Below w.heap.size w w5:=(hB.alloc (by omega) _).grown hgrow (by rw[World.size_alloc];omega) (fun gg hgg=>by have:=hne gg hgg;omega)
   have eS:w.heap.size+1+1≤w5.heap.size:=by have:=hgrow.size;rw[World.size_alloc] at this;omega
   obtain ⟨g,cap,rfl⟩:∃ g cap,v5=.slice (some ⟨g,0,none⟩) (j+1) cap:=by
    rcases owni_form hown2 with⟨-,h⟩|h
    ·omega
    ·exact h
   clear hown hgrow hnil ow r2 t2 c0 c1 hB sz f0 f1 i0 i1 hne
   obtain⟨f0,f1,u0,u1,i0,i1⟩:=res2_all eT
   have HY:=Go.Lib.hid hown2
   clear hown2
   go_wp2_with fail
   go_roundw
   case rel=>exact⟨j+1,_,by go_num,hj1,by rw[HX.out.2],⟨World.cell?_setCell_same' w5 ⟨w.heap.size+1,0,none⟩ _ (by rw[i0];rfl),owni_far HY.out _ _ (by dsimp only;omega),res2_set eR _ _,res2_set eT _ _,set_other e0 _ (by simp),by simpa using eS,bl_set eB (by dsimp only;omega) _⟩⟩
   case measure=>simp[intOf];omega
  ·have hje:j=4:=by omega
   subst hje
   obtain ⟨g,cap,rfl⟩:∃ g cap,v=.slice (some ⟨g,0,none⟩) 4 cap:=by
    rcases owni_form ow with⟨-,h⟩|h
    ·omega
    ·exact h
   have hgl:=World.ownsRow.lt ow g rfl
   have HR:=Go.Lib.hid (owni_row ow)
   obtain⟨f0,f1,u0,u1,i0,i1⟩:=res2_all r2
   clear ow
   go_wp2_with fail
   (try simp only[Exit.inBlock,Exit.then,Exit.noGoto_ret])
   refine bodyPost_ret (results_big rfl _ _ (by rfl) ⟨set_other (World.cell?_setCell_same' wr ⟨w.heap.size,0,none⟩ _ (by rw[i0];rfl)) _ (by simp),World.cell?_setCell_same' _ ⟨w.heap.size,1,none⟩ _ (by exact isSome_set (by rw[i1];rfl))⟩) rfl ⟨g,cap,rfl,?_,bl_set (bl_set hB (Nat.le_refl _) _) (Nat.le_refl _) _⟩
   rw[HDD.out]
   exact fun i hi=>far_set (far_set (HR.out i hi) _ _ (by dsimp only;omega)) _ _ (by dsimp only;omega)

/-- What cmp answers: above 0 where the first one is more. -/
def CmpPost (f g:Nat→Int) (w:World) (e:Ending) (w':World):Prop:=∃ r:Int,e=.returned (.int .i64 r)∧(0<r↔valN g 9<valN f 9)∧w=w'
theorem rcmp_any (g1 c1 g2 c2:Nat) (f g:Nat→Int) (hf:Digs f) (hg:Digs g) (hz:∀ i,4≤i→g i=0) (w:World) (h1:RowF w g1 9 f) (h2:RowF w g2 4 g) :
  Calls Tryz.prog 182 #[.slice (some ⟨g1,0,none⟩) 9 c1,.slice (some ⟨g2,0,none⟩) 4 c2] w (CmpPost f g w):=by
 have H1:=Go.Lib.hid h1
 have H2:=Go.Lib.hid h2
 have HF:=Go.Lib.hid hf
 have HG:=Go.Lib.hid hg
 have HZ:=Go.Lib.hid hz
 clear h1 h2 hf hg hz
 go_enter Tryz.func182,Tryz.ntmps182
 go_wp2_with fail
 go_loop [5] (fun s5=>∃ i:Nat,s5=.int .i64 ((i:Int) - 1)∧i≤9∧Hid (∀ j,i≤j→j<9→f j=g j)) (fun s5=>(intOf s5+1).toNat)
 case atStart=>exact⟨9,rfl,by omega,fun j a b=>by omega⟩
 case round =>
  obtain⟨i,rfl,hi,HE⟩:=hrel
  cases i with
  | zero =>
   have heq:=valN_same (f:=f) (g:=g) 0 9 HE.out (by omega)
   have hv:valN f 9=valN g 9:=by have e:valN f 0 - valN g 0=0:=rfl;omega
   have HV:=Go.Lib.hid hv
   clear hv heq
   go_wp2_with fail
   go_ret
   exact⟨0,rfl,by rw[HV.out];omega,rfl⟩
  | succ k =>
   have hc:((k+1:Nat):Int) - 1=(k:Int):=by omega
   rw[hc]
   clear hc
   have a1:=H1.out k (by omega)
   have df:=HF.out k
   have dg:=HG.out k
   have hmore:=valN_more HF.out HG.out (show k<9 by omega) HE.out
   have k0:(0:Int)≤(k:Int):=by omega
   have k1:(k:Int)<9:=by omega
   have wk:IntKind.i64.wrap ((k:Int) - 1)=(k:Int) - 1:=IntWalk.i64_in _ (by omega)
   have HM:=Go.Lib.hid hmore
   clear hmore
   by_cases h4:k<4
   ·have a2:=H2.out k h4
    have k4:(k:Int)<4:=by omega
    have heq:f k=g k→∀ j,k≤j→j<9→f j=g j:=fun e j hj hj9=>by
     by_cases e2:j=k
     ·subst e2;exact e
     ·exact HE.out j (by omega) hj9
    have HQ:=Go.Lib.hid heq
    generalize f k=x at *
    generalize g k=y at *
    have wx:IntKind.i64.wrap (x - y)=x - y:=IntWalk.i64_in _ (by omega)
    by_cases e:x=y
    ·have HQ2:=Go.Lib.hid (HQ.out e)
     have hxy:(x == y)=true:=by simpa using e
     subst e
     clear HQ HM heq
     go_wp2_with fail
     go_round
     case rel=>exact⟨k,rfl,by omega,HQ2⟩
     case measure=>(simp[intOf] <;> omega)
    ·clear HQ heq
     have hxy:(x == y)=false:=by simpa using e
     go_wp2_with fail
     go_ret
     refine⟨x - y,rfl,?_,rfl⟩
     have:=HM.out
     constructor
     ·intro h;exact this.1 (by omega)
     ·intro h
      by_cases h9:y<x
      ·omega
      ·have:=this.2 (by omega);omega
   ·have k4:¬ (k:Int)<4:=by omega
    have gz:=HZ.out k (by omega)
    rw[gz] at HM dg
    have heq:f k=0→∀ j,k≤j→j<9→f j=g j:=fun e j hj hj9=>by
     by_cases e2:j=k
     ·subst e2;rw[e,gz]
     ·exact HE.out j (by omega) hj9
    have HQ:=Go.Lib.hid heq
    clear gz heq
    generalize f k=x at *
    by_cases e:x=0
    ·have HQ2:=Go.Lib.hid (HQ.out e)
     subst e
     clear HQ HM
     go_wp2_with fail
     go_round
     case rel=>exact⟨k,rfl,by omega,HQ2⟩
     case measure=>(simp[intOf] <;> omega)
    ·clear HQ
     have hxy:(x == 0)=false:=by simpa using e
     have wx:IntKind.i64.wrap (x - 0)=x:=by rw[Int.sub_zero];exact IntWalk.i64_in _ (by omega)
     go_wp2_with fail
     go_ret
     refine⟨x,rfl,?_,rfl⟩
     have:=HM.out
     constructor
     ·intro h;exact this.1 (by omega)
     ·intro h;omega

theorem rnumber_any (g1 c1:Nat) (f:Nat→Int) (hf:Digs f) (w:World) (h1:RowF w g1 9 f) :
  Calls Tryz.prog 171 #[.agg #[.slice (some ⟨g1,0,none⟩) 9 c1,.int .i64 0]] w fun e w'=>e=.returned (.tuple #[.int .i64 (if valN f 9≤9223372036854775807 then valN f 9 else 0),.bool (decide (valN f 9≤9223372036854775807))])∧Below w.heap.size w w':=by
 have hcm:=fun g2 c2 w h1 h2=>rcmp_any g1 c1 g2 c2 f mostN hf mostN_digs (fun i hi=>by unfold mostN;rw[if_neg (by omega),if_neg (by omega)]) w h1 h2
 unfold CmpPost at hcm
 rw[mostN_val 5] at hcm
 have HCM:=Go.Lib.hid hcm
 have HF:=Go.Lib.hid hf
 have H1:=Go.Lib.hid h1
 have hv0:=(valN_bound hf 9).1
 have htop:valN f 9=topN f 0 9:=by have h:=top_val f 9 0;rw[show 0+9=9 from rfl] at h;rw[h];show 0+topN f 0 9*1=_;omega
 have HT:=Go.Lib.hid htop
 have hle:∀ i,i≤9→0≤topN f i (9 - i)∧topN f i (9 - i)≤valN f 9:=fun i hi=>⟨top_pos hf _ _,by have h:=top_le hf (9 - i) i;rw[show i+(9 - i)=9 by omega] at h;exact h⟩
 have HLE:=Go.Lib.hid hle
 generalize hV:valN f 9=V at *
 have hlt:=(show g1<w.heap.size from World.block_lt_of_cell? w _ (h1 0 (by omega)))
 clear hcm hf h1 htop hle hV
 by_cases hm:V≤9223372036854775807
 ·rw [if_pos hm,decide_eq_true hm]
  go_enter Tryz.func171,Tryz.ntmps171
  go_wp2_with fail
  refine(HCM.out _ _ _ (rowf_bl H1.out (bl_alloc (bl_alloc (bl_alloc (bl_refl _) _) _) _)) ?_).mono ?_
  ·intro i hi
   have:i=0∨i=1∨i=2∨i=3:=by omega
   rcases this with rfl|rfl|rfl|rfl <;> (unfold mostN;go_simp)
  rintro e w1 ⟨r,rfl,hr,rfl⟩
  have hr0:¬ 0<r:=fun z=>by have:=hr.1 z;omega
  clear hr
  go_wp2_with fail
  refine wp_abs (S0:=fun X=>X.cell? ⟨w.heap.size,0,none⟩=some (.slice (some ⟨g1,0,none⟩) 9 c1)∧X.cell? ⟨w.heap.size,1,none⟩=some (.int .i64 0)∧RowF X g1 9 f∧Below w.heap.size w X) ⟨by go_simp,by go_simp,rowf_bl H1.out (bl_alloc (bl_alloc (bl_alloc (bl_refl _) _) _) _),bl_alloc (bl_alloc (bl_alloc (bl_refl _) _) _) _⟩ ?_
  rintro W ⟨b0,b1,hrow,hB⟩
  have HROW:=Go.Lib.hid hrow
  clear hrow
  go_loop [6,7] (fun s6 s7=>∃ i:Nat,s7=.int .i64 ((i:Int) - 1)∧i≤9∧s6=.int .i64 (topN f i (9 - i))) (fun _ s7=>(intOf s7+1).toNat)
  case atStart=>exact⟨9,rfl,by omega,rfl⟩
  case round =>
   obtain⟨i,rfl,hi,rfl⟩:=hrel
   cases i with
   | zero =>
    have hT:=HT.out
    rw[show(9 - 0:Nat)=9 from rfl,← hT]
    clear hT
    go_wp2_with fail
    go_ret2
    exact⟨rfl,hB⟩
   | succ k =>
    have hc:((k+1:Nat):Int) - 1=(k:Int):=by omega
    rw[hc]
    clear hc
    have a1:=HROW.out k (by omega)
    have df:=HF.out k
    have l1:=HLE.out k (by omega)
    have l2:=HLE.out (k+1) (by omega)
    have e1:topN f k (9 - k)=f k+65536*topN f (k+1) (9 - (k+1)):=by rw[show 9 - k=(9 - (k+1))+1 by omega];rfl
    have HE:=Go.Lib.hid e1
    rw[e1] at l1
    generalize topN f (k+1) (9 - (k+1))=tp at *
    generalize f k=x at *
    have k0:(0:Int)≤(k:Int):=by omega
    have k1:(k:Int)<9:=by omega
    have wk:IntKind.i64.wrap ((k:Int) - 1)=(k:Int) - 1:=IntWalk.i64_in _ (by omega)
    have w1:IntKind.i64.wrap (65536*tp)=65536*tp:=IntWalk.i64_in _ (by omega)
    have w2:IntKind.i64.wrap (65536*tp+x)=65536*tp+x:=IntWalk.i64_in _ (by omega)
    clear e1 l1 l2
    go_wp2_with fail
    go_round
    case rel=>exact⟨k,rfl,by omega,by rw[HE.out,Int.add_comm]⟩
    case measure=>(simp[intOf] <;> omega)
 ·rw [if_neg hm,decide_eq_false hm]
  go_enter Tryz.func171,Tryz.ntmps171
  go_wp2_with fail
  refine(HCM.out _ _ _ (rowf_bl H1.out (bl_alloc (bl_alloc (bl_alloc (bl_refl _) _) _) _)) ?_).mono ?_
  ·intro i hi
   have:i=0∨i=1∨i=2∨i=3:=by omega
   rcases this with rfl|rfl|rfl|rfl <;> (unfold mostN;go_simp)
  rintro e w1 ⟨r,rfl,hr,rfl⟩
  have hr0:0<r:=hr.2 (by omega)
  clear hr
  go_wp2_with fail
  go_ret2
  exact⟨rfl,bl_alloc (bl_alloc (bl_alloc (bl_refl _) _) _) _⟩

/-- One digit more. -/
theorem times_step {O:Nat→Int} {i k:Nat} {c x:Int} (hO:Digs O) (hc:0≤c∧c≤65535) (hx:0≤x∧x≤4294836225) (hik:i+k<9) (hz:∀ j,i+max 4 k≤j→O j=0) :
  let s:=c+O (i+k)+x
  0≤s∧s≤4294967295∧0≤s / 65536∧s / 65536≤65535∧0≤s % 65536∧s % 65536≤65535∧Digs (updN O (i+k) (s % 65536))∧(∀ j,i+max 4 (k+1)≤j→updN O (i+k) (s % 65536) j=0) ∧
  valN (updN O (i+k) (s % 65536)) 9+(s / 65536)*pw (i+(k+1))=valN O 9+c*pw (i+k)+x*pw (i+k):=by
 intro s
 have h1:=hO (i+k)
 have h2:=Int.emod_add_mul_ediv s 65536
 have h3:=Int.emod_nonneg s (show(65536:Int)≠0 by decide)
 have h4:=Int.emod_lt_of_pos s (show(0:Int)<65536 by decide)
 have hs:s=c+O (i+k)+x:=rfl
 refine⟨by omega,by omega,by omega,by omega,by omega,by omega,digs_upd hO _ (by omega),fun j hj=>?_,?_⟩
 ·unfold updN
  rw[if_neg (by omega)]
  exact hz j (by omega)
 ·rw [valN_upd,if_pos hik,show i+(k+1)=(i+k)+1 by omega,pw_succ]
  have h5:(s % 65536 - O (i+k))*pw (i+k)+s / 65536*(65536*pw (i+k))=(c+x)*pw (i+k):=by
   rw[show s / 65536*(65536*pw (i+k))=(s / 65536*65536)*pw (i+k) by rw[Int.mul_assoc],← Int.add_mul]
   congr 1
   omega
  rw[Int.add_mul] at h5
  omega

def TimesPost (fa fb:Nat→Int) (w:World) (e:Ending) (w':World):Prop:=∃ g c O,e=.returned (.slice (some ⟨g,0,none⟩) 9 c)∧RowF w' g 9 O∧Digs O∧valN O 9=valN fa 4*valN fb 4∧Below w.heap.size w w'
/-- A row of nine that may be written. -/
def RowW (w:World) (g:Nat) (O:Nat→Int):Prop:=∀ i,i<9→w.cell? ⟨g,i,none⟩=some (.int .i64 (O i))∧w.frozen? ⟨g,i,none⟩=false
theorem roww_set {w:World} {g:Nat} {O:Nat→Int} (h:RowW w g O) {p:Nat} (hp:p<9) (v:Int):RowW (w.setCell ⟨g,p,none⟩ (.int .i64 v)) g (updN O p v):=fun i hi=>by
 have h1:=h i hi
 refine⟨?_,by rw[World.frozen?_setCell];exact h1.2⟩
 unfold updN
 by_cases e:i=p
 ·subst e
  rw[if_pos rfl,World.cell?_setCell_same' w _ _ (by rw[h1.1];rfl)]
 ·rw[if_neg e]
  exact set_other h1.1 _ (by intro z;injection z with _ z;exact e z.symm)
def TInv (w:World) (ga gb go:Nat) (fa fb O:Nat→Int) (wr:World):Prop:=Digs O∧RowW wr go O∧RowF wr ga 4 fa∧RowF wr gb 4 fb∧ga<w.heap.size∧gb<w.heap.size∧w.heap.size≤go∧Below w.heap.size w wr
theorem rtimes_any (ga ca gb cb:Nat) (fa fb:Nat→Int) (hfa:Digs fa) (hfb:Digs fb) (w:World) (h1:RowF w ga 4 fa) (h2:RowF w gb 4 fb) :
  Calls Tryz.prog 172 #[.slice (some ⟨ga,0,none⟩) 4 ca,.slice (some ⟨gb,0,none⟩) 4 cb] w (TimesPost fa fb w):=by
 have la:ga<w.heap.size:=World.block_lt_of_cell? w _ (h1 0 (by omega))
 have lb:gb<w.heap.size:=World.block_lt_of_cell? w _ (h2 0 (by omega))
 have H1:=Go.Lib.hid h1
 have H2:=Go.Lib.hid h2
 have HFA:=Go.Lib.hid hfa
 have HFB:=Go.Lib.hid hfb
 have hmk:∀ w,(Instr.makeSlice 109 (.int .i64 9) (.int .i64 9)).run Tryz.prog w=.ok (.slice (some ⟨w.heap.size,0,none⟩) 9 9) (w.alloc (.cells #[.int .i64 0,.int .i64 0,.int .i64 0,.int .i64 0,.int .i64 0,.int .i64 0,.int .i64 0,.int .i64 0,.int .i64 0] 3)):=fun _=>by kernel_rfl
 clear h1 h2 hfa hfb
 go_enter Tryz.func172,Tryz.ntmps172
 go_wp2_with fail
 refine wp_abs (S0:=fun X=>TInv w ga gb w.heap.size fa fb (fun _=>0) X) ⟨fun _=>⟨Int.le_refl _,by show(0:Int)≤65535;omega⟩,fun i hi=>?_,rowf_bl H1.out (bl_alloc (bl_refl _) _),rowf_bl H2.out (bl_alloc (bl_refl _) _),la,lb,Nat.le_refl _,bl_alloc (bl_refl _) _⟩ ?_
 ·have:i=0∨i=1∨i=2∨i=3∨i=4∨i=5∨i=6∨i=7∨i=8:=by omega
  rcases this with rfl|rfl|rfl|rfl|rfl|rfl|rfl|rfl|rfl <;> exact⟨by go_simp,by go_simp⟩
 intro W hW
 have HWW:=Go.Lib.hid hW
 clear hW hmk
 go_loopw [6] (fun s6 wr=>∃ (i:Nat) (O:Nat→Int),s6=.int .i64 i∧i≤4∧Hid (TInv w ga gb w.heap.size fa fb O wr∧(∀ j,i+4≤j→O j=0)∧valN O 9=valN fa i*valN fb 4)) (fun s6 _=>4 - (intOf s6).toNat)
 case atStart=>exact⟨0,_,rfl,by omega,⟨HWW.out,fun _ _=>rfl,by show valN (fun _=>0) 9=0*_;rw[Int.zero_mul];rfl⟩⟩
 case round =>
  obtain⟨i,O,rfl,hi,H⟩:=hrel
  clear HWW
  by_cases hin:i<4
  ·have i0 : (0:Int)≤(i:Int):=by omega
   have i1:(i:Int)<4:=by omega
   have hi1:i+1≤4:=hin
   have wi:IntKind.i64.wrap ((i:Int)+1)=(i:Int)+1:=IntWalk.i64_in _ (by omega)
   obtain⟨hT,hz,hv⟩:=H.out
   have HV:=Go.Lib.hid hv
   obtain⟨W1,hW1⟩:∃ W:World,W=wr:=⟨_,rfl⟩
   subst hW1
   go_wp2_with fail
   go_loopw [7,8] (fun s7 s8 wr=>∃ (k:Nat) (c:Int) (O':Nat→Int),s8=.int .i64 k∧s7=.int .i64 c∧k≤5∧Hid (0≤c∧c≤65535∧(k=5→c=0)∧TInv w ga gb w.heap.size fa fb O' wr∧(∀ j,i+max 4 k≤j→O' j=0)∧valN O' 9+c*pw (i+k)=valN O 9+fa i*valN fb (min k 4)*pw i)) (fun _ s8 _=>5 - (intOf s8).toNat)
   case atStart=>exact⟨0,0,O,rfl,rfl,by omega,⟨Int.le_refl _,by omega,fun _=>rfl,hT,fun j hj=>hz j (by omega),by rw[Int.zero_mul,show min 0 4=0 from rfl];show valN O 9+0=valN O 9+fa i*0*pw i;rw[Int.mul_zero,Int.zero_mul]⟩⟩
   case round =>
    clear hT hz hv
    obtain⟨k,c,O',rfl,rfl,hk,HK⟩:=hrel
    obtain⟨c0,c1,c5,hT,hz,hv⟩:=HK.out
    obtain⟨hO,hRW,hRa,hRb,la2,lb2,lg2,hB⟩:=id hT
    have lgo:w.heap.size<wr.heap.size:=World.block_lt_of_cell? wr _ (hRW 0 (by omega)).1
    have ra:=hRa i hin
    have dfa:=HFA.out i
    by_cases hk4:k<4
    ·have rb:=hRb k hk4
     have dfb:=HFB.out k
     have hx0:0≤fa i*fb k:=Int.mul_nonneg dfa.1 dfb.1
     have hx1:fa i*fb k≤4294836225:=by
      have h1:fa i*fb k≤65535*fb k:=Int.mul_le_mul_of_nonneg_right dfa.2 dfb.1
      omega
     obtain⟨ro,rf⟩:=hRW (i+k) (by omega)
     have hst:=times_step (x:=fa i*fb k) hO ⟨c0,c1⟩ ⟨hx0,hx1⟩ (show i+k<9 by omega) hz
     have dO:=hO (i+k)
     have hval:valN (updN O' (i+k) ((c+O' (i+k)+fa i*fb k) % 65536)) 9+(c+O' (i+k)+fa i*fb k) / 65536*pw (i+(k+1))=valN O 9+fa i*valN fb (min (k+1) 4)*pw i:=by
      rw[hst.2.2.2.2.2.2.2.2,hv,show min k 4=k by omega,show min (k+1) 4=k+1 by omega]
      show _=valN O 9+fa i*(valN fb k+fb k*pw k)*pw i
      rw[pw_add,Int.mul_add,Int.add_mul,Int.mul_assoc (fa i) (fb k) (pw i*pw k),Int.mul_assoc (fa i) (fb k*pw k) (pw i),Int.mul_assoc (fb k) (pw k) (pw i),Int.mul_comm (pw k) (pw i)]
      omega
     have HN:=Go.Lib.hid (show 0≤(c+O' (i+k)+fa i*fb k) / 65536∧(c+O' (i+k)+fa i*fb k) / 65536≤65535∧(k+1=5→(c+O' (i+k)+fa i*fb k) / 65536=0)∧TInv w ga gb w.heap.size fa fb (updN O' (i+k) ((c+O' (i+k)+fa i*fb k) % 65536)) (wr.drew.setCell ⟨w.heap.size,i+k,none⟩ (.int .i64 ((c+O' (i+k)+fa i*fb k) % 65536)))∧(∀ j,i+max 4 (k+1)≤j→updN O' (i+k) ((c+O' (i+k)+fa i*fb k) % 65536) j=0)∧valN (updN O' (i+k) ((c+O' (i+k)+fa i*fb k) % 65536)) 9+(c+O' (i+k)+fa i*fb k) / 65536*pw (i+(k+1))=valN O 9+fa i*valN fb (min (k+1) 4)*pw i from
      ⟨hst.2.2.1,hst.2.2.2.1,fun z=>by omega,⟨hst.2.2.2.2.2.2.1,roww_set (w:=wr.drew) hRW (by omega) _,fun j hj=>far_set (w:=wr.drew) (hRa j hj) _ _ (by dsimp only;omega),fun j hj=>far_set (w:=wr.drew) (hRb j hj) _ _ (by dsimp only;omega),la2,lb2,lg2,bl_set (bl_drew hB) (by dsimp only;omega) _⟩,hst.2.2.2.2.2.2.2.1,hval⟩)
     have hs1:IntKind.i64.wrap (c+O' (i+k))=c+O' (i+k):=IntWalk.i64_in _ (by omega)
     have hs2:IntKind.i64.wrap (fa i*fb k)=fa i*fb k:=IntWalk.i64_in _ (by omega)
     have hs3:IntKind.i64.wrap (c+O' (i+k)+fa i*fb k)=c+O' (i+k)+fa i*fb k:=IntWalk.i64_in _ (by omega)
     have hsn:0≤c+O' (i+k)+fa i*fb k:=hst.1
     have hsm:c+O' (i+k)+fa i*fb k≤4294967295:=hst.2.1
     clear hst hval hv hz HK c5
     generalize fa i=x at *
     generalize fb k=y at *
     generalize O' (i+k)=u at *
     have k0:(0:Int)≤(k:Int):=by omega
     have k1:(k:Int)<4:=by omega
     have wik:IntKind.i64.wrap ((i:Int)+(k:Int))=(i:Int)+(k:Int):=IntWalk.i64_in _ (by omega)
     have ik0:(0:Int)≤(i:Int)+(k:Int):=by omega
     have ik1:(i:Int)+(k:Int)<9:=by omega
     have ikn:((i:Int)+(k:Int)).toNat=i+k:=by omega
     have wk:IntKind.i64.wrap ((k:Int)+1)=(k:Int)+1:=IntWalk.i64_in _ (by omega)
     have hdk:decide ((k:Int)<4)=true:=decide_eq_true k1
     clear hO hRW hRa hRb hT hx0 hx1 dfa dfb dO
     go_wp2_with fail
     refine wp_region_held_drew (S:=fun w'=>w'.cell? ⟨ga,i,none⟩=some (.int .i64 x)∧w'.cell? ⟨gb,k,none⟩=some (.int .i64 y)) (by kernel_rfl) ?_ (fun hHeld=>?_)
     ·exact⟨ra,rb⟩
     try simp only[Act.put,List.setIfInBounds_toArray,List.set_cons_zero,List.set_cons_succ]
     refine tkx 0 ?_
     refine tkx 1 ?_
     refine tkx 2 ?_
     refine tkx 3 ?_
     refine tkx 4 ?_
     refine tkx 5 ?_
     refine tkx 6 ?_
     refine tkx 7 ?_
     refine tkx 8 ?_
     refine tkx 9 ?_
     refine tkx 10 ?_
     refine tkx 11 ?_
     refine wpAnyH_done (by kernel_rfl) ?_ _
     clear hHeld
     go_wp2_with fail
     go_roundw
     case rel=>exact⟨k+1,_,_,by go_num,rfl,by omega,HN.out⟩
     case measure=>(simp[intOf] <;> omega)
    ·by_cases hc:0<c
     ·have hk5:k=4:=by
       by_cases z:k=5
       ·have:=c5 z;omega
       ·omega
      subst hk5
      obtain⟨ro,rf⟩:=hRW (i+4) (by omega)
      have hu:O' (i+4)=0:=hz (i+4) (by omega)
      have hst:=times_step (x:=0) hO ⟨c0,c1⟩ ⟨Int.le_refl _,by omega⟩ (show i+4<9 by omega) hz
      dsimp only at hst
      rw[hu] at hst ro
      have e1:c+0+0=c:=by omega
      rw[e1] at hst
      have e2:c / 65536=0:=Int.ediv_eq_zero_of_lt c0 (by omega)
      have e3:c % 65536=c:=Int.emod_eq_of_lt c0 (by omega)
      rw[e2,e3] at hst
      have HN:=Go.Lib.hid (show 0≤(0:Int)∧(0:Int)≤65535∧(4+1=5→(0:Int)=0)∧TInv w ga gb w.heap.size fa fb (updN O' (i+4) c) (wr.setCell ⟨w.heap.size,i+4,none⟩ (.int .i64 c))∧(∀ j,i+max 4 (4+1)≤j→updN O' (i+4) c j=0)∧valN (updN O' (i+4) c) 9+0*pw (i+(4+1))=valN O 9+fa i*valN fb (min (4+1) 4)*pw i from
       ⟨Int.le_refl _,by omega,fun _=>rfl,⟨hst.2.2.2.2.2.2.1,roww_set hRW (by omega) _,fun j hj=>far_set (hRa j hj) _ _ (by dsimp only;omega),fun j hj=>far_set (hRb j hj) _ _ (by dsimp only;omega),la2,lb2,lg2,bl_set hB (by dsimp only;omega) _⟩,hst.2.2.2.2.2.2.2.1,by rw[hst.2.2.2.2.2.2.2.2,hv,Int.zero_mul,Int.add_zero,show min 4 4=4 from rfl,show min (4+1) 4=4 from rfl]⟩)
      have wik:IntKind.i64.wrap ((i:Int)+4)=(i:Int)+4:=IntWalk.i64_in _ (by omega)
      have ik0:(0:Int)≤(i:Int)+4:=by omega
      have ik1:(i:Int)+4<9:=by omega
      have ikn:((i:Int)+4).toNat=i+4:=by omega
      have e2':Int.tdiv c 65536=0:=by rw[Int.tdiv_eq_ediv_of_nonneg c0,e2]
      have e3':Int.tmod c 65536=c:=by rw[Int.tmod_eq_emod_of_nonneg c0,e3]
      clear hst hv hz HK c5 hO hRW hRa hRb hT hu e1
      go_wp2_with fail
      go_roundw
      case rel=>exact⟨4+1,_,_,by go_num,by first|rfl|(rw[e2]),by omega,by first|exact HN.out|(rw[e3];exact HN.out)⟩
      case measure=>(simp[intOf] <;> omega)
     ·have hc0:c=0:=by omega
      subst hc0
      have hfin:TInv w ga gb w.heap.size fa fb O' wr∧(∀ j,i+1+4≤j→O' j=0)∧valN O' 9=valN fa (i+1)*valN fb 4:=by
       refine⟨hT,fun j hj=>hz j (by omega),?_⟩
       rw[Int.zero_mul,Int.add_zero,show min k 4=4 by omega,HV.out] at hv
       rw[hv]
       show _=(valN fa i+fa i*pw i)*valN fb 4
       rw[Int.add_mul,Int.mul_assoc (fa i) (pw i),Int.mul_comm (pw i),← Int.mul_assoc]
      have HN:=Go.Lib.hid hfin
      have hk4':¬ (k:Int)<4:=by omega
      clear hfin hv hz HK c5 hO hRW hRa hRb hT
      go_wp2_with fail
      go_roundw
      case rel=>exact⟨i+1,O',by go_num,hi1,HN.out⟩
      case measure=>(simp[intOf] <;> omega)
  ·have hie:i=4:=by omega
   subst hie
   obtain⟨⟨hO,hRW,hRa,hRb,la2,lb2,lg2,hB⟩,hz,hv⟩:=H.out
   have HN:=Go.Lib.hid (show RowF wr w.heap.size 9 O∧Digs O∧valN O 9=valN fa 4*valN fb 4∧Below w.heap.size w wr from⟨fun j hj=>(hRW j hj).1,hO,hv,hB⟩)
   clear hO hRW hRa hRb hB hz hv H
   go_wp2_with fail
   go_ret
   exact⟨_,_,O,rfl,HN.out.1,HN.out.2.1,HN.out.2.2.1,HN.out.2.2.2⟩

theorem rmul_any (a b:Int) (ha:0≤a) (hA:a≤9007199254740992) (hb:0≤b) (hB:b≤1048576) (w:World) :
  Calls Tryz.prog 149 #[.int .i64 a,.int .i64 b] w fun e w'=>e=.returned (.tuple #[.int .i64 (mulN a b),.bool (mulOk a b)])∧Below w.heap.size w w':=by
 have hoa:=rof_any a ha hA
 have hob:=rof_any b hb (by omega)
 have hva:=valN_four ha (by omega)
 have hvb:=valN_four hb (by omega)
 have htm:=fun ga ca gb cb w h1 h2=>rtimes_any ga ca gb cb (digN a) (digN b) (digN_digs a) (digN_digs b) w h1 h2
 unfold TimesPost at htm
 rw[hva,hvb] at htm
 unfold OfPost at hoa hob
 generalize digN a=fa at *
 generalize digN b=fb at *
 unfold mulN mulOk
 generalize a*b=V at *
 have HOA:=Go.Lib.hid hoa
 have HOB:=Go.Lib.hid hob
 have HTM:=Go.Lib.hid htm
 have hif:(if decide (V≤9223372036854775807)=true then V else 0)=if V≤9223372036854775807 then V else 0:=by simp only[decide_eq_true_eq]
 rw[hif]
 generalize hN:(if V≤9223372036854775807 then V else 0)=N at *
 generalize hK0:decide (V≤9223372036854775807)=OK at *
 have HN:=Go.Lib.hid hN
 have HK0:=Go.Lib.hid hK0
 clear hoa hob htm hva hvb hif ha hA hb hB hN hK0
 go_enter Tryz.func149,Tryz.ntmps149
 go_wp2_with fail
 refine(HOA.out _).mono ?_
 rintro e w1 ⟨g1,c1,rfl,hr1,hb1⟩
 go_wp2_with fail
 refine(HOB.out _).mono ?_
 rintro e w2 ⟨g2,c2,rfl,hr2,hb2⟩
 have a0:=bl_cell (v:=.slice (some ⟨g1,0,none⟩) 4 c1) hb2 (show World.cell? _ ⟨w1.heap.size,0,none⟩=_ by go_simp)
 have a1:=bl_cell (v:=.int .i64 0) hb2 (show World.cell? _ ⟨w1.heap.size,1,none⟩=_ by go_simp)
 have hr1':=rowf_bl (rowf_bl hr1 (bl_alloc (bl_refl _) _)) hb2
 have hBB:Below w.heap.size w w2:=bl_then (bl_then hb1 (bl_alloc (bl_refl _) _)) hb2
 clear hr1 hb1 hb2
 go_wp2_with fail
 refine wp_region_held_drew (S:=fun X=>X.cell? ⟨w1.heap.size,0,none⟩=some (.slice (some ⟨g1,0,none⟩) 4 c1)∧X.cell? ⟨w1.heap.size,1,none⟩=some (.int .i64 0)∧X.cell? ⟨w2.heap.size,0,none⟩=some (.slice (some ⟨g2,0,none⟩) 4 c2)∧X.cell? ⟨w2.heap.size,1,none⟩=some (.int .i64 0)∧RowF X g1 4 fa∧RowF X g2 4 fb∧Below w.heap.size w X) (by kernel_rfl) ?_ (fun hHeld=>?_)
 ·exact⟨bl_cell (bl_alloc (bl_refl _) _) a0,bl_cell (bl_alloc (bl_refl _) _) a1,by go_simp,by go_simp,rowf_bl hr1' (bl_drew (bl_alloc (bl_refl _) _)),rowf_bl hr2 (bl_drew (bl_alloc (bl_refl _) _)),bl_drew (bl_then hBB (bl_alloc (bl_refl _) _))⟩
 try simp only[Act.put,List.setIfInBounds_toArray,List.set_cons_zero,List.set_cons_succ]
 clear a0 a1 hr1' hr2 hBB
 refine tkx 0 ?_
 refine tkx 1 ?_
 refine tkx 2 ?_
 refine tkx 3 ?_
 refine tkx 5 ?_
 refine tkx 6 ?_
 refine tkx 7 ?_
 refine tkx 8 ?_
 refine tkx 9 ?_
 refine tkx 10 ?_
 refine callH (i:=4) rfl hHeld (fun W hW K hK=>?_)
 clear hHeld
 (try dsimp only at hW)
 obtain⟨h0,h1,h2,h3,hra,hrb,hB⟩:=hW
 go_simp
 refine(HTM.out _ _ _ _ W hra hrb).mono ?_
 rintro e w3 ⟨g3,c3,O,rfl,hr3,hO,hv3,hb3⟩
 go_wp2_with fail
 refine hK.out _ _ ?_ (fun hHeld=>?_)
 ·(try dsimp only);exact⟨bl_cell hb3 h0,bl_cell hb3 h1,bl_cell hb3 h2,bl_cell hb3 h3,rowf_bl hra hb3,rowf_bl hrb hb3,bl_then hB hb3⟩
 clear hK K h0 h1 h2 h3 hra hrb
 try simp only[Act.put,List.setIfInBounds_toArray,List.set_cons_zero,List.set_cons_succ]
 have hnm:=rnumber_any g3 c3 O hO
 rw[hv3,HN.out,HK0.out] at hnm
 have HNM:=Go.Lib.hid hnm
 clear hnm
 refine wpAnyH_abs (F:=fun X=>RowF X g3 9 O) hHeld hr3 (fun X hHeld hr3=>?_)
 refine tkx 11 ?_
 refine callC (i:=12) rfl (fun K hK=>?_)
 obtain⟨h0,h1,h2,h3,hra,hrb,hB⟩:=(id hHeld)
 go_simp
 refine(HNM.out _ hr3).mono ?_
 rintro e w5 ⟨rfl,hb5⟩
 go_wp2_with fail
 refine hK.out _ _ ?_ (fun hHeld2=>?_)
 ·(try dsimp only);exact⟨bl_cell hb5 h0,bl_cell hb5 h1,bl_cell hb5 h2,bl_cell hb5 h3,rowf_bl hra hb5,rowf_bl hrb hb5,bl_then hB hb5⟩
 clear hK K h0 h1 h2 h3 hra hrb hHeld
 try simp only[Act.put,List.setIfInBounds_toArray,List.set_cons_zero,List.set_cons_succ]
 have hHeld:=hHeld2
 clear hHeld2
 refine tkx 13 ?_
 refine tkx 14 ?_
 refine tkx 15 ?_
 refine tkx 16 ?_
 refine wpAnyH_done (by kernel_rfl) ?_ _
 obtain⟨-,-,-,-,-,-,hE⟩:=hHeld
 go_wp2_with fail
 go_ret2
 exact⟨rfl,hE⟩
theorem r5adv_no (p:Pol) (s:St) (a:Option Addr) (n c:Nat) (now:Int) (w:World) (hl:LogAt w a n c s.log) (h:¬ rightG p s):Calls Tryz.prog 90 #[p.v,s.v a n c,.int .i64 now] w (PostS a n (advG p s now) w):=by
 have hrt:=fun w=>r5right_any p s a n c hl.1 w
 rw[decide_eq_false h] at hrt
 unfold advG
 rw[if_neg h]
 clear h
 refine Calls.mono (R:=fun e w'=>e=.returned (St.none.v none 0 0)∧Below w.heap.size w w') ?_ (fun e w' hh=>⟨none,0,0,hh.1,log_nil _ _ _ (by omega),.inl rfl,hh.2⟩)
 obtain⟨k,l,d,b,cc,o⟩:=p
 obtain⟨at_,level,held,L⟩:=s
 unfold St.none St.v Pol.v at *
 dsimp only at *
 have HRT:=Go.Lib.hid hrt
 clear hrt
 clear hl
 go_enter Tryz.func90,Tryz.ntmps90
 go_wp2_with fail
 refine(HRT.out _).mono ?_
 rintro e w1 ⟨rfl,hb⟩
 have hx:Below w.heap.size w w1:=bl_then k3 hb
 have hsz1:w.heap.size+3≤w1.heap.size:=szl hb
 obtain⟨p0,p1,p2,p3,p4,p5⟩:=b6 (w.heap.size) k l d b cc o hb
 obtain⟨s0,s1,s2,s3⟩:=b4 (w.heap.size+1) at_ level held a n c hb
 have sR:=res_bl (b:=w.heap.size+1) (res_bl (res_new _ _ _ _ _ _ (by simp)) k1) hb
 have rR:=res_bl (b:=w.heap.size+1+1) (res_new _ _ _ _ _ _ (by simp)) hb
 have hB:Below w.heap.size w w1:=hx
 have lb_p:=lbc p0
 have lb_s:=lbc s0
 clear hb hx
 obtain⟨f0,f1,f2,f3,u0,u1,u2,u3,i0,i1,i2,i3⟩:=res_all rR
 go_wp2_with fail
 (try simp only[Exit.inBlock,Exit.then,Exit.noGoto_ret])
 refine bodyPost_ret (results_state rfl _ _ (by rfl) (set4r (rR))) rfl ⟨rfl,bl4 (hB) (by omega)⟩
theorem r5adv_stay (p:Pol) (s:St) (a:Option Addr) (n c:Nat) (now:Int) (w:World) (hl:LogAt w a n c s.log) (h:rightG p s) (ht:clampT now≤s.at_):Calls Tryz.prog 90 #[p.v,s.v a n c,.int .i64 now] w (PostS a n (advG p s now) w):=by
 have hrt:=fun w=>r5right_any p s a n c hl.1 w
 rw[decide_eq_true h] at hrt
 rw[advG_stay h ht]
 have hn0:n=0:=by rw[← hl.1,h.2.2.2.2.2.2.2];rfl
 have hc:=hl.2.2.1
 have hL:=h.2.2.2.2.2.2.2
 have hcl:=rclamp_any now
 have hcr:=clampT_range now
 have hA0:=h.2.1
 unfold rightG okG at h
 obtain⟨k,l,d,b,cc,o⟩:=p
 obtain⟨at_,level,held,L⟩:=s
 unfold St.v Pol.v at *
 dsimp only at *
 subst hn0 hL
 generalize clampT now=T at *
 refine Calls.mono (R:=fun e w'=>e=.returned (.agg #[.int .i64 (at_),.int .i64 (level),.int .i64 held,.slice a 0 c])∧Below w.heap.size w w') ?_ (fun e w' hh=>⟨a,0,c,hh.1,log_nil _ _ _ hc,.inl rfl,hh.2⟩)
 have hH:held*d≤1152921504606846976:=prod_le (by omega) (by omega) (by omega)
 have hH0:0≤held*d:=Int.mul_nonneg (by omega) (by omega)
 have hV:b*d≤1152921504606846976:=prod_le (by omega) (by omega) (by omega)
 have wa1:IntKind.i64.wrap (held*d)=held*d:=IntWalk.i64_in _ (by omega)
 have wa2:IntKind.i64.wrap (level - held*d)=level - held*d:=IntWalk.i64_in _ (by omega)
 have wa3:IntKind.i64.wrap (T - at_)=T - at_:=IntWalk.i64_in _ (by omega)
 clear hH hH0 hV hcr hA0
 clear h hl
 have HRT:=Go.Lib.hid hrt
 have HCL:=Go.Lib.hid hcl
 clear hrt hcl
 go_enter Tryz.func90,Tryz.ntmps90
 go_wp2_with fail
 refine(HRT.out _).mono ?_
 rintro e w1 ⟨rfl,hb⟩
 have hx:Below w.heap.size w w1:=bl_then k3 hb
 have hsz1:w.heap.size+3≤w1.heap.size:=szl hb
 obtain⟨p0,p1,p2,p3,p4,p5⟩:=b6 (w.heap.size) k l d b cc o hb
 obtain⟨s0,s1,s2,s3⟩:=b4 (w.heap.size+1) at_ level held a 0 c hb
 have sR:=res_bl (b:=w.heap.size+1) (res_bl (res_new _ _ _ _ _ _ (by simp)) k1) hb
 have rR:=res_bl (b:=w.heap.size+1+1) (res_new _ _ _ _ _ _ (by simp)) hb
 have hB:Below w.heap.size w w1:=hx
 have lb_p:=lbc p0
 have lb_s:=lbc s0
 clear hb hx
 go_wp2_with fail
 refine(HCL.out _).mono ?_
 rintro e w9 ⟨rfl,rfl⟩
 obtain⟨f0,f1,f2,f3,u0,u1,u2,u3,i0,i1,i2,i3⟩:=res_all rR
 have ne:=(show w.heap.size+1≠w.heap.size+1+1 by omega)
 go_wp2_with fail
 (try simp only[Exit.inBlock,Exit.then,Exit.noGoto_ret])
 refine bodyPost_ret (results_state rfl _ _ (by rfl) (set4r (rR))) rfl ⟨rfl,bl4 (hB) (by omega)⟩
theorem r5adv_less (p:Pol) (s:St) (a:Option Addr) (n c:Nat) (now:Int) (w:World) (hl:LogAt w a n c s.log) (h:rightG p s) (ht:s.at_<clampT now) (hm:mulOk (clampT now - s.at_) p.limit=true) (hn:mulN (clampT now - s.at_) p.limit≤s.level - s.held*p.period):Calls Tryz.prog 90 #[p.v,s.v a n c,.int .i64 now] w (PostS a n (advG p s now) w):=by
 have hrt:=fun w=>r5right_any p s a n c hl.1 w
 rw[decide_eq_true h] at hrt
 rw[advG_less h ht hm hn]
 have hn0:n=0:=by rw[← hl.1,h.2.2.2.2.2.2.2];rfl
 have hc:=hl.2.2.1
 have hL:=h.2.2.2.2.2.2.2
 have hcl:=rclamp_any now
 have hcr:=clampT_range now
 have hA0:=h.2.1
 have hmu:=rmul_any (clampT now - s.at_) p.limit (by omega) (by omega) (by have:=h.1.2.1;have:=h.1;unfold okG at this;omega) (by have:=h.1;unfold okG at this;omega)
 unfold rightG okG at h
 obtain⟨k,l,d,b,cc,o⟩:=p
 obtain⟨at_,level,held,L⟩:=s
 unfold St.v Pol.v at *
 dsimp only at *
 subst hn0 hL
 generalize clampT now=T at *
 refine Calls.mono (R:=fun e w'=>e=.returned (.agg #[.int .i64 (T),.int .i64 (level - mulN (T - at_) l),.int .i64 held,.slice none 0 0])∧Below w.heap.size w w') ?_ (fun e w' hh=>⟨none,0,0,hh.1,log_nil _ _ _ (by omega),.inl rfl,hh.2⟩)
 have hH:held*d≤1152921504606846976:=prod_le (by omega) (by omega) (by omega)
 have hH0:0≤held*d:=Int.mul_nonneg (by omega) (by omega)
 have hV:b*d≤1152921504606846976:=prod_le (by omega) (by omega) (by omega)
 have wa1:IntKind.i64.wrap (held*d)=held*d:=IntWalk.i64_in _ (by omega)
 have wa2:IntKind.i64.wrap (level - held*d)=level - held*d:=IntWalk.i64_in _ (by omega)
 have wa3:IntKind.i64.wrap (T - at_)=T - at_:=IntWalk.i64_in _ (by omega)
 have hN0:0≤mulN (T - at_) l:=by rw[mulN_ok hm];exact Int.mul_nonneg (by omega) (by omega)
 rw[hm] at hmu
 generalize mulN (T - at_) l=N at *
 have wa5:IntKind.i64.wrap (level - N)=level - N:=IntWalk.i64_in _ (by omega)
 have hn':¬ level - held*d<N:=by omega
 have ht':¬ T≤at_:=by omega
 clear hN0 hn hm ht
 clear hH hH0 hV hcr hA0
 clear h hl
 have HRT:=Go.Lib.hid hrt
 have HCL:=Go.Lib.hid hcl
 clear hrt hcl
 have HMU:=Go.Lib.hid hmu
 clear hmu
 go_enter Tryz.func90,Tryz.ntmps90
 go_wp2_with fail
 refine(HRT.out _).mono ?_
 rintro e w1 ⟨rfl,hb⟩
 have hx:Below w.heap.size w w1:=bl_then k3 hb
 have hsz1:w.heap.size+3≤w1.heap.size:=szl hb
 obtain⟨p0,p1,p2,p3,p4,p5⟩:=b6 (w.heap.size) k l d b cc o hb
 obtain⟨s0,s1,s2,s3⟩:=b4 (w.heap.size+1) at_ level held a 0 c hb
 have sR:=res_bl (b:=w.heap.size+1) (res_bl (res_new _ _ _ _ _ _ (by simp)) k1) hb
 have rR:=res_bl (b:=w.heap.size+1+1) (res_new _ _ _ _ _ _ (by simp)) hb
 have hB:Below w.heap.size w w1:=hx
 have lb_p:=lbc p0
 have lb_s:=lbc s0
 clear hb hx
 go_wp2_with fail
 refine(HCL.out _).mono ?_
 rintro e w9 ⟨rfl,rfl⟩
 go_wp2_with fail
 refine(HMU.out _).mono ?_
 rintro e w2 ⟨rfl,hb⟩
 have hsz2:w1.heap.size+0≤w2.heap.size:=szl hb
 replace p0:=bl_cell hb p0
 replace p1:=bl_cell hb p1
 replace p2:=bl_cell hb p2
 replace p3:=bl_cell hb p3
 replace p4:=bl_cell hb p4
 replace p5:=bl_cell hb p5
 replace s0:=bl_cell hb s0
 replace s1:=bl_cell hb s1
 replace s2:=bl_cell hb s2
 replace s3:=bl_cell hb s3
 replace sR:=res_bl sR hb
 replace rR:=res_bl rR hb
 replace hB:Below w.heap.size w w2:=bl_then hB hb
 replace lb_p:=lbc p0
 replace lb_s:=lbc s0
 clear hb
 obtain⟨f0,f1,f2,f3,u0,u1,u2,u3,i0,i1,i2,i3⟩:=res_all rR
 have ne:=(show w.heap.size+1≠w.heap.size+1+1 by omega)
 go_wp2_with fail
 (try simp only[Exit.inBlock,Exit.then,Exit.noGoto_ret])
 refine bodyPost_ret (results_state rfl _ _ (by rfl) (set4r (rR))) rfl ⟨rfl,bl4 (hB) (by omega)⟩
theorem r5adv_most (p:Pol) (s:St) (a:Option Addr) (n c:Nat) (now:Int) (w:World) (hl:LogAt w a n c s.log) (h:rightG p s) (ht:s.at_<clampT now) (hm:mulOk (clampT now - s.at_) p.limit=true) (hn:s.level - s.held*p.period<mulN (clampT now - s.at_) p.limit):Calls Tryz.prog 90 #[p.v,s.v a n c,.int .i64 now] w (PostS a n (advG p s now) w):=by
 have hrt:=fun w=>r5right_any p s a n c hl.1 w
 rw[decide_eq_true h] at hrt
 rw[advG_most h ht (.inr ⟨hm,hn⟩)]
 have hn0:n=0:=by rw[← hl.1,h.2.2.2.2.2.2.2];rfl
 have hc:=hl.2.2.1
 have hL:=h.2.2.2.2.2.2.2
 have hcl:=rclamp_any now
 have hcr:=clampT_range now
 have hA0:=h.2.1
 have hmu:=rmul_any (clampT now - s.at_) p.limit (by omega) (by omega) (by have:=h.1.2.1;have:=h.1;unfold okG at this;omega) (by have:=h.1;unfold okG at this;omega)
 unfold rightG okG at h
 obtain⟨k,l,d,b,cc,o⟩:=p
 obtain⟨at_,level,held,L⟩:=s
 unfold St.v Pol.v at *
 dsimp only at *
 subst hn0 hL
 generalize clampT now=T at *
 refine Calls.mono (R:=fun e w'=>e=.returned (.agg #[.int .i64 (T),.int .i64 (level - (level - held*d)),.int .i64 held,.slice none 0 0])∧Below w.heap.size w w') ?_ (fun e w' hh=>⟨none,0,0,hh.1,log_nil _ _ _ (by omega),.inl rfl,hh.2⟩)
 have hH:held*d≤1152921504606846976:=prod_le (by omega) (by omega) (by omega)
 have hH0:0≤held*d:=Int.mul_nonneg (by omega) (by omega)
 have hV:b*d≤1152921504606846976:=prod_le (by omega) (by omega) (by omega)
 have wa1:IntKind.i64.wrap (held*d)=held*d:=IntWalk.i64_in _ (by omega)
 have wa2:IntKind.i64.wrap (level - held*d)=level - held*d:=IntWalk.i64_in _ (by omega)
 have wa3:IntKind.i64.wrap (T - at_)=T - at_:=IntWalk.i64_in _ (by omega)
 rw[hm] at hmu
 generalize mulN (T - at_) l=N at *
 have wa5:IntKind.i64.wrap (level - (level - held*d))=level - (level - held*d):=IntWalk.i64_in _ (by omega)
 have ht':¬ T≤at_:=by omega
 clear hm ht
 clear hH hH0 hV hcr hA0
 clear h hl
 have HRT:=Go.Lib.hid hrt
 have HCL:=Go.Lib.hid hcl
 clear hrt hcl
 have HMU:=Go.Lib.hid hmu
 clear hmu
 go_enter Tryz.func90,Tryz.ntmps90
 go_wp2_with fail
 refine(HRT.out _).mono ?_
 rintro e w1 ⟨rfl,hb⟩
 have hx:Below w.heap.size w w1:=bl_then k3 hb
 have hsz1:w.heap.size+3≤w1.heap.size:=szl hb
 obtain⟨p0,p1,p2,p3,p4,p5⟩:=b6 (w.heap.size) k l d b cc o hb
 obtain⟨s0,s1,s2,s3⟩:=b4 (w.heap.size+1) at_ level held a 0 c hb
 have sR:=res_bl (b:=w.heap.size+1) (res_bl (res_new _ _ _ _ _ _ (by simp)) k1) hb
 have rR:=res_bl (b:=w.heap.size+1+1) (res_new _ _ _ _ _ _ (by simp)) hb
 have hB:Below w.heap.size w w1:=hx
 have lb_p:=lbc p0
 have lb_s:=lbc s0
 clear hb hx
 go_wp2_with fail
 refine(HCL.out _).mono ?_
 rintro e w9 ⟨rfl,rfl⟩
 go_wp2_with fail
 refine(HMU.out _).mono ?_
 rintro e w2 ⟨rfl,hb⟩
 have hsz2:w1.heap.size+0≤w2.heap.size:=szl hb
 replace p0:=bl_cell hb p0
 replace p1:=bl_cell hb p1
 replace p2:=bl_cell hb p2
 replace p3:=bl_cell hb p3
 replace p4:=bl_cell hb p4
 replace p5:=bl_cell hb p5
 replace s0:=bl_cell hb s0
 replace s1:=bl_cell hb s1
 replace s2:=bl_cell hb s2
 replace s3:=bl_cell hb s3
 replace sR:=res_bl sR hb
 replace rR:=res_bl rR hb
 replace hB:Below w.heap.size w w2:=bl_then hB hb
 replace lb_p:=lbc p0
 replace lb_s:=lbc s0
 clear hb
 obtain⟨f0,f1,f2,f3,u0,u1,u2,u3,i0,i1,i2,i3⟩:=res_all rR
 have ne:=(show w.heap.size+1≠w.heap.size+1+1 by omega)
 go_wp2_with fail
 (try simp only[Exit.inBlock,Exit.then,Exit.noGoto_ret])
 refine bodyPost_ret (results_state rfl _ _ (by rfl) (set4r (rR))) rfl ⟨rfl,bl4 (hB) (by omega)⟩
theorem r5adv_over (p:Pol) (s:St) (a:Option Addr) (n c:Nat) (now:Int) (w:World) (hl:LogAt w a n c s.log) (h:rightG p s) (ht:s.at_<clampT now) (hm:mulOk (clampT now - s.at_) p.limit=false):Calls Tryz.prog 90 #[p.v,s.v a n c,.int .i64 now] w (PostS a n (advG p s now) w):=by
 have hrt:=fun w=>r5right_any p s a n c hl.1 w
 rw[decide_eq_true h] at hrt
 rw[advG_most h ht (.inl hm)]
 have hn0:n=0:=by rw[← hl.1,h.2.2.2.2.2.2.2];rfl
 have hc:=hl.2.2.1
 have hL:=h.2.2.2.2.2.2.2
 have hcl:=rclamp_any now
 have hcr:=clampT_range now
 have hA0:=h.2.1
 have hmu:=rmul_any (clampT now - s.at_) p.limit (by omega) (by omega) (by have:=h.1.2.1;have:=h.1;unfold okG at this;omega) (by have:=h.1;unfold okG at this;omega)
 unfold rightG okG at h
 obtain⟨k,l,d,b,cc,o⟩:=p
 obtain⟨at_,level,held,L⟩:=s
 unfold St.v Pol.v at *
 dsimp only at *
 subst hn0 hL
 generalize clampT now=T at *
 refine Calls.mono (R:=fun e w'=>e=.returned (.agg #[.int .i64 (T),.int .i64 (level - (level - held*d)),.int .i64 held,.slice none 0 0])∧Below w.heap.size w w') ?_ (fun e w' hh=>⟨none,0,0,hh.1,log_nil _ _ _ (by omega),.inl rfl,hh.2⟩)
 have hH:held*d≤1152921504606846976:=prod_le (by omega) (by omega) (by omega)
 have hH0:0≤held*d:=Int.mul_nonneg (by omega) (by omega)
 have hV:b*d≤1152921504606846976:=prod_le (by omega) (by omega) (by omega)
 have wa1:IntKind.i64.wrap (held*d)=held*d:=IntWalk.i64_in _ (by omega)
 have wa2:IntKind.i64.wrap (level - held*d)=level - held*d:=IntWalk.i64_in _ (by omega)
 have wa3:IntKind.i64.wrap (T - at_)=T - at_:=IntWalk.i64_in _ (by omega)
 rw[hm] at hmu
 generalize mulN (T - at_) l=N at *
 have wa5:IntKind.i64.wrap (level - (level - held*d))=level - (level - held*d):=IntWalk.i64_in _ (by omega)
 have ht':¬ T≤at_:=by omega
 clear hm ht
 clear hH hH0 hV hcr hA0
 clear h hl
 have HRT:=Go.Lib.hid hrt
 have HCL:=Go.Lib.hid hcl
 clear hrt hcl
 have HMU:=Go.Lib.hid hmu
 clear hmu
 go_enter Tryz.func90,Tryz.ntmps90
 go_wp2_with fail
 refine(HRT.out _).mono ?_
 rintro e w1 ⟨rfl,hb⟩
 have hx:Below w.heap.size w w1:=bl_then k3 hb
 have hsz1:w.heap.size+3≤w1.heap.size:=szl hb
 obtain⟨p0,p1,p2,p3,p4,p5⟩:=b6 (w.heap.size) k l d b cc o hb
 obtain⟨s0,s1,s2,s3⟩:=b4 (w.heap.size+1) at_ level held a 0 c hb
 have sR:=res_bl (b:=w.heap.size+1) (res_bl (res_new _ _ _ _ _ _ (by simp)) k1) hb
 have rR:=res_bl (b:=w.heap.size+1+1) (res_new _ _ _ _ _ _ (by simp)) hb
 have hB:Below w.heap.size w w1:=hx
 have lb_p:=lbc p0
 have lb_s:=lbc s0
 clear hb hx
 go_wp2_with fail
 refine(HCL.out _).mono ?_
 rintro e w9 ⟨rfl,rfl⟩
 go_wp2_with fail
 refine(HMU.out _).mono ?_
 rintro e w2 ⟨rfl,hb⟩
 have hsz2:w1.heap.size+0≤w2.heap.size:=szl hb
 replace p0:=bl_cell hb p0
 replace p1:=bl_cell hb p1
 replace p2:=bl_cell hb p2
 replace p3:=bl_cell hb p3
 replace p4:=bl_cell hb p4
 replace p5:=bl_cell hb p5
 replace s0:=bl_cell hb s0
 replace s1:=bl_cell hb s1
 replace s2:=bl_cell hb s2
 replace s3:=bl_cell hb s3
 replace sR:=res_bl sR hb
 replace rR:=res_bl rR hb
 replace hB:Below w.heap.size w w2:=bl_then hB hb
 replace lb_p:=lbc p0
 replace lb_s:=lbc s0
 clear hb
 obtain⟨f0,f1,f2,f3,u0,u1,u2,u3,i0,i1,i2,i3⟩:=res_all rR
 have ne:=(show w.heap.size+1≠w.heap.size+1+1 by omega)
 go_wp2_with fail
 (try simp only[Exit.inBlock,Exit.then,Exit.noGoto_ret])
 refine bodyPost_ret (results_state rfl _ _ (by rfl) (set4r (rR))) rfl ⟨rfl,bl4 (hB) (by omega)⟩
theorem r5adv_any (p:Pol) (s:St) (a:Option Addr) (n c:Nat) (now:Int) (w:World) (hl:LogAt w a n c s.log):Calls Tryz.prog 90 #[p.v,s.v a n c,.int .i64 now] w (PostS a n (advG p s now) w):=by
 by_cases h:rightG p s
 ·by_cases ht:clampT now≤s.at_
  ·exact r5adv_stay p s a n c now w hl h ht
  ·by_cases hm:mulOk (clampT now - s.at_) p.limit=true
   ·by_cases hn:mulN (clampT now - s.at_) p.limit≤s.level - s.held*p.period
    ·exact r5adv_less p s a n c now w hl h (by omega) hm hn
    ·exact r5adv_most p s a n c now w hl h (by omega) hm (by omega)
   ·exact r5adv_over p s a n c now w hl h (by omega) (by simpa using hm)
 ·exact r5adv_no p s a n c now w hl h
theorem r5room_no (p:Pol) (s:St) (a:Option Addr) (n c:Nat) (now:Int) (w:World) (hl:LogAt w a n c s.log) (h:¬ rightG p s):Calls Tryz.prog 133 #[p.v,s.v a n c,.int .i64 now] w fun e w'=>e=.returned (.int .i64 (roomG p s now))∧Below w.heap.size w w':=by
 have hrt:=fun w=>r5right_any p s a n c hl.1 w
 unfold roomG
 rw[if_neg h]
 rw[decide_eq_false h] at hrt
 clear h hl
 obtain⟨k,l,d,b,cc,o⟩:=p
 obtain⟨at_,level,held,L⟩:=s
 unfold St.v Pol.v at *
 dsimp only at *
 have HRT:=Go.Lib.hid hrt
 clear hrt
 go_enter Tryz.func133,Tryz.ntmps133
 go_wp2_with fail
 refine(HRT.out _).mono ?_
 rintro e w1 ⟨rfl,hb⟩
 have hx:Below w.heap.size w w1:=bl_then k2 hb
 have hsz1:w.heap.size+2≤w1.heap.size:=szl hb
 obtain⟨p0,p1,p2,p3,p4,p5⟩:=b6 (w.heap.size) k l d b cc o hb
 obtain⟨s0,s1,s2,s3⟩:=b4 (w.heap.size+1) at_ level held a n c hb
 have sR:=res_bl (b:=w.heap.size+1) (res_new _ _ _ _ _ _ (by simp)) hb
 have hB:Below w.heap.size w w1:=hx
 have lb_p:=lbc p0
 have lb_s:=lbc s0
 clear hb hx
 go_wp2_with fail
 go_ret
 exact⟨rfl,hB⟩
theorem r5room_yes (p:Pol) (s:St) (a:Option Addr) (n c:Nat) (now:Int) (w:World) (hl:LogAt w a n c s.log) (h:rightG p s)  : Calls Tryz.prog 133 #[p.v,s.v a n c,.int .i64 now] w fun e w'=>e=.returned (.int .i64 (roomG p s now))∧Below w.heap.size w w':=by
 have hrt:=fun w=>r5right_any p s a n c hl.1 w
 rw[decide_eq_true h] at hrt
 have hav:=fun w hw=>r5adv_any p s a n c now w hw
 unfold PostS at hav
 have hlv:=advG_level p s now h
 have hd:=h.1.2.2.2.2.2.2.1
 have hD:=h.1.2.2.2.2.2.2.2
 have hbm:=h.1.2.2.2.2.2.1
 have hb0:=h.1.2.2.2.2.1
 have hro:=fun c=>roomG_le (now:=now) (c:=c) h
 have hr0:0≤roomG p s now:=(hro 0).2 (by omega)
 have hr1:roomG p s now≤p.burst:=by have h3:¬ p.burst+1≤roomG p s now:=(fun z=>by have h4:=(hro _).1 z;rw[Int.add_mul] at h4;omega);omega
 generalize roomG p s now=RO at *
 clear h
 generalize advG p s now=A at *
 obtain⟨aat,alv,ahd,alg⟩:=A
 obtain⟨k,l,d,b,cc,o⟩:=p
 obtain⟨at_,level,held,L⟩:=s
 unfold St.v Pol.v at *
 dsimp only at *
 obtain⟨g0,gx,gy,g2⟩:=hlv
 have g1:0≤alv:=by omega
 have HST:=Go.Lib.hid (show 0≤(0:Int)∧0≤RO∧RO≤b∧b≤b by omega)
 have HRO:=Go.Lib.hid hro
 have hw:IntKind.i64.wrap (b*d)=b*d:=IntWalk.i64_in _ (by omega)
 have HWB:=Go.Lib.hid hw
 clear hro hr0 hr1 hw gx gy
 have FL:=fld_level
 have HRT:=Go.Lib.hid hrt
 have HAV:=Go.Lib.hid hav
 have HL:=Go.Lib.hid hl
 clear hrt hav hl
 go_enter Tryz.func133,Tryz.ntmps133
 go_wp2_with fail
 refine(HRT.out _).mono ?_
 rintro e w1 ⟨rfl,hb⟩
 have hx:Below w.heap.size w w1:=bl_then k2 hb
 have hsz1:w.heap.size+2≤w1.heap.size:=szl hb
 obtain⟨p0,p1,p2,p3,p4,p5⟩:=b6 (w.heap.size) k l d b cc o hb
 obtain⟨s0,s1,s2,s3⟩:=b4 (w.heap.size+1) at_ level held a n c hb
 have sR:=res_bl (b:=w.heap.size+1) (res_new _ _ _ _ _ _ (by simp)) hb
 have hB:Below w.heap.size w w1:=hx
 have lb_p:=lbc p0
 have lb_s:=lbc s0
 clear hb hx
 go_wp2_with fail
 refine(HAV.out _ (log_bl HL.out (hB))).mono ?_
 rintro e w2 ⟨a1,n1,c1,rfl,-,-,hb⟩
 have hsz2:w1.heap.size+0≤w2.heap.size:=szl hb
 replace p0:=bl_cell hb p0
 replace p1:=bl_cell hb p1
 replace p2:=bl_cell hb p2
 replace p3:=bl_cell hb p3
 replace p4:=bl_cell hb p4
 replace p5:=bl_cell hb p5
 replace s0:=bl_cell hb s0
 replace s1:=bl_cell hb s1
 replace s2:=bl_cell hb s2
 replace s3:=bl_cell hb s3
 replace sR:=res_bl sR hb
 replace hB:Below w.heap.size w w2:=bl_then hB hb
 replace lb_p:=lbc p0
 replace lb_s:=lbc s0
 clear hb
 go_wp2_with fail
 go_loop [8,9] (fun s8 s9=>∃ lo hi:Int,s8=.int .i64 lo∧s9=.int .i64 hi∧Hid (0≤lo∧lo≤RO∧RO≤hi∧hi≤b)) (fun s8 s9=>(intOf s9 - intOf s8).toNat)
 case atStart=>exact⟨0,b,rfl,rfl,HST.out⟩
 case round =>
  obtain⟨lo,hi,rfl,rfl,H⟩:=hrel
  obtain⟨q0,q1,q2,q3⟩:=H.out
  have hro:=HRO.out ((lo+hi+1) / 2)
  have wb:=HWB.out
  by_cases hlt:lo<hi
  ·have e1:lo<(lo+hi+1) / 2:=by omega
   have e2:(lo+hi+1) / 2≤hi:=by omega
   have e3:0≤(lo+hi+1) / 2*d:=Int.mul_nonneg (by omega) (by omega)
   have e4:(lo+hi+1) / 2*d≤1152921504606846976:=prod_le (by omega) (by omega) (by omega)
   have wc:IntKind.i64.wrap ((lo+hi+1) / 2*d)=(lo+hi+1) / 2*d:=IntWalk.i64_in _ (by omega)
   have wd:IntKind.i64.wrap (alv+(lo+hi+1) / 2*d)=alv+(lo+hi+1) / 2*d:=IntWalk.i64_in _ (by omega)
   have we:Int.tdiv (lo+hi+1) 2=(lo+hi+1) / 2:=Int.tdiv_eq_ediv_of_nonneg (by omega)
   have wf:IntKind.i64.wrap (lo+hi)=lo+hi:=IntWalk.i64_in _ (by omega)
   have wg:IntKind.i64.wrap (lo+hi+1)=lo+hi+1:=IntWalk.i64_in _ (by omega)
   have wh:IntKind.i64.wrap ((lo+hi+1) / 2)=(lo+hi+1) / 2:=IntWalk.i64_in _ (by omega)
   have wi:IntKind.i64.wrap ((lo+hi+1) / 2 - 1)=(lo+hi+1) / 2 - 1:=IntWalk.i64_in _ (by omega)
   have hH:=H.out
   generalize (lo+hi+1) / 2=C at *
   by_cases hc:alv+C*d≤b*d
   ·have hlo:C≤RO:=hro.2 hc
    have HP:=Go.Lib.hid (show 0≤C∧C≤RO∧RO≤hi∧hi≤b by omega)
    have HM:=Go.Lib.hid (show(hi - C).toNat<(hi - lo).toNat by omega)
    clear hro hlo e1 e2 e3 e4 q0 q1 q2 q3 H hH g0 g1 g2 hd hD hbm hb0
    go_wp2_with go_step3
    go_round
    case rel=>exact⟨C,hi,rfl,rfl,HP⟩
    case measure=>(simp[intOf];have:=HM.out;omega)
   ·have hhi:RO≤C - 1:=by have h3:¬ C≤RO:=fun z=>hc (hro.1 z);omega
    have HP:=Go.Lib.hid (show 0≤lo∧lo≤RO∧RO≤C - 1∧C - 1≤b by omega)
    have HM:=Go.Lib.hid (show(C - 1 - lo).toNat<(hi - lo).toNat by omega)
    clear hro hhi e1 e2 e3 e4 q0 q1 q2 q3 H hH g0 g1 g2 hd hD hbm hb0
    go_wp2_with go_step3
    go_round
    case rel=>exact⟨lo,C - 1,rfl,rfl,HP⟩
    case measure=>(simp[intOf];have:=HM.out;omega)
  ·have he:lo=RO:=by omega
   subst he
   go_wp2_with go_step3
   go_ret
   exact⟨rfl,hB⟩
theorem r5room_any (p:Pol) (s:St) (a:Option Addr) (n c:Nat) (now:Int) (w:World) (hl:LogAt w a n c s.log):Calls Tryz.prog 133 #[p.v,s.v a n c,.int .i64 now] w fun e w'=>e=.returned (.int .i64 (roomG p s now))∧Below w.heap.size w w':=by
 by_cases h:rightG p s
 ·exact r5room_yes p s a n c now w hl h
 ·exact r5room_no p s a n c now w hl h
theorem r5until_no (p:Pol) (s:St) (a:Option Addr) (n c:Nat) (now:Int) (w:World) (hl:LogAt w a n c s.log) (h:¬ rightG p s):Calls Tryz.prog 49 #[p.v,s.v a n c,.int .i64 now] w fun e w'=>e=.returned (.int .i64 (untilG p s now))∧Below w.heap.size w w':=by
 have hrt:=fun w=>r5right_any p s a n c hl.1 w
 unfold untilG
 rw[if_neg (fun z=>h z.1)]
 rw[decide_eq_false h] at hrt
 clear h hl
 obtain⟨k,l,d,b,cc,o⟩:=p
 obtain⟨at_,level,held,L⟩:=s
 unfold St.v Pol.v at *
 dsimp only at *
 have HRT:=Go.Lib.hid hrt
 clear hrt
 go_enter Tryz.func49,Tryz.ntmps49
 go_wp2_with fail
 refine(HRT.out _).mono ?_
 rintro e w1 ⟨rfl,hb⟩
 have hx:Below w.heap.size w w1:=bl_then k2 hb
 have hsz1:w.heap.size+2≤w1.heap.size:=szl hb
 obtain⟨p0,p1,p2,p3,p4,p5⟩:=b6 (w.heap.size) k l d b cc o hb
 obtain⟨s0,s1,s2,s3⟩:=b4 (w.heap.size+1) at_ level held a n c hb
 have sR:=res_bl (b:=w.heap.size+1) (res_new _ _ _ _ _ _ (by simp)) hb
 have hB:Below w.heap.size w w1:=hx
 have lb_p:=lbc p0
 have lb_s:=lbc s0
 clear hb hx
 go_wp2_with fail
 go_ret
 exact⟨rfl,hB⟩
theorem r5until_held (p:Pol) (s:St) (a:Option Addr) (n c:Nat) (now:Int) (w:World) (hl:LogAt w a n c s.log) (h:rightG p s) (hh:0<s.held):Calls Tryz.prog 49 #[p.v,s.v a n c,.int .i64 now] w fun e w'=>e=.returned (.int .i64 (untilG p s now))∧Below w.heap.size w w':=by
 have hrt:=fun w=>r5right_any p s a n c hl.1 w
 unfold untilG
 rw[if_neg (fun z=>by have:=z.2;omega)]
 rw[decide_eq_true h] at hrt
 clear h hl
 obtain⟨k,l,d,b,cc,o⟩:=p
 obtain⟨at_,level,held,L⟩:=s
 unfold St.v Pol.v at *
 dsimp only at *
 have HRT:=Go.Lib.hid hrt
 clear hrt
 go_enter Tryz.func49,Tryz.ntmps49
 go_wp2_with fail
 refine(HRT.out _).mono ?_
 rintro e w1 ⟨rfl,hb⟩
 have hx:Below w.heap.size w w1:=bl_then k2 hb
 have hsz1:w.heap.size+2≤w1.heap.size:=szl hb
 obtain⟨p0,p1,p2,p3,p4,p5⟩:=b6 (w.heap.size) k l d b cc o hb
 obtain⟨s0,s1,s2,s3⟩:=b4 (w.heap.size+1) at_ level held a n c hb
 have sR:=res_bl (b:=w.heap.size+1) (res_new _ _ _ _ _ _ (by simp)) hb
 have hB:Below w.heap.size w w1:=hx
 have lb_p:=lbc p0
 have lb_s:=lbc s0
 clear hb hx
 go_wp2_with fail
 go_ret
 exact⟨rfl,hB⟩
theorem r5until_yes (p:Pol) (s:St) (a:Option Addr) (n c:Nat) (now:Int) (w:World) (hl:LogAt w a n c s.log) (h:rightG p s) (hh:s.held≤0):Calls Tryz.prog 49 #[p.v,s.v a n c,.int .i64 now] w fun e w'=>e=.returned (.int .i64 (untilG p s now))∧Below w.heap.size w w':=by
 have hrt:=fun w=>r5right_any p s a n c hl.1 w
 rw[decide_eq_true h] at hrt
 have hav:=fun w hw=>r5adv_any p s a n c now w hw
 unfold PostS at hav
 have hlv:=advG_level p s now h
 have hd:=h.1.2.2.2.2.2.2.1
 have hD:=h.1.2.2.2.2.2.2.2
 have hbm:=h.1.2.2.2.2.2.1
 have hb0:=h.1.2.2.2.2.1
 unfold untilG
 rw[if_pos ⟨h,hh⟩]
 have hls:=fun w=>rlasts5_any p (advG p s now).level w h.1.2.2.1 h.1.2.2.2.1 (by omega)
 clear h
 generalize advG p s now=A at *
 obtain⟨aat,alv,ahd,alg⟩:=A
 obtain⟨k,l,d,b,cc,o⟩:=p
 obtain⟨at_,level,held,L⟩:=s
 unfold St.v Pol.v at *
 dsimp only at *
 have hh':¬ 0<held:=by omega
 generalize ceilD alv l=RC at *
 clear hlv hd hD hbm hb0 hh
 have FL:=fld_level
 have HLS:=Go.Lib.hid hls
 clear hls
 have HRT:=Go.Lib.hid hrt
 have HAV:=Go.Lib.hid hav
 have HL:=Go.Lib.hid hl
 clear hrt hav hl
 go_enter Tryz.func49,Tryz.ntmps49
 go_wp2_with fail
 refine(HRT.out _).mono ?_
 rintro e w1 ⟨rfl,hb⟩
 have hx:Below w.heap.size w w1:=bl_then k2 hb
 have hsz1:w.heap.size+2≤w1.heap.size:=szl hb
 obtain⟨p0,p1,p2,p3,p4,p5⟩:=b6 (w.heap.size) k l d b cc o hb
 obtain⟨s0,s1,s2,s3⟩:=b4 (w.heap.size+1) at_ level held a n c hb
 have sR:=res_bl (b:=w.heap.size+1) (res_new _ _ _ _ _ _ (by simp)) hb
 have hB:Below w.heap.size w w1:=hx
 have lb_p:=lbc p0
 have lb_s:=lbc s0
 clear hb hx
 go_wp2_with fail
 refine wp_region_held_drew (S:=fun w'=>P6 w' (w.heap.size) k l d b cc o (S4 w' (w.heap.size+1) at_ level held a n c (ResB w' (w.heap.size+1)∧Below w.heap.size w w'))) (by kernel_rfl) ?_ (fun hHeld=>?_)
 ·exact⟨p0,p1,p2,p3,p4,p5,s0,s1,s2,s3,sR,bl_drew hB⟩
 try simp only[Act.put,List.setIfInBounds_toArray,List.set_cons_zero,List.set_cons_succ]
 refine tkx 0 ?_
 refine tkx 1 ?_
 refine tkx 2 ?_
 refine tkx 3 ?_
 (refine callH (i:=4) rfl hHeld (fun W hW K hK=>?_);clear hHeld;(try dsimp only at hW);obtain⟨h_p0,h_p1,h_p2,h_p3,h_p4,h_p5,h_s0,h_s1,h_s2,h_s3,h_sR,h_B⟩:=hW;go_simp;refine(HAV.out W (log_bl HL.out h_B)).mono ?_;rintro e w9 ⟨a1,n1,c1,rfl,-,-,hb⟩;go_wp2_with fail;refine hK.out _ _ ?_ (fun hHeld=>?_);(focus((try dsimp only);exact⟨bl_cell hb h_p0,bl_cell hb h_p1,bl_cell hb h_p2,bl_cell hb h_p3,bl_cell hb h_p4,bl_cell hb h_p5,bl_cell hb h_s0,bl_cell hb h_s1,bl_cell hb h_s2,bl_cell hb h_s3,res_bl h_sR hb,bl_then h_B hb⟩));clear hK K;clear h_p0 h_p1 h_p2 h_p3 h_p4 h_p5 h_s0 h_s1 h_s2 h_s3 h_sR h_B;try simp only[Act.put,List.setIfInBounds_toArray,List.set_cons_zero,List.set_cons_succ])
 refine tkx 5 ?_
 (refine callH (i:=6) rfl hHeld (fun W hW K hK=>?_);clear hHeld;(try dsimp only at hW);obtain⟨h_p0,h_p1,h_p2,h_p3,h_p4,h_p5,h_s0,h_s1,h_s2,h_s3,h_sR,h_B⟩:=hW;go_simp;refine(HLS.out W).mono ?_;rintro e w9 ⟨rfl,hb⟩;go_wp2_with fail;refine hK.out _ _ ?_ (fun hHeld=>?_);(focus((try dsimp only);exact⟨bl_cell hb h_p0,bl_cell hb h_p1,bl_cell hb h_p2,bl_cell hb h_p3,bl_cell hb h_p4,bl_cell hb h_p5,bl_cell hb h_s0,bl_cell hb h_s1,bl_cell hb h_s2,bl_cell hb h_s3,res_bl h_sR hb,bl_then h_B hb⟩));clear hK K;clear h_p0 h_p1 h_p2 h_p3 h_p4 h_p5 h_s0 h_s1 h_s2 h_s3 h_sR h_B;try simp only[Act.put,List.setIfInBounds_toArray,List.set_cons_zero,List.set_cons_succ])
 refine tkx 7 ?_
 refine wpAnyH_done (by kernel_rfl) ?_ _
 refine then_abs (F:=fun w'=>P6 w' (w.heap.size) k l d b cc o (S4 w' (w.heap.size+1) at_ level held a n c (ResB w' (w.heap.size+1)∧Below w.heap.size w w'))) hHeld ?_
 clear hHeld hB p0 p1 p2 p3 p4 p5 s0 s1 s2 s3 sR
 rintro w2 ⟨p0,p1,p2,p3,p4,p5,s0,s1,s2,s3,sR,hB⟩
 replace lb_p:=lbc p0
 replace lb_s:=lbc s0
 go_wp2_with fail
 go_ret
 exact⟨rfl,hB⟩
theorem r5until_any (p:Pol) (s:St) (a:Option Addr) (n c:Nat) (now:Int) (w:World) (hl:LogAt w a n c s.log):Calls Tryz.prog 49 #[p.v,s.v a n c,.int .i64 now] w fun e w'=>e=.returned (.int .i64 (untilG p s now))∧Below w.heap.size w w':=by
 by_cases h:rightG p s
 ·by_cases hh:s.held≤0
  ·exact r5until_yes p s a n c now w hl h hh
  ·exact r5until_held p s a n c now w hl h (by omega)
 ·exact r5until_no p s a n c now w hl h
end Go.Proofs.YtmhikkbdhboodaaGreat
