/-
  What the laws' did does with cells.
  Policies, states and acts among a law's arguments, opened to their cells.
  Cells, and what is done with them, among a law's arguments, opened.
  How long the laws' list is: some number.
  The cell that the laws make themselves.
  What is known of cells: true.
  What a step keeps, in plain Lean.
  What the document's Set answers where the cell is kept.
  What the document's Set answers, whole.
  What the document's Step answers.
  No condition.
-/
import Derived.Test.YtmhikkbdhboodaaGreatZc1
import Derived.Test.YtmhikkbdhboodaaGreatZc6
import Derived.Test.YtmhikkbdhboodaaGreatZc14
import Derived.Deep.Slices
import Derived.Deep.Fields
import Derived.ChangeSame
set_option maxHeartbeats 8000000
set_option maxRecDepth 100000
namespace Go.Proofs.YtmhikkbdhboodaaGreat
open Go.RowKit Go.Maps
set_option linter.unusedVariables false
set_option linter.unusedSimpArgs false

variable {w w':World} {p p':CsP} {room nx nx':Nat} {m m':List (Int × Value)} {I A B:List CI}
theorem csof_any {base:Nat} {Js:List LC} (r:Int) (v:Value) (d:CD) (w:World) (h:CRow w base v Js) (hl:LogAt w d.a d.n d.c d.x.st.log) (hN:Js.length≤100000) (hs:d.x.key.length≤maxLen) :
  Calls Tryz.prog 43 #[TV r v,d.v] w fun e w'=>∃ (a':Option Addr) (n' c':Nat),e=.returned ((cOf (Js.map (·.x)) d).v a' n' c')∧LogAt w' a' n' c' (cOf (Js.map (·.x)) d).st.log∧OfSrc w d Js a' n'∧Below w.heap.size w w':=by
 by_cases hd:d.kind=3
 ·exact rof_take r v d w h hl hN hs hd
 ·exact rof_plain r v d w h hl hN hs hd
theorem step_then {wz:World} {L':List Cl} (h:CsStep w' p room nx L' wz) (hb:Below w.heap.size w w') (hlt:∀ q,CF p q→q<w.heap.size):CsStep w p room nx L' wz:=by
 obtain⟨p',nx',h1,h2,h3,h4,h5⟩:=h
 exact⟨p',nx',h1,h2,h3,(Only.of_below hb).trans h4,fun q hq=>(h5 q hq).imp id (fun e=>Nat.le_trans hb.size e)⟩
theorem did_any {Js:List LC} (v:Value) (d:CD) (w:World) (hc:CellsAt w p room nx (Js.map (·.x))) (h:CRow w 0 v Js) (hl:LogAt w d.a d.n d.c d.x.st.log) (hN:Js.length≤10000) (hs:d.x.key.length≤maxLen) (hnx:nx<4611686018427387904) (hfd:∀ ad,d.a=some ad→d.n≠0→¬ CF p ad.block) (hfj:∀ i ∈ Js,∀ ad,i.a=some ad→i.n≠0→¬ CF p ad.block) :
  Calls Tryz.prog 33 #[.pointer (some ⟨p.b,0,none⟩),TV room v,d.v] w fun e w'=>e=.returned (.int .i64 (cStep room (Js.map (·.x)) d).2)∧CsStep w p room nx (cStep room (Js.map (·.x)) d).1 w':=by
 obtain⟨ra,rc,rfl⟩:=cs_form h.1
 obtain⟨N,hNe⟩:∃ N,N=Js.length:=⟨_,rfl⟩
 have HROW:=Go.Lib.hid (show CRow w 0 (.slice ra N rc) Js by rw[hNe];exact h)
 rw[← hNe]
 have hlt:=cells_lt hc
 have HLT:=Go.Lib.hid hlt
 have HC:=Go.Lib.hid hc
 have HLG:=Go.Lib.hid hl
 have HFD:=Go.Lib.hid hfd
 have HFJ:=Go.Lib.hid hfj
 have hsw:=fun W (hW:CellsAt W p room nx (Js.map (·.x)))=>csweep_any d.now hW hnx
 have hof:=fun W (hW:CRow W 0 (.slice ra N rc) Js) (hL:LogAt W d.a d.n d.c d.x.st.log)=>csof_any (room:Int) (.slice ra N rc) d W hW hL (by omega) hs
 have hset:=fun(a':Option Addr) (n' c':Nat) W (hW:CellsAt W p room nx (Js.map (·.x))) hL hF=>csset_any (cOf (Js.map (·.x)) d) a' n' c' d.now hW hL hF (by rw[cOf_key];exact hs) hnx
 obtain⟨XO,hXO⟩:∃ x,x=cOf (Js.map (·.x)) d:=⟨_,rfl⟩
 rw[← hXO] at hof hset
 have hst:cStep room (Js.map (·.x)) d=if d.kind=2 then cSweep (Js.map (·.x)) d.now else cSet room (Js.map (·.x)) XO d.now:=by unfold cStep;rw[hXO]
 rw[hst]
 clear hst hXO hlt hc h hl hfd hfj hNe
 unfold OfSrc at hof
 obtain⟨dk,⟨key,⟨k,l,d,b,cc,o⟩,⟨at_,level,held,LG⟩⟩,a,n,c,dnow,dcost⟩:=d
 unfold TV CD.v at *
 dsimp only at *
 generalize ktx key=KY at *
 have HSW:=Go.Lib.hid hsw
 have HOF:=Go.Lib.hid hof
 have HSET:=Go.Lib.hid hset
 clear hsw hof hset
 by_cases hd:dk=2
 ·subst hd
  rw[if_pos rfl]
  go_enter Tryz.func33,Tryz.ntmps33
  go_wp2_with fail
  skip
  refine calls_abs (S0:=fun X=>(fun w'=>w'.cell? ⟨w.heap.size,0,none⟩=some (.int .i64 (room:Int))∧w'.cell? ⟨w.heap.size,1,none⟩=some (.slice ra N rc)∧w'.cell? ⟨w.heap.size+1,0,none⟩=some (.int .i64 2)∧w'.cell? ⟨w.heap.size+1,1,none⟩=some (.string KY)∧w'.cell? ⟨w.heap.size+1,2,none⟩=some (.int .i64 k)∧w'.cell? ⟨w.heap.size+1,3,none⟩=some (.int .i64 l)∧w'.cell? ⟨w.heap.size+1,4,none⟩=some (.int .i64 d)∧w'.cell? ⟨w.heap.size+1,5,none⟩=some (.int .i64 b)∧w'.cell? ⟨w.heap.size+1,6,none⟩=some (.int .i64 cc)∧w'.cell? ⟨w.heap.size+1,7,none⟩=some (.bool o)∧w'.cell? ⟨w.heap.size+1,8,none⟩=some (.int .i64 at_)∧w'.cell? ⟨w.heap.size+1,9,none⟩=some (.int .i64 level)∧w'.cell? ⟨w.heap.size+1,10,none⟩=some (.int .i64 held)∧w'.cell? ⟨w.heap.size+1,11,none⟩=some (.slice a n c)∧w'.cell? ⟨w.heap.size+1,12,none⟩=some (.int .i64 dnow)∧w'.cell? ⟨w.heap.size+1,13,none⟩=some (.int .i64 dcost)∧Below w.heap.size w w') X∧w.heap.size+2≤X.heap.size) ⟨⟨by go_simp,by go_simp,by go_simp,by go_simp,by go_simp,by go_simp,by go_simp,by go_simp,by go_simp,by go_simp,by go_simp,by go_simp,by go_simp,by go_simp,by go_simp,by go_simp,k2⟩,by simp⟩ ?_
  rintro w1 ⟨⟨tb0,tb1,db0,db1,db2,db3,db4,db5,db6,db7,db8,db9,db10,db11,db12,db13,hB⟩,hsz1⟩
  have lb_tb:=lbc tb0
  have lb_db:=lbc db0
  have lb_db1:=lbc db10
  refine(HSW.out _ (cells_bl HC.out hB)).mono ?_
  rintro e w9 ⟨rfl,hpost⟩
  have HP:=Go.Lib.hid hpost
  clear hpost
  go_wp2_with fail
  go_ret
  exact⟨rfl,step_then HP.out hB HLT.out⟩
 ·rw [if_neg hd]
  go_enter Tryz.func33,Tryz.ntmps33
  go_wp2_with fail
  skip
  refine wp_abs (S0:=fun X=>(fun w'=>w'.cell? ⟨w.heap.size,0,none⟩=some (.int .i64 (room:Int))∧w'.cell? ⟨w.heap.size,1,none⟩=some (.slice ra N rc)∧w'.cell? ⟨w.heap.size+1,0,none⟩=some (.int .i64 dk)∧w'.cell? ⟨w.heap.size+1,1,none⟩=some (.string KY)∧w'.cell? ⟨w.heap.size+1,2,none⟩=some (.int .i64 k)∧w'.cell? ⟨w.heap.size+1,3,none⟩=some (.int .i64 l)∧w'.cell? ⟨w.heap.size+1,4,none⟩=some (.int .i64 d)∧w'.cell? ⟨w.heap.size+1,5,none⟩=some (.int .i64 b)∧w'.cell? ⟨w.heap.size+1,6,none⟩=some (.int .i64 cc)∧w'.cell? ⟨w.heap.size+1,7,none⟩=some (.bool o)∧w'.cell? ⟨w.heap.size+1,8,none⟩=some (.int .i64 at_)∧w'.cell? ⟨w.heap.size+1,9,none⟩=some (.int .i64 level)∧w'.cell? ⟨w.heap.size+1,10,none⟩=some (.int .i64 held)∧w'.cell? ⟨w.heap.size+1,11,none⟩=some (.slice a n c)∧w'.cell? ⟨w.heap.size+1,12,none⟩=some (.int .i64 dnow)∧w'.cell? ⟨w.heap.size+1,13,none⟩=some (.int .i64 dcost)∧Below w.heap.size w w') X∧w.heap.size+2≤X.heap.size) ⟨⟨by go_simp,by go_simp,by go_simp,by go_simp,by go_simp,by go_simp,by go_simp,by go_simp,by go_simp,by go_simp,by go_simp,by go_simp,by go_simp,by go_simp,by go_simp,by go_simp,k2⟩,by simp⟩ ?_
  rintro w1 ⟨⟨tb0,tb1,db0,db1,db2,db3,db4,db5,db6,db7,db8,db9,db10,db11,db12,db13,hB⟩,hsz1⟩
  have lb_tb:=lbc tb0
  have lb_db:=lbc db0
  have lb_db1:=lbc db10
  have hzs:=hB.size
  have hsx:w.heap.size+2≤w1.heap.size:=by omega
  refine wp_region_held_drew (S:=fun X=>X.cell? ⟨w.heap.size,0,none⟩=some (.int .i64 (room:Int))∧X.cell? ⟨w.heap.size,1,none⟩=some (.slice ra N rc)∧X.cell? ⟨w.heap.size+1,0,none⟩=some (.int .i64 dk)∧X.cell? ⟨w.heap.size+1,1,none⟩=some (.string KY)∧X.cell? ⟨w.heap.size+1,2,none⟩=some (.int .i64 k)∧X.cell? ⟨w.heap.size+1,3,none⟩=some (.int .i64 l)∧X.cell? ⟨w.heap.size+1,4,none⟩=some (.int .i64 d)∧X.cell? ⟨w.heap.size+1,5,none⟩=some (.int .i64 b)∧X.cell? ⟨w.heap.size+1,6,none⟩=some (.int .i64 cc)∧X.cell? ⟨w.heap.size+1,7,none⟩=some (.bool o)∧X.cell? ⟨w.heap.size+1,8,none⟩=some (.int .i64 at_)∧X.cell? ⟨w.heap.size+1,9,none⟩=some (.int .i64 level)∧X.cell? ⟨w.heap.size+1,10,none⟩=some (.int .i64 held)∧X.cell? ⟨w.heap.size+1,11,none⟩=some (.slice a n c)∧X.cell? ⟨w.heap.size+1,12,none⟩=some (.int .i64 dnow)∧X.cell? ⟨w.heap.size+1,13,none⟩=some (.int .i64 dcost)) (by kernel_rfl) ?_ (fun hHeld=>?_)
  ·exact⟨tb0,tb1,db0,db1,db2,db3,db4,db5,db6,db7,db8,db9,db10,db11,db12,db13⟩
  try simp only[Act.put,List.setIfInBounds_toArray,List.set_cons_zero,List.set_cons_succ]
  refine wpAnyH_abs (F:=fun X=>Below w.heap.size w X) hHeld (bl_drew hB) ?_
  clear hHeld hB tb0 tb1 db0 db1 db2 db3 db4 db5 db6 db7 db8 db9 db10 db11 db12 db13
  rintro X0 hHeld hB
  refine tkx 0 ?_
  refine tkx 1 ?_
  refine tkx 2 ?_
  refine tkx 4 ?_
  refine tkx 5 ?_
  refine callC (i:=3) rfl (fun K hK=>?_)
  obtain⟨tb0,tb1,db0,db1,db2,db3,db4,db5,db6,db7,db8,db9,db10,db11,db12,db13⟩:=(id hHeld)
  go_simp
  refine(HOF.out _ (crow_bl HROW.out hB) (log_bl HLG.out hB)).mono ?_
  rintro e X3 ⟨a',n',c',rfl,hlo,hsrc,hb3⟩
  have HLO:=Go.Lib.hid hlo
  have HSRC:=Go.Lib.hid hsrc
  have HS3:Hid ((fun X=>X.cell? ⟨w.heap.size,0,none⟩=some (.int .i64 (room:Int))∧X.cell? ⟨w.heap.size,1,none⟩=some (.slice ra N rc)∧X.cell? ⟨w.heap.size+1,0,none⟩=some (.int .i64 dk)∧X.cell? ⟨w.heap.size+1,1,none⟩=some (.string KY)∧X.cell? ⟨w.heap.size+1,2,none⟩=some (.int .i64 k)∧X.cell? ⟨w.heap.size+1,3,none⟩=some (.int .i64 l)∧X.cell? ⟨w.heap.size+1,4,none⟩=some (.int .i64 d)∧X.cell? ⟨w.heap.size+1,5,none⟩=some (.int .i64 b)∧X.cell? ⟨w.heap.size+1,6,none⟩=some (.int .i64 cc)∧X.cell? ⟨w.heap.size+1,7,none⟩=some (.bool o)∧X.cell? ⟨w.heap.size+1,8,none⟩=some (.int .i64 at_)∧X.cell? ⟨w.heap.size+1,9,none⟩=some (.int .i64 level)∧X.cell? ⟨w.heap.size+1,10,none⟩=some (.int .i64 held)∧X.cell? ⟨w.heap.size+1,11,none⟩=some (.slice a n c)∧X.cell? ⟨w.heap.size+1,12,none⟩=some (.int .i64 dnow)∧X.cell? ⟨w.heap.size+1,13,none⟩=some (.int .i64 dcost)) X3):=Go.Lib.hid ⟨bl_cell hb3 tb0,bl_cell hb3 tb1,bl_cell hb3 db0,bl_cell hb3 db1,bl_cell hb3 db2,bl_cell hb3 db3,bl_cell hb3 db4,bl_cell hb3 db5,bl_cell hb3 db6,bl_cell hb3 db7,bl_cell hb3 db8,bl_cell hb3 db9,bl_cell hb3 db10,bl_cell hb3 db11,bl_cell hb3 db12,bl_cell hb3 db13⟩
  have hB3:=bl_then hB hb3
  have hs0:=hB.size
  clear hlo hsrc hb3 hB tb0 tb1 db0 db1 db2 db3 db4 db5 db6 db7 db8 db9 db10 db11 db12 db13
  unfold Cl.v
  go_wp2_with fail
  refine hK.out _ _ HS3.out (fun hHeld2=>?_)
  clear hHeld hK K
  have hHeld:=hHeld2
  clear hHeld2
  try simp only[Act.put,List.setIfInBounds_toArray,List.set_cons_zero,List.set_cons_succ]
  refine callC (i:=6) rfl (fun K hK=>?_)
  obtain⟨tb0,tb1,db0,db1,db2,db3,db4,db5,db6,db7,db8,db9,db10,db11,db12,db13⟩:=(id hHeld)
  go_simp
  refine (HSET.out a' n' c' _ (cells_bl HC.out hB3) HLO.out (fun ad e hn hq=>by
   have h1:=HLT.out _ hq
   rcases HSRC.out ad e hn with⟨h2,h3⟩|⟨i,hi,h2,h3⟩|h2
   ·exact HFD.out ad h2 h3 hq
   ·exact HFJ.out i hi ad h2 h3 hq
   ·omega)).mono ?_
  rintro e X6 ⟨rfl,hpost⟩
  have HP:=Go.Lib.hid hpost
  have hO:Only (CF p) X3 X6:=by obtain⟨p',nx',h1,h2,h3,h4,h5⟩:=hpost;exact h4
  have hxF:∀ q,w.heap.size≤q→¬ CF p q:=fun q h hq=>by have:=HLT.out q hq;omega
  have HS6:Hid ((fun X=>X.cell? ⟨w.heap.size,0,none⟩=some (.int .i64 (room:Int))∧X.cell? ⟨w.heap.size,1,none⟩=some (.slice ra N rc)∧X.cell? ⟨w.heap.size+1,0,none⟩=some (.int .i64 dk)∧X.cell? ⟨w.heap.size+1,1,none⟩=some (.string KY)∧X.cell? ⟨w.heap.size+1,2,none⟩=some (.int .i64 k)∧X.cell? ⟨w.heap.size+1,3,none⟩=some (.int .i64 l)∧X.cell? ⟨w.heap.size+1,4,none⟩=some (.int .i64 d)∧X.cell? ⟨w.heap.size+1,5,none⟩=some (.int .i64 b)∧X.cell? ⟨w.heap.size+1,6,none⟩=some (.int .i64 cc)∧X.cell? ⟨w.heap.size+1,7,none⟩=some (.bool o)∧X.cell? ⟨w.heap.size+1,8,none⟩=some (.int .i64 at_)∧X.cell? ⟨w.heap.size+1,9,none⟩=some (.int .i64 level)∧X.cell? ⟨w.heap.size+1,10,none⟩=some (.int .i64 held)∧X.cell? ⟨w.heap.size+1,11,none⟩=some (.slice a n c)∧X.cell? ⟨w.heap.size+1,12,none⟩=some (.int .i64 dnow)∧X.cell? ⟨w.heap.size+1,13,none⟩=some (.int .i64 dcost)) X6):=Go.Lib.hid ⟨only_cell hO tb0 (hxF _ (by omega)),only_cell hO tb1 (hxF _ (by omega)),only_cell hO db0 (hxF _ (by omega)),only_cell hO db1 (hxF _ (by omega)),only_cell hO db2 (hxF _ (by omega)),only_cell hO db3 (hxF _ (by omega)),only_cell hO db4 (hxF _ (by omega)),only_cell hO db5 (hxF _ (by omega)),only_cell hO db6 (hxF _ (by omega)),only_cell hO db7 (hxF _ (by omega)),only_cell hO db8 (hxF _ (by omega)),only_cell hO db9 (hxF _ (by omega)),only_cell hO db10 (hxF _ (by omega)),only_cell hO db11 (hxF _ (by omega)),only_cell hO db12 (hxF _ (by omega)),only_cell hO db13 (hxF _ (by omega))⟩
  clear hpost hO hxF tb0 tb1 db0 db1 db2 db3 db4 db5 db6 db7 db8 db9 db10 db11 db12 db13
  go_wp2_with fail
  refine hK.out _ _ HS6.out (fun hHeld2=>?_)
  clear hHeld hK K
  have hHeld:=hHeld2
  clear hHeld2
  try simp only[Act.put,List.setIfInBounds_toArray,List.set_cons_zero,List.set_cons_succ]
  refine tkx 7 ?_
  refine wpAnyH_done (by kernel_rfl) ?_ _
  clear hHeld
  go_wp2_with fail
  go_ret
  exact⟨rfl,step_then HP.out hB3 HLT.out⟩
end Go.Proofs.YtmhikkbdhboodaaGreat

namespace Go.Proofs.YtmhikkbdhboodaaGreat
open Go.RowKit Go.ChangeShapes Go.WideShapes Go.Deep
set_option linter.unusedVariables false
set_option linter.unusedSimpArgs false

theorem entry_fields:∃ f0 f1:Field,Tryz.prog.underlying 82=some (.struct #[f0,f1])∧(f0.offset=0∧f0.type=3)∧(f1.offset=1∧f1.type=3) :=
 ⟨_,_,Tryz.underlying82,⟨rfl,rfl⟩,⟨rfl,rfl⟩⟩
theorem state_fields:∃ f0 f1 f2 f3:Field,Tryz.prog.underlying 26=some (.struct #[f0,f1,f2,f3])∧(f0.offset=0∧f0.type=3)∧(f1.offset=1∧f1.type=3)∧(f2.offset=2∧f2.type=3)∧(f3.offset=3∧f3.type=24) :=
 ⟨_,_,_,_,Tryz.underlying26,⟨rfl,rfl⟩,⟨rfl,rfl⟩,⟨rfl,rfl⟩,⟨rfl,rfl⟩⟩
theorem pol_fields:∃ f0 f1 f2 f3 f4 f5:Field,Tryz.prog.underlying 23=some (.struct #[f0,f1,f2,f3,f4,f5])∧(f0.offset=0∧f0.type=3)∧(f1.offset=1∧f1.type=3)∧(f2.offset=2∧f2.type=3)∧(f3.offset=3∧f3.type=3)∧(f4.offset=4∧f4.type=3)∧(f5.offset=5∧f5.type=4) :=
 ⟨_,_,_,_,_,_,Tryz.underlying23,⟨rfl,rfl⟩,⟨rfl,rfl⟩,⟨rfl,rfl⟩,⟨rfl,rfl⟩,⟨rfl,rfl⟩,⟨rfl,rfl⟩⟩
theorem lcells_int:Tryz.prog.cellsOf 3=1:=by kernel_rfl
theorem lcells_bool:Tryz.prog.cellsOf 4=1:=by kernel_rfl
theorem lcells_entries:Tryz.prog.cellsOf 24=1:=by kernel_rfl
theorem lcells_entry:Tryz.prog.cellsOf 82=2:=by kernel_rfl
theorem lcells_state:Tryz.prog.cellsOf 26=4:=by kernel_rfl
theorem lcells_pol:Tryz.prog.cellsOf 23=6:=by kernel_rfl

theorem le_max {c:Nat} (h:c≤maxLen):c≤9223372036854775807:=by
 have e:maxLen=9223372036854775807:=by kernel_rfl
 rw[e] at h;exact h

section
variable {H:Type} {enc:TypeId × Value→H} {w:World} {base:Nat} {spare:Nat→Bool} {held:Bool}

theorem bool_cell {n:Nat} {c:List Value} {y:DataW H × List MemPlace} (h:DataW.trod enc Tryz.prog w base spare held n 4 c=some y) (hc:c.length=1):∃ b,c=[.bool b]:=by
 match c,hc with
 | [v],_ =>
  cases n with
  | zero=>simp[DataW.trod] at h
  | succ n =>
   unfold DataW.trod at h
   rw[Tryz.underlying4] at h
   cases v <;> simp at h
   exact⟨_,rfl⟩
theorem entry_cells {n:Nat} {cs:List Value} {y:DataW H × List MemPlace} (h:DataW.trod enc Tryz.prog w base spare held n 82 cs=some y) :
  ∃ e:Int × Int,cs=[.int .i64 e.1,.int .i64 e.2]:=by
 obtain⟨f0,f1,hu,⟨o0,t0⟩,⟨o1,t1⟩⟩:=entry_fields
 obtain⟨xs,m,_,_,hl,hx,hg⟩:=DataW.trod_struct hu h
 rw[lcells_entry] at hl
 match cs,hl with
 | [c0,c1],_ =>
  match xs,hx with
  | [y0,y1],_ =>
   have g0:=hg 0 f0 rfl
   have g1:=hg 1 f1 rfl
   rw[o0,t0,lcells_int] at g0
   rw[o1,t1,lcells_int] at g1
   obtain⟨n0,e0,_,_⟩:=DataW.trod_int Tryz.underlying3 (g0.trans rfl)
   obtain⟨n1,e1,_,_⟩:=DataW.trod_int Tryz.underlying3 (g1.trans rfl)
   simp at e0 e1
   subst e0 e1
   exact⟨(n0,n1),rfl⟩
/-- The entries of a slice. -/
theorem open_log {fuel:Nat} {cs:List Value} {x:DataW H × List MemPlace} (h:DataW.trod enc Tryz.prog w base spare held fuel 24 cs=some x):∃ a n c L,cs=[.slice a n c]∧LogAt w a n c L:=by
 rcases open_slice Tryz.underlying24 h with⟨rfl,_⟩|⟨ad,len,cap,m,n,D,Pl,rfl,_,hl,hm,hmm,_,hi⟩
 ·exact⟨none,0,0,[],rfl,log_nil _ _ _ (by omega)⟩
 ·have hle:len≤m:=by rw[hmm];split <;> omega
  have key:∀ i,∃ e:Int × Int,i<len→∃ b off,ad=⟨b,off,none⟩∧w.cell? ⟨b,off+i*2,none⟩=some (.int .i64 e.1)∧w.cell? ⟨b,off+i*2+1,none⟩=some (.int .i64 e.2):=fun i=>by
   by_cases hlt:i<len
   ·obtain ⟨cs',hc,ht⟩:=hi i (by omega)
    rw[lcells_entry] at hc
    obtain⟨e,rfl⟩:=entry_cells ht
    obtain⟨_,_,hat⟩:=World.cells?_some hc
    obtain⟨cs0,hc0,_⟩:=hi 0 (by omega)
    rw[lcells_entry] at hc0
    obtain⟨_,hl0,hat0⟩:=World.cells?_some hc0
    obtain⟨b,off,spot⟩:=ad
    have hsp:spot=none:=by
     have h1:=hat0 0 (by omega)
     rw[List.getElem?_eq_getElem (by omega)] at h1
     simpa [Addr.add] using World.cell?_spot h1
    subst hsp
    have plain:∀ j,((⟨b,off,none⟩:Addr).add (i*2)).add j=⟨b,off+i*2+j,none⟩:=fun j=>by
     unfold Addr.add
     split <;> split <;> simp_all <;> omega
    refine⟨e,fun _=>⟨b,off,rfl,?_,?_⟩⟩
    ·have:=hat 0 (by omega);rw[plain] at this;simpa using this
    ·have:=hat 1 (by omega);rw[plain] at this;simpa using this
   ·exact⟨(0,0),fun h=>absurd h hlt⟩
  refine⟨some ad,len,cap,(List.range len).map (fun i=>Classical.choose (key i)),rfl,by simp,hl,le_max hm,fun i hlt=>?_⟩
  obtain⟨b,off,h2,h3⟩:=Classical.choose_spec (key i) hlt
  have e1:((List.range len).map (fun i=>Classical.choose (key i))).getD i (0,0)=Classical.choose (key i):=by
   rw[List.getD_eq_getElem?_getD,List.getElem?_map,List.getElem?_range hlt];rfl
  rw[e1]
  exact⟨b,off,by rw[h2],h3⟩
theorem open_pol {v:Value} {r:Reach} {b0:Nat} {d:DataW H} {p:List MemPlace} (hv:Value.okWide Tryz.prog w r b0 23 v) (h:∃ fuel,DataW.trod enc Tryz.prog w base spare held fuel 23 v.cells.toList=some (d,p)):∃ x:Pol,v=x.v:=by
 obtain⟨f0,f1,f2,f3,f4,f5,hu,⟨o0,t0⟩,⟨o1,t1⟩,⟨o2,t2⟩,⟨o3,t3⟩,⟨o4,t4⟩,⟨o5,t5⟩⟩:=pol_fields
 obtain⟨cs,rfl,-⟩:=okWide_struct hu hv
 obtain⟨fuel,h⟩:=h
 obtain⟨xs,m,_,_,hl,hx,hg⟩:=DataW.trod_struct hu h
 rw[lcells_pol] at hl
 obtain⟨cl⟩:=cs
 simp only[Value.cells] at hl hg
 match cl,hl with
 | [c0,c1,c2,c3,c4,c5],_ =>
  match xs,hx with
  | [y0,y1,y2,y3,y4,y5],_ =>
   have g0:=hg 0 f0 rfl
   have g1:=hg 1 f1 rfl
   have g2:=hg 2 f2 rfl
   have g3:=hg 3 f3 rfl
   have g4:=hg 4 f4 rfl
   have g5:=hg 5 f5 rfl
   rw[o0,t0,lcells_int] at g0
   rw[o1,t1,lcells_int] at g1
   rw[o2,t2,lcells_int] at g2
   rw[o3,t3,lcells_int] at g3
   rw[o4,t4,lcells_int] at g4
   rw[o5,t5,lcells_bool] at g5
   obtain⟨n0,e0,_,_⟩:=DataW.trod_int Tryz.underlying3 (g0.trans rfl)
   obtain⟨n1,e1,_,_⟩:=DataW.trod_int Tryz.underlying3 (g1.trans rfl)
   obtain⟨n2,e2,_,_⟩:=DataW.trod_int Tryz.underlying3 (g2.trans rfl)
   obtain⟨n3,e3,_,_⟩:=DataW.trod_int Tryz.underlying3 (g3.trans rfl)
   obtain⟨n4,e4,_,_⟩:=DataW.trod_int Tryz.underlying3 (g4.trans rfl)
   obtain⟨n5,e5⟩:=bool_cell (g5.trans rfl) (by simp)
   simp at e0 e1 e2 e3 e4 e5
   subst e0 e1 e2 e3 e4 e5
   exact⟨⟨n0,n1,n2,n3,n4,n5⟩,rfl⟩
end
end Go.Proofs.YtmhikkbdhboodaaGreat

namespace Go.Proofs.YtmhikkbdhboodaaGreat
open Go.RowKit Go.ChangeShapes Go.WideShapes Go.Deep
set_option linter.unusedVariables false
set_option linter.unusedSimpArgs false

/-- What is done, in a law's list. -/
def CDosIn (w:World) (a:Option Addr) (len:Nat) (ds:Nat→CD):Prop:=len≤maxLen∧∀ i,i<len→(ds i).x.key.length≤maxLen∧LogAt w (ds i).a (ds i).n (ds i).c (ds i).x.st.log∧∃ b off,a=some ⟨b,off,none⟩∧w.cell? ⟨b,off+i*14,none⟩=some (.int .i64 (ds i).kind)∧w.cell? ⟨b,off+i*14+1,none⟩=some (.string (ktx (ds i).x.key))∧w.cell? ⟨b,off+i*14+2,none⟩=some (.int .i64 (ds i).x.pol.kind)∧w.cell? ⟨b,off+i*14+3,none⟩=some (.int .i64 (ds i).x.pol.limit)∧w.cell? ⟨b,off+i*14+4,none⟩=some (.int .i64 (ds i).x.pol.period)∧w.cell? ⟨b,off+i*14+5,none⟩=some (.int .i64 (ds i).x.pol.burst)∧w.cell? ⟨b,off+i*14+6,none⟩=some (.int .i64 (ds i).x.pol.cap)∧w.cell? ⟨b,off+i*14+7,none⟩=some (.bool (ds i).x.pol.opn)∧w.cell? ⟨b,off+i*14+8,none⟩=some (.int .i64 (ds i).x.st.at_)∧w.cell? ⟨b,off+i*14+9,none⟩=some (.int .i64 (ds i).x.st.level)∧w.cell? ⟨b,off+i*14+10,none⟩=some (.int .i64 (ds i).x.st.held)∧w.cell? ⟨b,off+i*14+11,none⟩=some (.slice (ds i).a (ds i).n (ds i).c)∧w.cell? ⟨b,off+i*14+12,none⟩=some (.int .i64 (ds i).now)∧w.cell? ⟨b,off+i*14+13,none⟩=some (.int .i64 (ds i).cost)
theorem cds_bl {w w':World} {a:Option Addr} {len:Nat} {ds:Nat→CD} (h:CDosIn w a len ds) (hb:Below w.heap.size w w'):CDosIn w' a len ds :=
 ⟨h.1,fun i hi=>by
  obtain⟨h1,h2,b,off,e,q0,q1,q2,q3,q4,q5,q6,q7,q8,q9,q10,q11,q12,q13⟩:=h.2 i hi
  exact⟨h1,log_bl h2 hb,b,off,e,bl_cell hb q0,bl_cell hb q1,bl_cell hb q2,bl_cell hb q3,bl_cell hb q4,bl_cell hb q5,bl_cell hb q6,bl_cell hb q7,bl_cell hb q8,bl_cell hb q9,bl_cell hb q10,bl_cell hb q11,bl_cell hb q12,bl_cell hb q13⟩⟩
theorem cell_fields:∃ f0 f1 f2:Field,Tryz.prog.underlying 59=some (.struct #[f0,f1,f2])∧(f0.offset=0∧f0.type=9)∧(f1.offset=1∧f1.type=23)∧(f2.offset=7∧f2.type=26) :=
 ⟨_,_,_,Tryz.underlying59,⟨rfl,rfl⟩,⟨rfl,rfl⟩,⟨rfl,rfl⟩⟩
theorem cdo_fields:∃ f0 f1 f2 f3:Field,Tryz.prog.underlying 61=some (.struct #[f0,f1,f2,f3])∧(f0.offset=0∧f0.type=3)∧(f1.offset=1∧f1.type=59)∧(f2.offset=12∧f2.type=3)∧(f3.offset=13∧f3.type=3) :=
 ⟨_,_,_,_,Tryz.underlying61,⟨rfl,rfl⟩,⟨rfl,rfl⟩,⟨rfl,rfl⟩,⟨rfl,rfl⟩⟩
theorem ccells_string:Tryz.prog.cellsOf 9=1:=by kernel_rfl
theorem ccells_cell:Tryz.prog.cellsOf 59=11:=by kernel_rfl
theorem ccells_do:Tryz.prog.cellsOf 61=14:=by kernel_rfl
section
variable {H:Type} {enc:TypeId × Value→H} {w:World} {base:Nat} {spare:Nat→Bool} {held:Bool}
theorem cpol_cells {n:Nat} {cs:List Value} {y:DataW H × List MemPlace} (h:DataW.trod enc Tryz.prog w base spare held n 23 cs=some y) :
  ∃ p:Pol,cs=[.int .i64 p.kind,.int .i64 p.limit,.int .i64 p.period,.int .i64 p.burst,.int .i64 p.cap,.bool p.opn]:=by
 obtain⟨f0,f1,f2,f3,f4,f5,hu,⟨o0,t0⟩,⟨o1,t1⟩,⟨o2,t2⟩,⟨o3,t3⟩,⟨o4,t4⟩,⟨o5,t5⟩⟩:=pol_fields
 obtain⟨xs,m,_,_,hl,hx,hg⟩:=DataW.trod_struct hu h
 rw[lcells_pol] at hl
 match cs,hl with
 | [c0,c1,c2,c3,c4,c5],_ =>
  match xs,hx with
  | [y0,y1,y2,y3,y4,y5],_ =>
   have g0:=hg 0 f0 rfl
   have g1:=hg 1 f1 rfl
   have g2:=hg 2 f2 rfl
   have g3:=hg 3 f3 rfl
   have g4:=hg 4 f4 rfl
   have g5:=hg 5 f5 rfl
   rw[o0,t0,lcells_int] at g0
   rw[o1,t1,lcells_int] at g1
   rw[o2,t2,lcells_int] at g2
   rw[o3,t3,lcells_int] at g3
   rw[o4,t4,lcells_int] at g4
   rw[o5,t5,lcells_bool] at g5
   obtain⟨n0,e0,_,_⟩:=DataW.trod_int Tryz.underlying3 (g0.trans rfl)
   obtain⟨n1,e1,_,_⟩:=DataW.trod_int Tryz.underlying3 (g1.trans rfl)
   obtain⟨n2,e2,_,_⟩:=DataW.trod_int Tryz.underlying3 (g2.trans rfl)
   obtain⟨n3,e3,_,_⟩:=DataW.trod_int Tryz.underlying3 (g3.trans rfl)
   obtain⟨n4,e4,_,_⟩:=DataW.trod_int Tryz.underlying3 (g4.trans rfl)
   obtain⟨n5,e5⟩:=bool_cell (g5.trans rfl) (by simp)
   simp at e0 e1 e2 e3 e4 e5
   subst e0 e1 e2 e3 e4 e5
   exact⟨⟨n0,n1,n2,n3,n4,n5⟩,rfl⟩

theorem cst_cells {n:Nat} {cs:List Value} {y:DataW H × List MemPlace} (h:DataW.trod enc Tryz.prog w base spare held n 26 cs=some y) :
  ∃ (s:St) (a:Option Addr) (n c:Nat),cs=[.int .i64 s.at_,.int .i64 s.level,.int .i64 s.held,.slice a n c]∧LogAt w a n c s.log:=by
 obtain⟨f0,f1,f2,f3,hu,⟨o0,t0⟩,⟨o1,t1⟩,⟨o2,t2⟩,⟨o3,t3⟩⟩:=state_fields
 obtain⟨xs,m,_,_,hl,hx,hg⟩:=DataW.trod_struct hu h
 rw[lcells_state] at hl
 match cs,hl with
 | [c0,c1,c2,c3],_ =>
  match xs,hx with
  | [y0,y1,y2,y3],_ =>
   have g0:=hg 0 f0 rfl
   have g1:=hg 1 f1 rfl
   have g2:=hg 2 f2 rfl
   have g3:=hg 3 f3 rfl
   rw[o0,t0,lcells_int] at g0
   rw[o1,t1,lcells_int] at g1
   rw[o2,t2,lcells_int] at g2
   rw[o3,t3,lcells_entries] at g3
   obtain⟨n0,e0,_,_⟩:=DataW.trod_int Tryz.underlying3 (g0.trans rfl)
   obtain⟨n1,e1,_,_⟩:=DataW.trod_int Tryz.underlying3 (g1.trans rfl)
   obtain⟨n2,e2,_,_⟩:=DataW.trod_int Tryz.underlying3 (g2.trans rfl)
   obtain⟨a,n,c,L,e3,hL⟩:=open_log (g3.trans rfl)
   simp at e0 e1 e2 e3
   subst e0 e1 e2 e3
   exact⟨⟨n0,n1,n2,L⟩,a,n,c,rfl,hL⟩
theorem ccell_cells {n:Nat} {cs:List Value} {y:DataW H × List MemPlace} (h:DataW.trod enc Tryz.prog w base spare held n 59 cs=some y) :
  ∃ i:LC,i.x.key.length≤maxLen∧LogAt w i.a i.n i.c i.x.st.log∧cs=lcell i:=by
 obtain⟨f0,f1,f2,hu,⟨o0,t0⟩,⟨o1,t1⟩,⟨o2,t2⟩⟩:=cell_fields
 obtain⟨xs,m,_,_,hl,hx,hg⟩:=DataW.trod_struct hu h
 rw[ccells_cell] at hl
 match cs,hl with
 | [c0,c1,c2,c3,c4,c5,c6,c7,c8,c9,c10],_ =>
  match xs,hx with
  | [y0,y1,y2],_ =>
   have g0:=hg 0 f0 rfl
   have g1:=hg 1 f1 rfl
   have g2:=hg 2 f2 rfl
   rw[o0,t0,ccells_string] at g0
   rw[o1,t1,lcells_pol] at g1
   rw[o2,t2,lcells_state] at g2
   obtain⟨s0,e0,_,hs⟩:=DataW.trod_string Tryz.underlying9 (g0.trans rfl)
   obtain⟨p,e1⟩:=cpol_cells (g1.trans rfl)
   obtain⟨s,a,n,c,e2,hL⟩:=cst_cells (g2.trans rfl)
   simp at e0 e1 e2
   obtain⟨e11,e12,e13,e14,e15,e16⟩:=e1
   obtain⟨e21,e22,e23,e24⟩:=e2
   subst e0 e11 e12 e13 e14 e15 e16 e21 e22 e23 e24
   exact⟨⟨⟨s0.data.toList,p,s⟩,a,n,c⟩,by show s0.data.toList.length≤maxLen;rw[Array.length_toList];exact hs,hL,by unfold lcell;rw[ktx_data]⟩
theorem cdo_cells {n:Nat} {cs:List Value} {y:DataW H × List MemPlace} (h:DataW.trod enc Tryz.prog w base spare held n 61 cs=some y) :
  ∃ d:CD,d.x.key.length≤maxLen∧LogAt w d.a d.n d.c d.x.st.log∧cs=(.int .i64 d.kind) :: lcell ⟨d.x,d.a,d.n,d.c⟩ ++ [.int .i64 d.now,.int .i64 d.cost]:=by
 obtain⟨f0,f1,f2,f3,hu,⟨o0,t0⟩,⟨o1,t1⟩,⟨o2,t2⟩,⟨o3,t3⟩⟩:=cdo_fields
 obtain⟨xs,m,_,_,hl,hx,hg⟩:=DataW.trod_struct hu h
 rw[ccells_do] at hl
 match cs,hl with
 | [c0,c1,c2,c3,c4,c5,c6,c7,c8,c9,c10,c11,c12,c13],_ =>
  match xs,hx with
  | [y0,y1,y2,y3],_ =>
   have g0:=hg 0 f0 rfl
   have g1:=hg 1 f1 rfl
   have g2:=hg 2 f2 rfl
   have g3:=hg 3 f3 rfl
   rw[o0,t0,lcells_int] at g0
   rw[o1,t1,ccells_cell] at g1
   rw[o2,t2,lcells_int] at g2
   rw[o3,t3,lcells_int] at g3
   obtain⟨n0,e0,_,_⟩:=DataW.trod_int Tryz.underlying3 (g0.trans rfl)
   obtain⟨i,hk,hL,e1⟩:=ccell_cells (g1.trans rfl)
   obtain⟨n2,e2,_,_⟩:=DataW.trod_int Tryz.underlying3 (g2.trans rfl)
   obtain⟨n3,e3,_,_⟩:=DataW.trod_int Tryz.underlying3 (g3.trans rfl)
   simp at e0 e1 e2 e3
   subst e0 e2 e3
   refine⟨⟨n0,i.x,i.a,i.n,i.c,n2,n3⟩,hk,hL,?_⟩
   show _=(.int .i64 n0) :: lcell i ++ [.int .i64 n2,.int .i64 n3]
   rw[← e1]
   rfl
theorem open_cds {fuel:Nat} {a:Option Addr} {len cap:Nat} {x:DataW H × List MemPlace} (h:DataW.trod enc Tryz.prog w base spare held fuel 49 [.slice a len cap]=some x):∃ ds,CDosIn w a len ds:=by
 have dflt:CD:=⟨0,⟨[],⟨0,0,0,0,0,false⟩,St.none⟩,none,0,0,0,0⟩
 rcases open_slice Tryz.underlying49 h with⟨e,_⟩|⟨ad,len',cap',m,n,D,Pl,e,_,hl,hm,hmm,_,hi⟩
 ·injection e with e _
  injection e with _ e2 _
  subst e2
  exact⟨fun _=>dflt,by omega,fun i hi=>by omega⟩
 ·injection e with e _
  injection e with e1 e2 e3
  subst e1 e2 e3
  have hle:len≤m:=by rw[hmm];split <;> omega
  have key:∀ i,∃ d:CD,i<len→d.x.key.length≤maxLen∧LogAt w d.a d.n d.c d.x.st.log∧∃ b off,ad=⟨b,off,none⟩∧w.cell? ⟨b,off+i*14,none⟩=some (.int .i64 d.kind)∧w.cell? ⟨b,off+i*14+1,none⟩=some (.string (ktx d.x.key))∧w.cell? ⟨b,off+i*14+2,none⟩=some (.int .i64 d.x.pol.kind)∧w.cell? ⟨b,off+i*14+3,none⟩=some (.int .i64 d.x.pol.limit)∧w.cell? ⟨b,off+i*14+4,none⟩=some (.int .i64 d.x.pol.period)∧w.cell? ⟨b,off+i*14+5,none⟩=some (.int .i64 d.x.pol.burst)∧w.cell? ⟨b,off+i*14+6,none⟩=some (.int .i64 d.x.pol.cap)∧w.cell? ⟨b,off+i*14+7,none⟩=some (.bool d.x.pol.opn)∧w.cell? ⟨b,off+i*14+8,none⟩=some (.int .i64 d.x.st.at_)∧w.cell? ⟨b,off+i*14+9,none⟩=some (.int .i64 d.x.st.level)∧w.cell? ⟨b,off+i*14+10,none⟩=some (.int .i64 d.x.st.held)∧w.cell? ⟨b,off+i*14+11,none⟩=some (.slice d.a d.n d.c)∧w.cell? ⟨b,off+i*14+12,none⟩=some (.int .i64 d.now)∧w.cell? ⟨b,off+i*14+13,none⟩=some (.int .i64 d.cost):=fun i=>by
   by_cases hlt:i<len
   ·obtain ⟨cs',hc,ht⟩:=hi i (by omega)
    rw[ccells_do] at hc
    obtain⟨d,hd,hL,rfl⟩:=cdo_cells ht
    obtain⟨_,_,hat⟩:=World.cells?_some hc
    obtain⟨cs0,hc0,_⟩:=hi 0 (by omega)
    rw[ccells_do] at hc0
    obtain⟨_,hl0,hat0⟩:=World.cells?_some hc0
    obtain⟨b,off,spot⟩:=ad
    have hsp:spot=none:=by
     have h1:=hat0 0 (by omega)
     rw[List.getElem?_eq_getElem (by omega)] at h1
     simpa [Addr.add] using World.cell?_spot h1
    subst hsp
    have plain:∀ j,((⟨b,off,none⟩:Addr).add (i*14)).add j=⟨b,off+i*14+j,none⟩:=fun j=>by
     unfold Addr.add
     split <;> split <;> simp_all <;> omega
    refine⟨d,fun _=>⟨hd,hL,b,off,rfl,?_,?_,?_,?_,?_,?_,?_,?_,?_,?_,?_,?_,?_,?_⟩⟩
    ·have:=hat 0 (by omega);rw[plain] at this;simpa [lcell] using this
    ·have:=hat 1 (by omega);rw[plain] at this;simpa [lcell] using this
    ·have:=hat 2 (by omega);rw[plain] at this;simpa [lcell] using this
    ·have:=hat 3 (by omega);rw[plain] at this;simpa [lcell] using this
    ·have:=hat 4 (by omega);rw[plain] at this;simpa [lcell] using this
    ·have:=hat 5 (by omega);rw[plain] at this;simpa [lcell] using this
    ·have:=hat 6 (by omega);rw[plain] at this;simpa [lcell] using this
    ·have:=hat 7 (by omega);rw[plain] at this;simpa [lcell] using this
    ·have:=hat 8 (by omega);rw[plain] at this;simpa [lcell] using this
    ·have:=hat 9 (by omega);rw[plain] at this;simpa [lcell] using this
    ·have:=hat 10 (by omega);rw[plain] at this;simpa [lcell] using this
    ·have:=hat 11 (by omega);rw[plain] at this;simpa [lcell] using this
    ·have:=hat 12 (by omega);rw[plain] at this;simpa [lcell] using this
    ·have:=hat 13 (by omega);rw[plain] at this;simpa [lcell] using this
   ·exact⟨dflt,fun h=>absurd h hlt⟩
  refine⟨fun i=>Classical.choose (key i),Nat.le_trans hl hm,fun i hlt=>?_⟩
  obtain⟨h1,hL,b,off,h2,h3⟩:=Classical.choose_spec (key i) hlt
  exact⟨h1,hL,b,off,by rw[h2],h3⟩
end
end Go.Proofs.YtmhikkbdhboodaaGreat

namespace Go.Proofs.YtmhikkbdhboodaaGreat
open Go.RowKit Go.Maps
set_option linter.unusedVariables false
set_option linter.unusedSimpArgs false

variable {w w':World} {p p':CsP} {room nx nx':Nat} {m m':List (Int × Value)} {I A B:List CI}
/-- Some number, and old memory as it was. -/
def SomeB (w:World) (e:Ending) (w':World):Prop:=∃ n:Int,e=.returned (.int .i64 n)∧Below w.heap.size w w'
theorem clong_any (a:Option Addr) (len cap:Nat) (ds:Nat→CD) (w:World) (h:CDosIn w a len ds):Calls Tryz.prog 29 #[.slice a len cap] w (SomeB w):=by
 have HD:=Go.Lib.hid h
 have hm:=h.1
 unfold maxLen at hm
 clear h
 unfold SomeB
 go_enter Tryz.func29,Tryz.ntmps29
 go_wp2_with fail
 go_loopw [3,4] (fun s3 s4 wr=>∃ (c:Int) (k:Nat),s3=.int .i64 c∧s4=.int .i64 k∧k≤len∧Hid (Below w.heap.size w wr)) (fun _ s4 _=>len - (intOf s4).toNat)
 case atStart=>exact⟨0,0,rfl,rfl,Nat.zero_le _,Go.Lib.hid (bl_refl _)⟩
 case round =>
  obtain⟨c,k,rfl,rfl,hk,H⟩:=hrel
  have hB:=H.out
  clear H
  by_cases hlt:k<len
  ·obtain⟨hs,hl,b,off,rfl,q0,q1,q2,q3,q4,q5,q6,q7,q8,q9,q10,q11,q12,q13⟩:=(cds_bl HD.out hB).2 k hlt
   clear q0 q2 q3 q4 q5 q6 q7 q8 q9 q10 q12 q13 hl hs
   have hk0:(0:Int)≤(k:Int):=by omega
   have hk1:(k:Int)<(len:Int):=by omega
   have hkz:¬ (k:Int)<0:=by omega
   go_wp2_with fail
   refine wp_region_held_drew (S:=fun X=>X.cell? ⟨b,off+k*14+1,none⟩=some (.string (ktx (ds k).x.key))∧X.cell? ⟨b,off+k*14+11,none⟩=some (.slice (ds k).a (ds k).n (ds k).c)) (by kernel_rfl) ?_ (fun hHeld=>?_)
   ·exact⟨q1,q11⟩
   try simp only[Act.put,List.setIfInBounds_toArray,List.set_cons_zero,List.set_cons_succ]
   clear q1 q11
   refine tkx 0 ?_
   refine tkx 1 ?_
   refine tkx 2 ?_
   refine tkx 3 ?_
   refine tkx 4 ?_
   refine tkx 5 ?_
   refine tkx 6 ?_
   refine tkx 7 ?_
   refine tkx 8 ?_
   refine tkx 9 ?_
   refine tkx 10 ?_
   refine tkx 11 ?_
   refine tkx 12 ?_
   refine tkx 13 ?_
   refine tkx 14 ?_
   refine tkx 15 ?_
   refine tkx 16 ?_
   refine tkx 17 ?_
   refine tkx 18 ?_
   refine tkx 19 ?_
   refine wpAnyH_done (by kernel_rfl) ?_ _
   clear hHeld
   go_wp2_with fail
   go_roundw
   case rel=>exact⟨_,k+1,rfl,by go_num,by omega,Go.Lib.hid (bl_drew hB)⟩
   case measure=>simp[intOf];omega
  ·have hk1:¬ (k:Int)<(len:Int):=by omega
   go_wp2_with fail
   go_ret
   exact⟨⟨_,rfl⟩,hB⟩
end Go.Proofs.YtmhikkbdhboodaaGreat

namespace Go.Proofs.YtmhikkbdhboodaaGreat
open Go.RowKit Go.Maps
set_option linter.unusedVariables false
set_option linter.unusedSimpArgs false

variable {w w':World} {p p':CsP} {room nx nx':Nat} {m m':List (Int × Value)} {I A B:List CI}
def someP:Pol:=⟨1,1,10,5,0,false⟩
def someC (k:Key):Cl:=⟨k,someP,⟨0,40,0,[]⟩⟩
theorem some_new:(newP someP 0).v none 0 0=.agg #[.int .i64 0,.int .i64 50,.int .i64 0,.slice none 0 0]:=by kernel_rfl
theorem some_log:(newP someP 0).log=[]:=by kernel_rfl
theorem some_do:doP someP (newP someP 0) ⟨1,0,1⟩=(⟨0,40,0,[]⟩,true):=by kernel_rfl
theorem log_any {w:World} {a:Option Addr} {n c:Nat} (h:LogAt w a n c []) (W:World):LogAt W a 0 c []:=by
 have hn:=h.1
 simp at hn
 subst hn
 exact⟨rfl,h.2.1,h.2.2.1,fun i hi=>absurd hi (Nat.not_lt_zero _)⟩
theorem csome_any (s:ByteArray) (w:World):Calls Tryz.prog 71 #[.string s] w fun e w'=>∃ (a:Option Addr) (c:Nat),e=.returned (.agg #[.string s,.int .i64 1,.int .i64 1,.int .i64 10,.int .i64 5,.int .i64 0,.bool false,.int .i64 0,.int .i64 40,.int .i64 0,.slice a 0 c])∧(∀ W,LogAt W a 0 c [])∧Below w.heap.size w w':=by
 have hnw:=fun W=>r8new_any someP 0 W
 rw[some_new] at hnw
 have hdo:=fun W=>r8do_any someP (newP someP 0) none 0 0 ⟨1,0,1⟩ W (by rw[some_log];exact⟨rfl,Nat.le_refl _,by omega,fun i hi=>absurd hi (Nat.not_lt_zero _)⟩)
 rw[some_new] at hdo
 unfold PostSB at hdo
 rw[some_do] at hdo
 unfold someP Pol.v Ac.v St.v at *
 dsimp only at *
 have HNW:=Go.Lib.hid hnw
 have HDO:=Go.Lib.hid hdo
 clear hnw hdo
 go_enter Tryz.func71,Tryz.ntmps71
 go_wp2_with fail
 skip
 refine wp_abs (S0:=fun X=>(fun w'=>w'.cell? ⟨w.heap.size,0,none⟩=some (.string { data := #[] })∧w'.cell? ⟨w.heap.size,1,none⟩=some (.int .i64 0)∧w'.cell? ⟨w.heap.size,2,none⟩=some (.int .i64 0)∧w'.cell? ⟨w.heap.size,3,none⟩=some (.int .i64 0)∧w'.cell? ⟨w.heap.size,4,none⟩=some (.int .i64 0)∧w'.cell? ⟨w.heap.size,5,none⟩=some (.int .i64 0)∧w'.cell? ⟨w.heap.size,6,none⟩=some (.bool false)∧w'.cell? ⟨w.heap.size,7,none⟩=some (.int .i64 0)∧w'.cell? ⟨w.heap.size,8,none⟩=some (.int .i64 0)∧w'.cell? ⟨w.heap.size,9,none⟩=some (.int .i64 0)∧w'.cell? ⟨w.heap.size,10,none⟩=some (.slice none 0 0)∧FB w' (w.heap.size) 11∧P6 w' (w.heap.size+1) 1 1 10 5 0 false (Below w.heap.size w w')) X∧w.heap.size+2≤X.heap.size) ⟨⟨by go_simp,by go_simp,by go_simp,by go_simp,by go_simp,by go_simp,by go_simp,by go_simp,by go_simp,by go_simp,by go_simp,fb_bl (fb_new #[.string { data := #[] },.int .i64 0,.int .i64 0,.int .i64 0,.int .i64 0,.int .i64 0,.bool false,.int .i64 0,.int .i64 0,.int .i64 0,.slice none 0 0] _ (by simp)) k1,by go_simp,by go_simp,by go_simp,by go_simp,by go_simp,by go_simp,k2⟩,by simp⟩ ?_
 rintro w1 ⟨⟨xb0,xb1,xb2,xb3,xb4,xb5,xb6,xb7,xb8,xb9,xb10,xbR,pb0,pb1,pb2,pb3,pb4,pb5,hB⟩,hsz1⟩
 have lb_xb:=lbc xb0
 have lb_xb1:=lbc xb10
 have lb_pb:=lbc pb0
 clear xb0 xb1 xb2 xb3 xb4 xb5 xb6 xb7 xb8 xb9 xb10
 refine wp_region_held_drew (S:=fun w'=>FB w' (w.heap.size) 11∧P6 w' (w.heap.size+1) 1 1 10 5 0 false (Below w.heap.size w w')) (by kernel_rfl) ?_ (fun hHeld=>?_)
 ·exact⟨xbR,pb0,pb1,pb2,pb3,pb4,pb5,bl_drew hB⟩
 try simp only[Act.put,List.setIfInBounds_toArray,List.set_cons_zero,List.set_cons_succ]
 clear hB xbR pb0 pb1 pb2 pb3 pb4 pb5
 refine wpAnyH_abs (F:=fun _=>True) hHeld trivial ?_
 clear hHeld
 rintro X0 hHeld -
 refine tkx 0 ?_
 refine tkx 1 ?_
 refine tkx 3 ?_
 refine callC2 (i:=2) (j:=8) rfl rfl ?br1A ?br1B
 case' br1A =>
  intro K hK
  obtain⟨h_xbR,h_pb0,h_pb1,h_pb2,h_pb3,h_pb4,h_pb5,h_B⟩:=(id hHeld)
  go_simp
  refine(HNW.out _).mono ?_
  rintro e X3 ⟨rfl,hb⟩
  go_wp2_with fail
  refine hK.out _ _ ?_ (fun hHeld2=>?_)
  ·(try dsimp only);exact⟨fb_bl h_xbR hb,bl_cell hb h_pb0,bl_cell hb h_pb1,bl_cell hb h_pb2,bl_cell hb h_pb3,bl_cell hb h_pb4,bl_cell hb h_pb5,bl_then h_B hb⟩
  clear hHeld hK K h_xbR h_pb0 h_pb1 h_pb2 h_pb3 h_pb4 h_pb5 h_B hb
  have hHeld:=hHeld2
  clear hHeld2
  try simp only[Act.put,List.setIfInBounds_toArray,List.set_cons_zero,List.set_cons_succ]
  refine callC2 (i:=4) (j:=8) rfl rfl ?br2A ?br2B
  case' br2A =>
   intro K hK
   obtain⟨h_xbR,h_pb0,h_pb1,h_pb2,h_pb3,h_pb4,h_pb5,h_B⟩:=(id hHeld)
   go_simp
   refine(HDO.out _).mono ?_
   rintro e X4 ⟨a1,n1,c1,rfl,hlg,-,hb⟩
   have hn1:=hlg.1
   simp at hn1
   subst hn1
   have HLG:=Go.Lib.hid (log_any hlg)
   clear hlg
   go_wp2_with fail
   refine hK.out _ _ ?_ (fun hHeld2=>?_)
   ·(try dsimp only);exact⟨fb_bl h_xbR hb,bl_cell hb h_pb0,bl_cell hb h_pb1,bl_cell hb h_pb2,bl_cell hb h_pb3,bl_cell hb h_pb4,bl_cell hb h_pb5,bl_then h_B hb⟩
   clear hHeld hK K h_xbR h_pb0 h_pb1 h_pb2 h_pb3 h_pb4 h_pb5 h_B hb
   have hHeld:=hHeld2
   clear hHeld2
   try simp only[Act.put,List.setIfInBounds_toArray,List.set_cons_zero,List.set_cons_succ]
   refine tkx 5 ?_
   refine tkx 6 ?_
   refine tkx 7 ?_
   refine callC (i:=8) rfl (fun K hK=>?_)
   obtain⟨h_xbR,h_pb0,h_pb1,h_pb2,h_pb3,h_pb4,h_pb5,h_B⟩:=(id hHeld)
   go_simp
   refine hK.out _ _ ?_ (fun hHeld2=>?_)
   ·(try dsimp only);exact⟨fb_bl h_xbR k1,bl_cell k1 h_pb0,bl_cell k1 h_pb1,bl_cell k1 h_pb2,bl_cell k1 h_pb3,bl_cell k1 h_pb4,bl_cell k1 h_pb5,bl_alloc h_B _⟩
   have rn0:=World.block_lt_of_cell? _ _ h_pb0
   dsimp only at rn0
   have rB:=h_B.size
   clear hHeld hK K h_xbR h_pb0 h_pb1 h_pb2 h_pb3 h_pb4 h_pb5 h_B
   have hHeld:=hHeld2
   clear hHeld2
   try simp only[Act.put,List.setIfInBounds_toArray,List.set_cons_zero,List.set_cons_succ]
   refine wpAnyH_abs (F:=fun X=>ResB X X4.heap.size) hHeld (res_new _ _ _ _ _ _ rfl) ?_
   clear hHeld
   generalize X4.heap.size=r at *
   rintro X8 hHeld hRes
   refine callC (i:=9) rfl (fun K hK=>?_)
   obtain⟨h_xbR,h_pb0,h_pb1,h_pb2,h_pb3,h_pb4,h_pb5,h_B⟩:=(id hHeld)
   obtain⟨f0,f1,f2,f3,u0,u1,u2,u3,i0,i1,i2,i3⟩:=res_all hRes
   go_simp
   refine hK.out _ _ ?_ (fun hHeld2=>?_)
   ·(try dsimp only);exact⟨fb_set (fb_set (fb_set (fb_set h_xbR _ _) _ _) _ _) _ _,far4 h_pb0 (by dsimp only;omega),far4 h_pb1 (by dsimp only;omega),far4 h_pb2 (by dsimp only;omega),far4 h_pb3 (by dsimp only;omega),far4 h_pb4 (by dsimp only;omega),far4 h_pb5 (by dsimp only;omega),bl4 h_B (by omega)⟩
   obtain⟨z0,z1,z2,z3⟩:=set4r (v0:=.int .i64 0) (v1:=.int .i64 40) (v2:=.int .i64 0) (v3:=.slice a1 0 c1) hRes
   replace hRes:=res4 (b:=r) (v0:=.int .i64 0) (v1:=.int .i64 40) (v2:=.int .i64 0) (v3:=.slice a1 0 c1) hRes
   clear hHeld hK K h_xbR h_pb0 h_pb1 h_pb2 h_pb3 h_pb4 h_pb5 h_B f0 f1 f2 f3 i0 i1 i2 i3 u0 u1 u2 u3
   have hHeld:=hHeld2
   clear hHeld2
   try simp only[Act.put,List.setIfInBounds_toArray,List.set_cons_zero,List.set_cons_succ]
   refine tkx 10 ?_
   refine wpAnyH_done (by kernel_rfl) ?_ _
   refine then_abs (F:=fun X=>(fun w'=>FB w' (w.heap.size) 11∧P6 w' (w.heap.size+1) 1 1 10 5 0 false (Below w.heap.size w w')) X∧S4 X r 0 40 0 a1 0 c1 (ResB X r)) ⟨hHeld,z0,z1,z2,z3,hRes⟩ ?_
   clear hHeld z0 z1 z2 z3 hRes
  case' br2B =>
   intro K hK
   obtain⟨h_xbR,h_pb0,h_pb1,h_pb2,h_pb3,h_pb4,h_pb5,h_B⟩:=(id hHeld)
   go_simp
   refine hK.out _ _ ?_ (fun hHeld2=>?_)
   ·(try dsimp only);exact⟨fb_bl h_xbR k1,bl_cell k1 h_pb0,bl_cell k1 h_pb1,bl_cell k1 h_pb2,bl_cell k1 h_pb3,bl_cell k1 h_pb4,bl_cell k1 h_pb5,bl_alloc h_B _⟩
   have rn0:=World.block_lt_of_cell? _ _ h_pb0
   dsimp only at rn0
   have rB:=h_B.size
   clear hHeld hK K h_xbR h_pb0 h_pb1 h_pb2 h_pb3 h_pb4 h_pb5 h_B
   have hHeld:=hHeld2
   clear hHeld2
   try simp only[Act.put,List.setIfInBounds_toArray,List.set_cons_zero,List.set_cons_succ]
   refine wpAnyH_abs (F:=fun X=>ResB X X3.heap.size) hHeld (res_new _ _ _ _ _ _ rfl) ?_
   clear hHeld
   generalize X3.heap.size=r at *
   rintro X4 hHeld hRes
   refine callC (i:=4) rfl (fun K hK=>?_)
   obtain⟨h_xbR,h_pb0,h_pb1,h_pb2,h_pb3,h_pb4,h_pb5,h_B⟩:=(id hHeld)
   go_simp
   refine(HDO.out _).mono ?_
   rintro e X5 ⟨a1,n1,c1,rfl,hlg,-,hb⟩
   have hn1:=hlg.1
   simp at hn1
   subst hn1
   have HLG:=Go.Lib.hid (log_any hlg)
   clear hlg
   go_wp2_with fail
   refine hK.out _ _ ?_ (fun hHeld2=>?_)
   ·(try dsimp only);exact⟨fb_bl h_xbR hb,bl_cell hb h_pb0,bl_cell hb h_pb1,bl_cell hb h_pb2,bl_cell hb h_pb3,bl_cell hb h_pb4,bl_cell hb h_pb5,bl_then h_B hb⟩
   replace hRes:=res_bl hRes hb
   clear hHeld hK K h_xbR h_pb0 h_pb1 h_pb2 h_pb3 h_pb4 h_pb5 h_B hb
   have hHeld:=hHeld2
   clear hHeld2
   try simp only[Act.put,List.setIfInBounds_toArray,List.set_cons_zero,List.set_cons_succ]
   refine tkx 5 ?_
   refine tkx 6 ?_
   refine tkx 7 ?_
   refine callC (i:=9) rfl (fun K hK=>?_)
   obtain⟨h_xbR,h_pb0,h_pb1,h_pb2,h_pb3,h_pb4,h_pb5,h_B⟩:=(id hHeld)
   obtain⟨f0,f1,f2,f3,u0,u1,u2,u3,i0,i1,i2,i3⟩:=res_all hRes
   go_simp
   refine hK.out _ _ ?_ (fun hHeld2=>?_)
   ·(try dsimp only);exact⟨fb_set (fb_set (fb_set (fb_set h_xbR _ _) _ _) _ _) _ _,far4 h_pb0 (by dsimp only;omega),far4 h_pb1 (by dsimp only;omega),far4 h_pb2 (by dsimp only;omega),far4 h_pb3 (by dsimp only;omega),far4 h_pb4 (by dsimp only;omega),far4 h_pb5 (by dsimp only;omega),bl4 h_B (by omega)⟩
   obtain⟨z0,z1,z2,z3⟩:=set4r (v0:=.int .i64 0) (v1:=.int .i64 40) (v2:=.int .i64 0) (v3:=.slice a1 0 c1) hRes
   replace hRes:=res4 (b:=r) (v0:=.int .i64 0) (v1:=.int .i64 40) (v2:=.int .i64 0) (v3:=.slice a1 0 c1) hRes
   clear hHeld hK K h_xbR h_pb0 h_pb1 h_pb2 h_pb3 h_pb4 h_pb5 h_B f0 f1 f2 f3 i0 i1 i2 i3 u0 u1 u2 u3
   have hHeld:=hHeld2
   clear hHeld2
   try simp only[Act.put,List.setIfInBounds_toArray,List.set_cons_zero,List.set_cons_succ]
   refine tkx 10 ?_
   refine wpAnyH_done (by kernel_rfl) ?_ _
   refine then_abs (F:=fun X=>(fun w'=>FB w' (w.heap.size) 11∧P6 w' (w.heap.size+1) 1 1 10 5 0 false (Below w.heap.size w w')) X∧S4 X r 0 40 0 a1 0 c1 (ResB X r)) ⟨hHeld,z0,z1,z2,z3,hRes⟩ ?_
   clear hHeld z0 z1 z2 z3 hRes
 case' br1B =>
  intro K hK
  obtain⟨h_xbR,h_pb0,h_pb1,h_pb2,h_pb3,h_pb4,h_pb5,h_B⟩:=(id hHeld)
  go_simp
  refine hK.out _ _ ?_ (fun hHeld2=>?_)
  ·(try dsimp only);exact⟨fb_bl h_xbR k1,bl_cell k1 h_pb0,bl_cell k1 h_pb1,bl_cell k1 h_pb2,bl_cell k1 h_pb3,bl_cell k1 h_pb4,bl_cell k1 h_pb5,bl_alloc h_B _⟩
  have rn0:=World.block_lt_of_cell? _ _ h_pb0
  dsimp only at rn0
  have rB:=h_B.size
  clear hHeld hK K h_xbR h_pb0 h_pb1 h_pb2 h_pb3 h_pb4 h_pb5 h_B
  have hHeld:=hHeld2
  clear hHeld2
  try simp only[Act.put,List.setIfInBounds_toArray,List.set_cons_zero,List.set_cons_succ]
  refine wpAnyH_abs (F:=fun X=>ResB X X0.heap.size) hHeld (res_new _ _ _ _ _ _ rfl) ?_
  clear hHeld
  generalize X0.heap.size=r at *
  rintro X3 hHeld hRes
  refine callC (i:=2) rfl (fun K hK=>?_)
  obtain⟨h_xbR,h_pb0,h_pb1,h_pb2,h_pb3,h_pb4,h_pb5,h_B⟩:=(id hHeld)
  go_simp
  refine(HNW.out _).mono ?_
  rintro e X4 ⟨rfl,hb⟩
  go_wp2_with fail
  refine hK.out _ _ ?_ (fun hHeld2=>?_)
  ·(try dsimp only);exact⟨fb_bl h_xbR hb,bl_cell hb h_pb0,bl_cell hb h_pb1,bl_cell hb h_pb2,bl_cell hb h_pb3,bl_cell hb h_pb4,bl_cell hb h_pb5,bl_then h_B hb⟩
  replace hRes:=res_bl hRes hb
  clear hHeld hK K h_xbR h_pb0 h_pb1 h_pb2 h_pb3 h_pb4 h_pb5 h_B hb
  have hHeld:=hHeld2
  clear hHeld2
  try simp only[Act.put,List.setIfInBounds_toArray,List.set_cons_zero,List.set_cons_succ]
  refine callC (i:=4) rfl (fun K hK=>?_)
  obtain⟨h_xbR,h_pb0,h_pb1,h_pb2,h_pb3,h_pb4,h_pb5,h_B⟩:=(id hHeld)
  go_simp
  refine(HDO.out _).mono ?_
  rintro e X5 ⟨a1,n1,c1,rfl,hlg,-,hb⟩
  have hn1:=hlg.1
  simp at hn1
  subst hn1
  have HLG:=Go.Lib.hid (log_any hlg)
  clear hlg
  go_wp2_with fail
  refine hK.out _ _ ?_ (fun hHeld2=>?_)
  ·(try dsimp only);exact⟨fb_bl h_xbR hb,bl_cell hb h_pb0,bl_cell hb h_pb1,bl_cell hb h_pb2,bl_cell hb h_pb3,bl_cell hb h_pb4,bl_cell hb h_pb5,bl_then h_B hb⟩
  replace hRes:=res_bl hRes hb
  clear hHeld hK K h_xbR h_pb0 h_pb1 h_pb2 h_pb3 h_pb4 h_pb5 h_B hb
  have hHeld:=hHeld2
  clear hHeld2
  try simp only[Act.put,List.setIfInBounds_toArray,List.set_cons_zero,List.set_cons_succ]
  refine tkx 5 ?_
  refine tkx 6 ?_
  refine tkx 7 ?_
  refine callC (i:=9) rfl (fun K hK=>?_)
  obtain⟨h_xbR,h_pb0,h_pb1,h_pb2,h_pb3,h_pb4,h_pb5,h_B⟩:=(id hHeld)
  obtain⟨f0,f1,f2,f3,u0,u1,u2,u3,i0,i1,i2,i3⟩:=res_all hRes
  go_simp
  refine hK.out _ _ ?_ (fun hHeld2=>?_)
  ·(try dsimp only);exact⟨fb_set (fb_set (fb_set (fb_set h_xbR _ _) _ _) _ _) _ _,far4 h_pb0 (by dsimp only;omega),far4 h_pb1 (by dsimp only;omega),far4 h_pb2 (by dsimp only;omega),far4 h_pb3 (by dsimp only;omega),far4 h_pb4 (by dsimp only;omega),far4 h_pb5 (by dsimp only;omega),bl4 h_B (by omega)⟩
  obtain⟨z0,z1,z2,z3⟩:=set4r (v0:=.int .i64 0) (v1:=.int .i64 40) (v2:=.int .i64 0) (v3:=.slice a1 0 c1) hRes
  replace hRes:=res4 (b:=r) (v0:=.int .i64 0) (v1:=.int .i64 40) (v2:=.int .i64 0) (v3:=.slice a1 0 c1) hRes
  clear hHeld hK K h_xbR h_pb0 h_pb1 h_pb2 h_pb3 h_pb4 h_pb5 h_B f0 f1 f2 f3 i0 i1 i2 i3 u0 u1 u2 u3
  have hHeld:=hHeld2
  clear hHeld2
  try simp only[Act.put,List.setIfInBounds_toArray,List.set_cons_zero,List.set_cons_succ]
  refine tkx 10 ?_
  refine wpAnyH_done (by kernel_rfl) ?_ _
  refine then_abs (F:=fun X=>(fun w'=>FB w' (w.heap.size) 11∧P6 w' (w.heap.size+1) 1 1 10 5 0 false (Below w.heap.size w w')) X∧S4 X r 0 40 0 a1 0 c1 (ResB X r)) ⟨hHeld,z0,z1,z2,z3,hRes⟩ ?_
  clear hHeld z0 z1 z2 z3 hRes
 all_goals rintro w2 ⟨⟨xbR,pb0,pb1,pb2,pb3,pb4,pb5,hB⟩,st0,st1,st2,st3,stR⟩
 all_goals obtain⟨W5,hst,⟨p0,p1,p2,p3,p4,p5,p6,p7,p8,p9,p10⟩,hO5⟩:=store11 xbR s 1 1 10 5 0 false 0 40 0 a1 0 c1
 all_goals have HO5:=Go.Lib.hid hO5
 all_goals have hbc := @build_cell
 all_goals clear hO5
 all_goals go_wp2_with (refine wpList_store rfl 59 (Operand.tmp 2) (Operand.tmp 18) rfl hst ?_)
 all_goals have hB2:Below w.heap.size w W5:=bl_then2 hB HO5.out (fun q hq=>by subst hq;omega)
 all_goals exact bodyPost_ret (v:=.agg #[.string s,.int .i64 1,.int .i64 1,.int .i64 10,.int .i64 5,.int .i64 0,.bool false,.int .i64 0,.int .i64 40,.int .i64 0,.slice a1 0 c1]) (results_cell rfl _ _ rfl p0 p1 p2 p3 p4 p5 p6 p7 p8 p9 p10) rfl ⟨a1,c1,rfl,HLG.out,hB2⟩
end Go.Proofs.YtmhikkbdhboodaaGreat

namespace Go.Proofs.YtmhikkbdhboodaaGreat
open Go.RowKit Go.Maps
set_option linter.unusedVariables false
set_option linter.unusedSimpArgs false

variable {w w':World} {p p':CsP} {room nx nx':Nat} {m m':List (Int × Value)} {I A B:List CI}
theorem known_a:cSet 1 [] (someC [97]) 0=([someC [97]],0):=by kernel_rfl
theorem known_b:cSet 1 [someC [97]] (someC [98]) 0=([someC [97]],5):=by kernel_rfl
theorem known_d:cSet 1 [someC [97]] (someC [98]) 9=([someC [97]],5):=by kernel_rfl
theorem known_room:roomOf 1=1:=by kernel_rfl
theorem csset_nil (v0 v1 v2 v3 v4 v5 v6 v7 v8 v9 v10:Value) (now:Int) (w:World):Calls Tryz.prog 40 #[.pointer none,.agg #[v0,v1,v2,v3,v4,v5,v6,v7,v8,v9,v10],.int .i64 now] w fun e w'=>e=.returned (.int .i64 1)∧Below w.heap.size w w':=by
 go_enter Tryz.func40,Tryz.ntmps40
 go_wp2_with fail
 go_ret
 exact⟨rfl,k1⟩
theorem kset {B:Nat} {L L':List Cl} {s:ByteArray} {k:Key} {r now:Int} {a:Option Addr} {c:Nat} (hk:ktx k=s) (hk1:k.length≤maxLen) (he:cSet 1 L (someC k) now=(L',r)) (h:CellsAt w p 1 nx L) (hb:p.b=B) (hl:∀ W,LogAt W a 0 c []) (hnx:nx<1000) :
  Calls Tryz.prog 40 #[.pointer (some ⟨B,0,none⟩),.agg #[.string s,.int .i64 1,.int .i64 1,.int .i64 10,.int .i64 5,.int .i64 0,.bool false,.int .i64 0,.int .i64 40,.int .i64 0,.slice a 0 c],.int .i64 now] w fun e w'=>e=.returned (.int .i64 r)∧CsStep w p 1 nx L' w':=by
 have hh:=csset_any (someC k) a 0 c now h (hl w) (fun ad e hn=>absurd rfl hn) hk1 (by omega)
 rw[he] at hh
 subst hk hb
 exact hh
theorem klen {B:Nat} {L:List Cl} (h:CellsAt w p 1 nx L) (hb:p.b=B):Calls Tryz.prog 39 #[.pointer (some ⟨B,0,none⟩)] w fun e w'=>e=.returned (.int .i64 (L.length:Nat))∧Below w.heap.size w w':=by
 subst hb;exact clen_any h
theorem cknown (w:World):Calls Tryz.prog 30 #[] w fun e w'=>e=.returned (.bool true)∧Below w.heap.size w w':=by
 go_enter Tryz.func30,Tryz.ntmps30
 go_wp2_with fail
 refine(csnew_any 1 _).mono ?_
 rintro e w1 ⟨p1,rfl,hc,hB,hF⟩
 rw[known_room] at hc
 obtain⟨B,hb⟩:∃ B,p1.b=B:=⟨_,rfl⟩
 rw[hb]
 have HF:=Go.Lib.hid hF
 have HC:=Go.Lib.hid hc
 have HPB:=Go.Lib.hid hb
 have hn1:(0:Nat)<1000:=by omega
 have HNX:=Go.Lib.hid hn1
 clear hF hc hb hn1
 go_wp2_with fail
 refine(csome_any _ _).mono ?_
 rintro e X1 ⟨a1,c1,rfl,hl1,hx⟩
 have HL1:=Go.Lib.hid hl1
 replace HC:=Go.Lib.hid (cells_bl HC.out hx)
 replace hB:=bl_then hB hx
 clear hx hl1
 go_wp2_with fail
 refine(kset (k:=[97]) rfl (by decide) known_a HC.out HPB.out HL1.out (by have:=HNX.out;omega)).mono ?_
 rintro e w2 ⟨rfl,p2,nx2,e2,hn2,hc2,hO2,hF2⟩
 have HF2:=Go.Lib.hid (fun q (hq:CF p2 q)=>(hF2 q hq).elim (HF.out q) (fun h=>Nat.le_trans hB.size h))
 replace hB:=bl_then2 hB hO2 (fun q hq=>HF.out q hq)
 replace HF:=HF2
 replace HC:=Go.Lib.hid hc2
 replace HPB:=Go.Lib.hid (e2.trans HPB.out)
 have hn3:nx2≤1:=by omega
 have HNY:=Go.Lib.hid hn3
 replace HNX:=Go.Lib.hid (show nx2<1000 by omega)
 clear e2 hn2 hc2 hO2 hF2 hn3 HF2
 go_wp2_with fail
 refine(csome_any _ _).mono ?_
 rintro e X2 ⟨a2,c2,rfl,hl2,hx⟩
 have HL2:=Go.Lib.hid hl2
 replace HC:=Go.Lib.hid (cells_bl HC.out hx)
 replace hB:=bl_then hB hx
 clear hx hl2
 go_wp2_with fail
 refine(kset (k:=[98]) rfl (by decide) known_b HC.out HPB.out HL2.out (by have:=HNX.out;omega)).mono ?_
 rintro e w3 ⟨rfl,p3,nx3,e2,hn2,hc2,hO2,hF2⟩
 have HF3:=Go.Lib.hid (fun q (hq:CF p3 q)=>(hF2 q hq).elim (HF.out q) (fun h=>Nat.le_trans hB.size h))
 replace hB:=bl_then2 hB hO2 (fun q hq=>HF.out q hq)
 replace HF:=HF3
 replace HC:=Go.Lib.hid hc2
 replace HPB:=Go.Lib.hid (e2.trans HPB.out)
 have hn3:nx3≤2:=by have:=HNY.out;omega
 replace HNY:=Go.Lib.hid hn3
 replace HNX:=Go.Lib.hid (show nx3<1000 by omega)
 clear e2 hn2 hc2 hO2 hF2 hn3 HF3
 go_wp2_with fail
 refine(csome_any _ _).mono ?_
 rintro e X3 ⟨a3,c3,rfl,hl3,hx⟩
 have HL3:=Go.Lib.hid hl3
 replace HC:=Go.Lib.hid (cells_bl HC.out hx)
 replace hB:=bl_then hB hx
 clear hx hl3
 go_wp2_with fail
 refine(kset (k:=[98]) rfl (by decide) known_d HC.out HPB.out HL3.out (by have:=HNX.out;omega)).mono ?_
 rintro e w4 ⟨rfl,p4,nx4,e2,hn2,hc2,hO2,hF2⟩
 have HF4:=Go.Lib.hid (fun q (hq:CF p4 q)=>(hF2 q hq).elim (HF.out q) (fun h=>Nat.le_trans hB.size h))
 replace hB:=bl_then2 hB hO2 (fun q hq=>HF.out q hq)
 replace HF:=HF4
 replace HC:=Go.Lib.hid hc2
 replace HPB:=Go.Lib.hid (e2.trans HPB.out)
 have hn3:nx4≤3:=by have:=HNY.out;omega
 replace HNY:=Go.Lib.hid hn3
 replace HNX:=Go.Lib.hid (show nx4<1000 by omega)
 clear e2 hn2 hc2 hO2 hF2 hn3 HF4
 go_wp2_with fail
 refine(klen HC.out HPB.out).mono ?_
 rintro e w9 ⟨rfl,hx⟩
 replace hB:=bl_then hB hx
 clear hx
 go_wp2_with fail
 refine(csome_any _ _).mono ?_
 rintro e X9 ⟨a9,c9,rfl,hl9,hx⟩
 replace hB:=bl_then hB hx
 clear hx hl9
 go_wp2_with fail
 refine(csset_nil _ _ _ _ _ _ _ _ _ _ _ _ _).mono ?_
 rintro e w10 ⟨rfl,hx⟩
 replace hB:=bl_then hB hx
 clear hx
 go_wp2_with fail
 go_ret
 first|exact⟨rfl,hB⟩|exact hB
end Go.Proofs.YtmhikkbdhboodaaGreat

namespace Go.Proofs.YtmhikkbdhboodaaGreat
open Go.RowKit Go.Maps
set_option linter.unusedVariables false
set_option linter.unusedSimpArgs false

theorem apart_step {room:Nat} {L:List Cl} (d:CD) (h:Apart L):Apart (cStep room L d).1:=by
 unfold cStep
 split
 ·exact apart_kept h _
 ·exact apart_set h
end Go.Proofs.YtmhikkbdhboodaaGreat

namespace Go.Proofs.YtmhikkbdhboodaaGreat
open Go.RowKit Go.Maps
set_option linter.unusedVariables false
set_option linter.unusedSimpArgs false

variable {w w':World} {p p':CsP} {room nx nx':Nat} {m m':List (Int × Value)} {I A B:List CI}
theorem cset_has {room:Nat} {L:List Cl} {x:Cl} {now:Int} (hr:rightP x.pol x.st=true) (hf:cFresh now x=false) (h:cHas L x.key=true):cSet room L x now=(cWithout L x.key ++ [x],0):=by
 unfold cSet
 rw[if_neg (by simp[hr]),if_neg (by simp[hf]),if_pos h]
theorem cset_some {room:Nat} {L M:List Cl} {x:Cl} {now:Int} (hr:rightP x.pol x.st=true) (hf:cFresh now x=false) (h:cHas L x.key=false) (hM:cRoom room L now=some M):cSet room L x now=(M ++ [x],0):=by
 unfold cSet
 rw[if_neg (by simp[hr]),if_neg (by simp[hf]),if_neg (by simp[h]),hM]
theorem cset_none {room:Nat} {L:List Cl} {x:Cl} {now:Int} (hr:rightP x.pol x.st=true) (hf:cFresh now x=false) (h:cHas L x.key=false) (hM:cRoom room L now=none):cSet room L x now=(L,5):=by
 unfold cSet
 rw[if_neg (by simp[hr]),if_neg (by simp[hf]),if_neg (by simp[h]),hM]
theorem row_set2 {w:World} {B e size n:Nat} {v:Value} {xs:List Value} (h:w.ownsRow B e size v n xs) {a:Addr} (ha:v.ownBlock≠some a.block) (u:Value):(w.setCell a u).ownsRow B e size v n xs :=
 row_frame h fun k hk=>by
  have hne:a.block≠k:=fun e=>ha (e ▸ hk)
  simp[World.setCell,Array.getElem?_modify,hne]
theorem row_notbox {w:World} {B e size n q:Nat} {t:TypeId} {v:Value} {xs:List Value} {cs:Array Value} (h:w.ownsRow B e size v n xs) (hb:w.heap[q]?=some (.cells cs t (0,0))) (hne:t≠e):v.ownBlock≠some q:=fun hq=>by
 rcases h.2 with⟨rfl,-⟩|⟨g,cap,cur,rfl,-,hg,-⟩
 ·cases hq
 ·injection hq with hq
  dsimp only at hq
  subst hq
  rw[hb] at hg
  injection hg with hg
  injection hg with _ e
  exact hne e
theorem rset_keep {Js:List LC} (room:Nat) (v:Value) (x:Cl) (a:Option Addr) (n c:Nat) (now:Int) (w:World) (h:CRow w 0 v Js) (hl:LogAt w a n c x.st.log) (hN:Js.length≤10000) (hap:Apart (Js.map (·.x))) (hr:rightP x.pol x.st=true) (hf:cFresh now x=false) :
  Calls Tryz.prog 74 #[TV room v,x.v a n c,.int .i64 now] w (RsetP w v room Js ⟨x,a,n,c⟩ now):=by
 have hlc:lcell ⟨x,a,n,c⟩=lcell ⟨x,a,n,c⟩:=rfl
 have HAP:=Go.Lib.hid hap
 clear hap
 obtain⟨B,hBe⟩:∃ B,B=cHas (Js.map (·.x)) x.key:=⟨_,rfl⟩
 have HBE:=Go.Lib.hid hBe
 have HRR:=Go.Lib.hid hr
 have HFF:=Go.Lib.hid hf
 clear hBe
 obtain⟨ra,rc,rfl⟩:=cs_form h.1
 obtain⟨N,hNe⟩:∃ N,N=Js.length:=⟨_,rfl⟩
 have hN':=hN
 have hrt:=fun W hW=>r8right_any x.pol x.st a n c W hW
 rw[hr] at hrt
 have hfr:=fun W hW=>rfresh_any x a n c now W hW
 rw[hf] at hfr
 have hkl:=ktx_list x.key
 unfold RsetP TV
 rw[← hNe] at hN ⊢
 obtain⟨key,⟨k,l,d,b,cc,o⟩,⟨at_,level,held,LG⟩⟩:=x
 unfold Cl.v at *
 unfold Pol.v St.v at *
 dsimp only at *
 generalize hKT:ktx key=KY at *
 have HKT:=Go.Lib.hid hKT
 clear hKT
 have HKL:=Go.Lib.hid hkl
 have HROW:=Go.Lib.hid (show CRow w 0 (.slice ra N rc) Js by rw[hNe];exact h)
 have HN:=Go.Lib.hid hNe
 have HLG:=Go.Lib.hid hl
 clear h hl hNe hr hkl hf
 have HRT:=Go.Lib.hid hrt
 have HFR:=Go.Lib.hid hfr
 clear hrt hfr
 go_enter Tryz.func74,Tryz.ntmps74
 go_wp2_with fail
 skip
 refine calls_abs (S0:=fun X=>(fun w'=>w'.cell? ⟨w.heap.size,0,none⟩=some (.int .i64 (room:Int))∧w'.cell? ⟨w.heap.size,1,none⟩=some (.slice ra N rc)∧FB w' (w.heap.size) 2∧w'.cell? ⟨w.heap.size+1,0,none⟩=some (.string KY)∧w'.cell? ⟨w.heap.size+1,1,none⟩=some (.int .i64 k)∧w'.cell? ⟨w.heap.size+1,2,none⟩=some (.int .i64 l)∧w'.cell? ⟨w.heap.size+1,3,none⟩=some (.int .i64 d)∧w'.cell? ⟨w.heap.size+1,4,none⟩=some (.int .i64 b)∧w'.cell? ⟨w.heap.size+1,5,none⟩=some (.int .i64 cc)∧w'.cell? ⟨w.heap.size+1,6,none⟩=some (.bool o)∧w'.cell? ⟨w.heap.size+1,7,none⟩=some (.int .i64 at_)∧w'.cell? ⟨w.heap.size+1,8,none⟩=some (.int .i64 level)∧w'.cell? ⟨w.heap.size+1,9,none⟩=some (.int .i64 held)∧w'.cell? ⟨w.heap.size+1,10,none⟩=some (.slice a n c)∧w'.cell? ⟨w.heap.size+1+1,0,none⟩=some (.int .i64 0)∧w'.cell? ⟨w.heap.size+1+1,1,none⟩=some (.slice none 0 0)∧FB w' (w.heap.size+1+1) 2∧Below w.heap.size w w') X∧w.heap.size+3≤X.heap.size) ⟨⟨by go_simp,by go_simp,fb_bl (fb_bl (fb_new #[.int .i64 (room:Int),.slice ra N rc] _ (by simp)) (bl_alloc (bl_refl _) _)) (bl_alloc (bl_refl _) _),by go_simp,by go_simp,by go_simp,by go_simp,by go_simp,by go_simp,by go_simp,by go_simp,by go_simp,by go_simp,by go_simp,by go_simp,by go_simp,fb_new #[.int .i64 0,.slice none 0 0] _ (by simp),bl_alloc (bl_alloc (bl_alloc (bl_refl _) _) _) _⟩,by simp⟩ ?_
 rintro w1 ⟨⟨tb0,tb1,tbR,xb0,xb1,xb2,xb3,xb4,xb5,xb6,xb7,xb8,xb9,xb10,rs0,rs1,rsR,hB⟩,hsz1⟩
 have lb_tb:=lbc tb0
 have lb_xb:=lbc xb0
 have lb_xb1:=lbc xb10
 have lb_rs:=lbc rs0
 refine(HRT.out _ (log_bl HLG.out hB)).mono ?_
 rintro e w2 ⟨rfl,hb⟩
 have hsz2:w1.heap.size+0≤w2.heap.size:=szl hb
 replace tb0:=bl_cell hb tb0
 replace tb1:=bl_cell hb tb1
 replace tbR:=fb_bl tbR hb
 replace xb0:=bl_cell hb xb0
 replace xb1:=bl_cell hb xb1
 replace xb2:=bl_cell hb xb2
 replace xb3:=bl_cell hb xb3
 replace xb4:=bl_cell hb xb4
 replace xb5:=bl_cell hb xb5
 replace xb6:=bl_cell hb xb6
 replace xb7:=bl_cell hb xb7
 replace xb8:=bl_cell hb xb8
 replace xb9:=bl_cell hb xb9
 replace xb10:=bl_cell hb xb10
 replace rs0:=bl_cell hb rs0
 replace rs1:=bl_cell hb rs1
 replace rsR:=fb_bl rsR hb
 replace hB:Below w.heap.size w w2:=bl_then hB hb
 replace lb_tb:=lbc tb0
 replace lb_xb:=lbc xb0
 replace lb_xb1:=lbc xb10
 replace lb_rs:=lbc rs0
 clear hb
 have HLC:Hid (lcell ⟨⟨key,⟨k,l,d,b,cc,o⟩,⟨at_,level,held,LG⟩⟩,a,n,c⟩=[.string KY,.int .i64 k,.int .i64 l,.int .i64 d,.int .i64 b,.int .i64 cc,.bool o,.int .i64 at_,.int .i64 level,.int .i64 held,.slice a n c]):=Go.Lib.hid (by unfold lcell;dsimp only;rw[HKT.out])
 go_wp2_with fail
 refine(HFR.out _ (log_bl HLG.out hB)).mono ?_
 rintro e w3 ⟨rfl,hb⟩
 have hsz3:w2.heap.size+0≤w3.heap.size:=szl hb
 replace tb0:=bl_cell hb tb0
 replace tb1:=bl_cell hb tb1
 replace tbR:=fb_bl tbR hb
 replace xb0:=bl_cell hb xb0
 replace xb1:=bl_cell hb xb1
 replace xb2:=bl_cell hb xb2
 replace xb3:=bl_cell hb xb3
 replace xb4:=bl_cell hb xb4
 replace xb5:=bl_cell hb xb5
 replace xb6:=bl_cell hb xb6
 replace xb7:=bl_cell hb xb7
 replace xb8:=bl_cell hb xb8
 replace xb9:=bl_cell hb xb9
 replace xb10:=bl_cell hb xb10
 replace rs0:=bl_cell hb rs0
 replace rs1:=bl_cell hb rs1
 replace rsR:=fb_bl rsR hb
 replace hB:Below w.heap.size w w3:=bl_then hB hb
 replace lb_tb:=lbc tb0
 replace lb_xb:=lbc xb0
 replace lb_xb1:=lbc xb10
 replace lb_rs:=lbc rs0
 clear hb
 go_wp2_with fail
 refine(rhas_any (Js:=Js) (base:=0) (room:Int) (.slice ra N rc) KY _ (crow_bl HROW.out hB) (by omega)).mono ?_
 rintro e w4 ⟨rfl,hb⟩
 have hsz4:w3.heap.size+0≤w4.heap.size:=szl hb
 replace tb0:=bl_cell hb tb0
 replace tb1:=bl_cell hb tb1
 replace tbR:=fb_bl tbR hb
 replace xb0:=bl_cell hb xb0
 replace xb1:=bl_cell hb xb1
 replace xb2:=bl_cell hb xb2
 replace xb3:=bl_cell hb xb3
 replace xb4:=bl_cell hb xb4
 replace xb5:=bl_cell hb xb5
 replace xb6:=bl_cell hb xb6
 replace xb7:=bl_cell hb xb7
 replace xb8:=bl_cell hb xb8
 replace xb9:=bl_cell hb xb9
 replace xb10:=bl_cell hb xb10
 replace rs0:=bl_cell hb rs0
 replace rs1:=bl_cell hb rs1
 replace rsR:=fb_bl rsR hb
 replace hB:Below w.heap.size w w4:=bl_then hB hb
 replace lb_tb:=lbc tb0
 replace lb_xb:=lbc xb0
 replace lb_xb1:=lbc xb10
 replace lb_rs:=lbc rs0
 clear hb
 skip
 have hBq:cHas (Js.map (·.x)) KY.data.toList=B:=by rw[HKL.out];exact HBE.out.symm
 simp only[hBq]
 have hsz3:w.heap.size+3≤w4.heap.size:=by have:=World.block_lt_of_cell? _ _ rs0;dsimp only at this;omega
 have hcase:B=true∨(B=false∧(N:Int)<(room:Int))∨(B=false∧¬ (N:Int)<(room:Int)):=by cases B <;> by_cases hh:(N:Int)<(room:Int) <;> simp[hh]
 rcases hcase with hb1|⟨hb1,hlt⟩|⟨hb1,hge⟩
 ·have HB1:=Go.Lib.hid hb1
  subst hb1
  have HB1:=Go.Lib.hid (rfl:true=true)
  go_wp2_with fail
  refine(rwithout_any (Js:=Js) (base:=0) (room:Int) (.slice ra N rc) KY _ (crow_bl HROW.out hB) (by omega)).mono ?_
  rintro e w8 ⟨v8,Fs,rfl,hrow8,hmap8,hsub8,hb8⟩
  unfold TV
  obtain⟨a8,c8,rfl⟩:=cs_form hrow8.1
  replace xb0:=bl_cell hb8 xb0
  replace xb1:=bl_cell hb8 xb1
  replace xb2:=bl_cell hb8 xb2
  replace xb3:=bl_cell hb8 xb3
  replace xb4:=bl_cell hb8 xb4
  replace xb5:=bl_cell hb8 xb5
  replace xb6:=bl_cell hb8 xb6
  replace xb7:=bl_cell hb8 xb7
  replace xb8:=bl_cell hb8 xb8
  replace xb9:=bl_cell hb8 xb9
  replace xb10:=bl_cell hb8 xb10
  have rs8:=fb_bl rsR hb8
  replace rs0:=bl_cell hb8 rs0
  replace rs1:=bl_cell hb8 rs1
  have hFl:Fs.length≤10000:=by have h1:=congrArg List.length hmap8;rw[List.length_map] at h1;have h2:=List.length_filter_le (fun x:Cl => !(x.key == KY.data.toList)) (Js.map (·.x));rw[List.length_map] at h2;unfold cWithout at h1;omega
  have hsW:w.heap.size+3≤w4.heap.size:=hsz3
  have hs8:=hb8.size
  have hB8:=bl_then hB hb8
  have HR8:=Go.Lib.hid hrow8
  have HB8:=Go.Lib.hid hB8
  have HM8:=Go.Lib.hid hmap8
  have HS8:=Go.Lib.hid hsub8
  clear hrow8 hmap8 hsub8 hb8 hB8 hB rsR
  obtain⟨⟨-,yf0⟩,⟨-,yf1⟩⟩:=And.intro (rs8 0 (by omega)) (rs8 1 (by omega))
  have HY8:=Go.Lib.hid (And.intro yf0 yf1)
  clear rs8
  obtain⟨i0,hi,hz0,hz1,hz2⟩:=info_parts infoC
  have lbx8:=World.block_lt_of_cell? _ _ xb0
  have lbr8:=World.block_lt_of_cell? _ _ rs0
  dsimp only at lbx8 lbr8
  go_wp2_with (at_builtin;refine wpList_append_own _ rfl _ _ 53 rfl w4.heap.size 59 i0 _ 11 112 undC hi hz0 hz1 hz2 rfl (by decide) _ _ _ rfl (row_bl HR8.out.1 (bl_alloc (bl_alloc (bl_refl w8) (.cells #[.int .i64 (room:Int),.slice a8 Fs.length c8] 55)) (.cells #[.string KY,.int .i64 k,.int .i64 l,.int .i64 d,.int .i64 b,.int .i64 cc,.bool o,.int .i64 at_,.int .i64 level,.int .i64 held,.slice a n c] 59))) ⟨w8.heap.size+1,0,none⟩ 1 1 (lcell ⟨⟨key,⟨k,l,d,b,cc,o⟩,⟨at_,level,held,LG⟩⟩,a,n,c⟩) rfl ?q1 ?q2 ?q3 ?q4 ?q5 ?q6 ?_)
  case q1=>rfl
  case q2 =>
   intro q u hq
   rw[HLC.out] at hq
   have h1:=new_cells (W:=w8.alloc (.cells #[.int .i64 (room:Int),.slice a8 Fs.length c8] 55)) #[.string KY,.int .i64 k,.int .i64 l,.int .i64 d,.int .i64 b,.int .i64 cc,.bool o,.int .i64 at_,.int .i64 level,.int .i64 held,.slice a n c] 59 hq
   rw[World.size_alloc] at h1
   exact h1
  case q3=>exact lcell_one _
  case q4=>simp only[maxLen];omega
  case q5=>omega
  case q6=>simp;omega
  intro v9 w9 hown9 hgrow9 hnil9
  obtain⟨a9,c9,rfl⟩:=cs_form hown9
  clear hnil9 hi hz0 hz1 hz2
  have hlt8:=(World.ownsRow.lt HR8.out.1)
  have hg9:∀ q,q<w8.heap.size+2→(∀ k,(Value.slice a8 Fs.length c8).ownBlock=some k→k≠q)→w9.heap[q]?=((w8.alloc (.cells #[.int .i64 (room:Int),.slice a8 Fs.length c8] 55)).alloc (.cells #[.string KY,.int .i64 k,.int .i64 l,.int .i64 d,.int .i64 b,.int .i64 cc,.bool o,.int .i64 at_,.int .i64 level,.int .i64 held,.slice a n c] 59)).heap[q]?:=fun q hq hk=>hgrow9.block q (by simp;omega) (fun e=>hk q e.symm rfl)
  have hgo:∀ q,q<w8.heap.size→(∀ k,(Value.slice a8 Fs.length c8).ownBlock=some k→k≠q)→w9.heap[q]?=w8.heap[q]?:=fun q hq hk=>(hg9 q (by omega) hk).trans ((bl_alloc (bl_alloc (bl_refl w8) (.cells #[.int .i64 (room:Int),.slice a8 Fs.length c8] 55)) (.cells #[.string KY,.int .i64 k,.int .i64 l,.int .i64 d,.int .i64 b,.int .i64 cc,.bool o,.int .i64 at_,.int .i64 level,.int .i64 held,.slice a n c] 59)).block q hq)
  have lbr:=World.block_lt_of_cell? _ _ rs0
  dsimp only at lbr
  have hrb:=hgo (w.heap.size+2) (by omega) (fun k hk=>by have:=(hlt8 k hk).1;omega)
  have hub:=hg9 w8.heap.size (by omega) (fun k hk=>by have:=(hlt8 k hk).2;omega)
  replace rs0:w9.cell? ⟨w.heap.size+2,0,none⟩=some (.int .i64 0):=by rw[World.cell?_of_block hrb];exact rs0
  replace rs1:w9.cell? ⟨w.heap.size+2,1,none⟩=some (.slice none 0 0):=by rw[World.cell?_of_block hrb];exact rs1
  replace yf0:w9.frozen? ⟨w.heap.size+2,0,none⟩=false:=by rw[World.frozen?_of_block hrb];exact yf0
  replace yf1:w9.frozen? ⟨w.heap.size+2,1,none⟩=false:=by rw[World.frozen?_of_block hrb];exact yf1
  have u0:w9.cell? ⟨w8.heap.size,0,none⟩=some (.int .i64 (room:Int)):=by rw[World.cell?_of_block hub];go_simp
  have u1:w9.cell? ⟨w8.heap.size,1,none⟩=some (.slice a8 Fs.length c8):=by rw[World.cell?_of_block hub];go_simp
  have uf:w9.frozen? ⟨w8.heap.size,1,none⟩=false:=by rw[World.frozen?_of_block hub];go_simp
  have hnb:(Value.slice a9 (Fs.length+1) c9).ownBlock≠some w8.heap.size:=row_notbox hown9 (t:=55) (cs := #[.int .i64 (room:Int),.slice a8 Fs.length c8]) (by rw[hub];exact((bl_alloc (bl_refl (w8.alloc (.cells #[.int .i64 (room:Int),.slice a8 Fs.length c8] 55))) (.cells #[.string KY,.int .i64 k,.int .i64 l,.int .i64 d,.int .i64 b,.int .i64 cc,.bool o,.int .i64 at_,.int .i64 level,.int .i64 held,.slice a n c] 59)).block w8.heap.size (by simp)).trans (World.alloc_heap_new w8 _)) (by decide)
  have hB9:Below w.heap.size w w9:=(bl_alloc (bl_alloc HB8.out (.cells #[.int .i64 (room:Int),.slice a8 Fs.length c8] 55)) (.cells #[.string KY,.int .i64 k,.int .i64 l,.int .i64 d,.int .i64 b,.int .i64 cc,.bool o,.int .i64 at_,.int .i64 level,.int .i64 held,.slice a n c] 59)).grown hgrow9 (by simp;omega) (fun k hk=>by have:=(hlt8 k hk).1;omega)
  have HB9:=Go.Lib.hid hB9
  have HO9:=Go.Lib.hid hown9
  have HNB:=Go.Lib.hid hnb
  have hqn:w8.heap.size≠w.heap.size+2:=by omega
  have hqn2:w.heap.size+2≠w8.heap.size:=by omega
  have lb9:=World.block_lt_of_cell? _ _ u0
  dsimp only at lb9
  clear hown9 hnb hB9 hgrow9 hg9 hgo hrb hub hlt8 xb0 xb1 xb2 xb3 xb4 xb5 xb6 xb7 xb8 xb9 xb10
  go_wp2_with fail
  have hB2:=bl_set (bl_set (bl_set HB9.out (a:=⟨w8.heap.size,1,none⟩) (by dsimp only;omega) (.slice a9 (Fs.length+1) c9)) (a:=⟨w.heap.size+2,0,none⟩) (by dsimp only;omega) (.int .i64 (room:Int))) (a:=⟨w.heap.size+2,1,none⟩) (by dsimp only;omega) (.slice a9 (Fs.length+1) c9)
  have hne2:(Value.slice a9 (Fs.length+1) c9).ownBlock≠some (w.heap.size+2):=fun e=>by have:=(World.ownsRow.lt HO9.out _ e).1;omega
  have hR2:=row_set2 (a:=⟨w.heap.size+2,1,none⟩) (row_set2 (a:=⟨w.heap.size+2,0,none⟩) (row_set2 (a:=⟨w8.heap.size,1,none⟩) HO9.out HNB.out (.slice a9 (Fs.length+1) c9)) hne2 (.int .i64 (room:Int))) hne2 (.slice a9 (Fs.length+1) c9)
  have hres:=fun(tm:Array Value) (W:World) (hx:tm.getD 6 undef=.pointer (some ⟨w.heap.size+2,0,none⟩)) i0 i1=>results_t2 (v0:=.int .i64 (room:Int)) (v1:=.slice a9 (Fs.length+1) c9) (fn:=Tryz.f74) rfl tm W hx i0 i1
  refine bodyPost_ret (hres _ _ rfl ?q0 ?q1) rfl ?_
  case q0=>go_simp
  case q1=>go_simp
  have hsubF:∀ i ∈ Fs,i ∈ Js:=fun i hi=>HS8.out i hi
  have hpu:=cset_has (room:=room) HRR.out HFF.out HBE.out.symm
  rw[hpu]
  refine⟨_,Fs ++ [⟨⟨key,⟨k,l,d,b,cc,o⟩,⟨at_,level,held,LG⟩⟩,a,n,c⟩],rfl,⟨by rw[List.length_append,lcells_append,lcells_one];exact row_base hR2 (Nat.zero_le _),fun i hi=>?_⟩,?_,?_,fun i hi=>?_,hB2⟩
  ·rcases List.mem_append.1 hi with hi|hi
   ·exact log_bl (HROW.out.2 i (hsubF i hi)) hB2
   ·rw[List.mem_singleton.1 hi];exact log_bl HLG.out hB2
  ·exact fun k hk => .inr (by have:=(World.ownsRow.lt HO9.out k hk).1;omega)
  ·rw[List.map_append,HM8.out,HKL.out];first|rfl|(rw[hwn];rfl)
  ·rcases List.mem_append.1 hi with hi|hi
   ·exact .inl (hsubF i hi)
   ·exact .inr (List.mem_singleton.1 hi)
 ·subst hb1
  have HLT:=Go.Lib.hid hlt
  go_wp2_with fail
  refine(rwithout_any (Js:=Js) (base:=0) (room:Int) (.slice ra N rc) KY _ (crow_bl HROW.out hB) (by omega)).mono ?_
  rintro e w8 ⟨v8,Fs,rfl,hrow8,hmap8,hsub8,hb8⟩
  unfold TV
  obtain⟨a8,c8,rfl⟩:=cs_form hrow8.1
  replace xb0:=bl_cell hb8 xb0
  replace xb1:=bl_cell hb8 xb1
  replace xb2:=bl_cell hb8 xb2
  replace xb3:=bl_cell hb8 xb3
  replace xb4:=bl_cell hb8 xb4
  replace xb5:=bl_cell hb8 xb5
  replace xb6:=bl_cell hb8 xb6
  replace xb7:=bl_cell hb8 xb7
  replace xb8:=bl_cell hb8 xb8
  replace xb9:=bl_cell hb8 xb9
  replace xb10:=bl_cell hb8 xb10
  have rs8:=fb_bl rsR hb8
  replace rs0:=bl_cell hb8 rs0
  replace rs1:=bl_cell hb8 rs1
  have hFl:Fs.length≤10000:=by have h1:=congrArg List.length hmap8;rw[List.length_map] at h1;have h2:=List.length_filter_le (fun x:Cl => !(x.key == KY.data.toList)) (Js.map (·.x));rw[List.length_map] at h2;unfold cWithout at h1;omega
  have hsW:w.heap.size+3≤w4.heap.size:=hsz3
  have hs8:=hb8.size
  have hB8:=bl_then hB hb8
  have HR8:=Go.Lib.hid hrow8
  have HB8:=Go.Lib.hid hB8
  have HM8:=Go.Lib.hid hmap8
  have HS8:=Go.Lib.hid hsub8
  clear hrow8 hmap8 hsub8 hb8 hB8 hB rsR
  obtain⟨⟨-,yf0⟩,⟨-,yf1⟩⟩:=And.intro (rs8 0 (by omega)) (rs8 1 (by omega))
  have HY8:=Go.Lib.hid (And.intro yf0 yf1)
  clear rs8
  obtain⟨i0,hi,hz0,hz1,hz2⟩:=info_parts infoC
  have lbx8:=World.block_lt_of_cell? _ _ xb0
  have lbr8:=World.block_lt_of_cell? _ _ rs0
  dsimp only at lbx8 lbr8
  go_wp2_with (at_builtin;refine wpList_append_own _ rfl _ _ 53 rfl w4.heap.size 59 i0 _ 11 112 undC hi hz0 hz1 hz2 rfl (by decide) _ _ _ rfl (row_bl HR8.out.1 (bl_alloc (bl_alloc (bl_refl w8) (.cells #[.int .i64 (room:Int),.slice a8 Fs.length c8] 55)) (.cells #[.string KY,.int .i64 k,.int .i64 l,.int .i64 d,.int .i64 b,.int .i64 cc,.bool o,.int .i64 at_,.int .i64 level,.int .i64 held,.slice a n c] 59))) ⟨w8.heap.size+1,0,none⟩ 1 1 (lcell ⟨⟨key,⟨k,l,d,b,cc,o⟩,⟨at_,level,held,LG⟩⟩,a,n,c⟩) rfl ?q1 ?q2 ?q3 ?q4 ?q5 ?q6 ?_)
  case q1=>rfl
  case q2 =>
   intro q u hq
   rw[HLC.out] at hq
   have h1:=new_cells (W:=w8.alloc (.cells #[.int .i64 (room:Int),.slice a8 Fs.length c8] 55)) #[.string KY,.int .i64 k,.int .i64 l,.int .i64 d,.int .i64 b,.int .i64 cc,.bool o,.int .i64 at_,.int .i64 level,.int .i64 held,.slice a n c] 59 hq
   rw[World.size_alloc] at h1
   exact h1
  case q3=>exact lcell_one _
  case q4=>simp only[maxLen];omega
  case q5=>omega
  case q6=>simp;omega
  intro v9 w9 hown9 hgrow9 hnil9
  obtain⟨a9,c9,rfl⟩:=cs_form hown9
  clear hnil9 hi hz0 hz1 hz2
  have hlt8:=(World.ownsRow.lt HR8.out.1)
  have hg9:∀ q,q<w8.heap.size+2→(∀ k,(Value.slice a8 Fs.length c8).ownBlock=some k→k≠q)→w9.heap[q]?=((w8.alloc (.cells #[.int .i64 (room:Int),.slice a8 Fs.length c8] 55)).alloc (.cells #[.string KY,.int .i64 k,.int .i64 l,.int .i64 d,.int .i64 b,.int .i64 cc,.bool o,.int .i64 at_,.int .i64 level,.int .i64 held,.slice a n c] 59)).heap[q]?:=fun q hq hk=>hgrow9.block q (by simp;omega) (fun e=>hk q e.symm rfl)
  have hgo:∀ q,q<w8.heap.size→(∀ k,(Value.slice a8 Fs.length c8).ownBlock=some k→k≠q)→w9.heap[q]?=w8.heap[q]?:=fun q hq hk=>(hg9 q (by omega) hk).trans ((bl_alloc (bl_alloc (bl_refl w8) (.cells #[.int .i64 (room:Int),.slice a8 Fs.length c8] 55)) (.cells #[.string KY,.int .i64 k,.int .i64 l,.int .i64 d,.int .i64 b,.int .i64 cc,.bool o,.int .i64 at_,.int .i64 level,.int .i64 held,.slice a n c] 59)).block q hq)
  have lbr:=World.block_lt_of_cell? _ _ rs0
  dsimp only at lbr
  have hrb:=hgo (w.heap.size+2) (by omega) (fun k hk=>by have:=(hlt8 k hk).1;omega)
  have hub:=hg9 w8.heap.size (by omega) (fun k hk=>by have:=(hlt8 k hk).2;omega)
  replace rs0:w9.cell? ⟨w.heap.size+2,0,none⟩=some (.int .i64 0):=by rw[World.cell?_of_block hrb];exact rs0
  replace rs1:w9.cell? ⟨w.heap.size+2,1,none⟩=some (.slice none 0 0):=by rw[World.cell?_of_block hrb];exact rs1
  replace yf0:w9.frozen? ⟨w.heap.size+2,0,none⟩=false:=by rw[World.frozen?_of_block hrb];exact yf0
  replace yf1:w9.frozen? ⟨w.heap.size+2,1,none⟩=false:=by rw[World.frozen?_of_block hrb];exact yf1
  have u0:w9.cell? ⟨w8.heap.size,0,none⟩=some (.int .i64 (room:Int)):=by rw[World.cell?_of_block hub];go_simp
  have u1:w9.cell? ⟨w8.heap.size,1,none⟩=some (.slice a8 Fs.length c8):=by rw[World.cell?_of_block hub];go_simp
  have uf:w9.frozen? ⟨w8.heap.size,1,none⟩=false:=by rw[World.frozen?_of_block hub];go_simp
  have hnb:(Value.slice a9 (Fs.length+1) c9).ownBlock≠some w8.heap.size:=row_notbox hown9 (t:=55) (cs := #[.int .i64 (room:Int),.slice a8 Fs.length c8]) (by rw[hub];exact((bl_alloc (bl_refl (w8.alloc (.cells #[.int .i64 (room:Int),.slice a8 Fs.length c8] 55))) (.cells #[.string KY,.int .i64 k,.int .i64 l,.int .i64 d,.int .i64 b,.int .i64 cc,.bool o,.int .i64 at_,.int .i64 level,.int .i64 held,.slice a n c] 59)).block w8.heap.size (by simp)).trans (World.alloc_heap_new w8 _)) (by decide)
  have hB9:Below w.heap.size w w9:=(bl_alloc (bl_alloc HB8.out (.cells #[.int .i64 (room:Int),.slice a8 Fs.length c8] 55)) (.cells #[.string KY,.int .i64 k,.int .i64 l,.int .i64 d,.int .i64 b,.int .i64 cc,.bool o,.int .i64 at_,.int .i64 level,.int .i64 held,.slice a n c] 59)).grown hgrow9 (by simp;omega) (fun k hk=>by have:=(hlt8 k hk).1;omega)
  have HB9:=Go.Lib.hid hB9
  have HO9:=Go.Lib.hid hown9
  have HNB:=Go.Lib.hid hnb
  have hqn:w8.heap.size≠w.heap.size+2:=by omega
  have hqn2:w.heap.size+2≠w8.heap.size:=by omega
  have lb9:=World.block_lt_of_cell? _ _ u0
  dsimp only at lb9
  clear hown9 hnb hB9 hgrow9 hg9 hgo hrb hub hlt8 xb0 xb1 xb2 xb3 xb4 xb5 xb6 xb7 xb8 xb9 xb10
  go_wp2_with fail
  have hB2:=bl_set (bl_set (bl_set HB9.out (a:=⟨w8.heap.size,1,none⟩) (by dsimp only;omega) (.slice a9 (Fs.length+1) c9)) (a:=⟨w.heap.size+2,0,none⟩) (by dsimp only;omega) (.int .i64 (room:Int))) (a:=⟨w.heap.size+2,1,none⟩) (by dsimp only;omega) (.slice a9 (Fs.length+1) c9)
  have hne2:(Value.slice a9 (Fs.length+1) c9).ownBlock≠some (w.heap.size+2):=fun e=>by have:=(World.ownsRow.lt HO9.out _ e).1;omega
  have hR2:=row_set2 (a:=⟨w.heap.size+2,1,none⟩) (row_set2 (a:=⟨w.heap.size+2,0,none⟩) (row_set2 (a:=⟨w8.heap.size,1,none⟩) HO9.out HNB.out (.slice a9 (Fs.length+1) c9)) hne2 (.int .i64 (room:Int))) hne2 (.slice a9 (Fs.length+1) c9)
  have hres:=fun(tm:Array Value) (W:World) (hx:tm.getD 6 undef=.pointer (some ⟨w.heap.size+2,0,none⟩)) i0 i1=>results_t2 (v0:=.int .i64 (room:Int)) (v1:=.slice a9 (Fs.length+1) c9) (fn:=Tryz.f74) rfl tm W hx i0 i1
  refine bodyPost_ret (hres _ _ rfl ?q0 ?q1) rfl ?_
  case q0=>go_simp
  case q1=>go_simp
  have hsubF:∀ i ∈ Fs,i ∈ Js:=fun i hi=>HS8.out i hi
  have hpu:=cset_some (room:=room) HRR.out HFF.out HBE.out.symm (M:=Js.map (·.x)) (by unfold cRoom;rw[if_pos (by rw[List.length_map,← HN.out];have:=HLT.out;omega)])
  have hwn:=without_no (has_false.1 HBE.out.symm)
  (try dsimp only at hwn)
  rw[hpu]
  refine⟨_,Fs ++ [⟨⟨key,⟨k,l,d,b,cc,o⟩,⟨at_,level,held,LG⟩⟩,a,n,c⟩],rfl,⟨by rw[List.length_append,lcells_append,lcells_one];exact row_base hR2 (Nat.zero_le _),fun i hi=>?_⟩,?_,?_,fun i hi=>?_,hB2⟩
  ·rcases List.mem_append.1 hi with hi|hi
   ·exact log_bl (HROW.out.2 i (hsubF i hi)) hB2
   ·rw[List.mem_singleton.1 hi];exact log_bl HLG.out hB2
  ·exact fun k hk => .inr (by have:=(World.ownsRow.lt HO9.out k hk).1;omega)
  ·rw[List.map_append,HM8.out,HKL.out];first|rfl|(rw[hwn];rfl)
  ·rcases List.mem_append.1 hi with hi|hi
   ·exact .inl (hsubF i hi)
   ·exact .inr (List.mem_singleton.1 hi)
 ·subst hb1
  have HGE:=Go.Lib.hid hge
  go_wp2_with fail
  refine(rvictim_any (Js:=Js) (base:=0) (room:Int) (.slice ra N rc) now _ (crow_bl HROW.out hB) (by omega)).mono ?_
  rintro e w6 ⟨hvp,hb6⟩
  replace tb0:=bl_cell hb6 tb0
  replace tb1:=bl_cell hb6 tb1
  replace rs0:=bl_cell hb6 rs0
  replace rs1:=bl_cell hb6 rs1
  replace xb0:=bl_cell hb6 xb0
  replace xb1:=bl_cell hb6 xb1
  replace xb2:=bl_cell hb6 xb2
  replace xb3:=bl_cell hb6 xb3
  replace xb4:=bl_cell hb6 xb4
  replace xb5:=bl_cell hb6 xb5
  replace xb6:=bl_cell hb6 xb6
  replace xb7:=bl_cell hb6 xb7
  replace xb8:=bl_cell hb6 xb8
  replace xb9:=bl_cell hb6 xb9
  replace xb10:=bl_cell hb6 xb10
  replace rsR:=fb_bl rsR hb6
  replace tbR:=fb_bl tbR hb6
  replace hB:=bl_then hB hb6
  have lb_t:=lbc rs0
  clear hb6
  rcases hvp with⟨j,i,hij,hvic,rfl⟩|⟨hvic,rfl⟩
  rotate_left
  ·obtain⟨⟨-,yf0⟩,⟨-,yf1⟩⟩:=And.intro (rsR 0 (by omega)) (rsR 1 (by omega))
   have HVIC:=Go.Lib.hid hvic
   clear hvic
   go_wp2_with fail
   have HPU:Hid (cSet room (Js.map (·.x)) ⟨key,⟨k,l,d,b,cc,o⟩,⟨at_,level,held,LG⟩⟩ now=(Js.map (·.x),5)):=Go.Lib.hid (cset_none (room:=room) HRR.out HFF.out HBE.out.symm (by unfold cRoom;rw[if_neg (by rw[List.length_map,← HN.out];have:=HGE.out;omega),HVIC.out];rfl))
   have hB2:=bl_set (bl_set hB (a:=⟨w.heap.size+2,0,none⟩) (by dsimp only;omega) (.int .i64 (room:Int))) (a:=⟨w.heap.size+2,1,none⟩) (by dsimp only;omega) (.slice ra N rc)
   have hres:=fun(tm:Array Value) (W:World) (hx:tm.getD 6 undef=.pointer (some ⟨w.heap.size+2,0,none⟩)) i0 i1=>results_t2 (v0:=.int .i64 (room:Int)) (v1:=.slice ra N rc) (fn:=Tryz.f74) rfl tm W hx i0 i1
   refine bodyPost_ret (hres _ _ rfl ?q0 ?q1) rfl ?_
   case q0=>go_simp
   case q1=>go_simp
   rw[HPU.out]
   exact⟨_,Js,rfl,crow_bl HROW.out hB2,(fun k hk => .inl hk),rfl,fun i hi => .inl hi,hB2⟩
  ·obtain ⟨g,cap,e,rc0,-⟩:=crow_at (crow_bl HROW.out hB) hij
   have hNj:j<N:=by rw[HN.out];exact(List.getElem?_eq_some_iff.1 hij).1
   rw[← HN.out] at e
   injection e with e1 e2 e3
   subst e1 e3
   have k0:(0:Int)≤(j:Int):=by omega
   have k1:(j:Int)<(N:Int):=by omega
   have kz:¬ (j:Int)<0:=by omega
   have hgw:g<w.heap.size:=by have:=(World.ownsRow.lt HROW.out.1 g rfl).2;exact this
   obtain⟨KI,hKI⟩:∃ z,z=ktx i.x.key:=⟨_,rfl⟩
   rw[← hKI] at rc0
   have HKI:=Go.Lib.hid hKI
   have HIJ:=Go.Lib.hid hij
   have HVIC:=Go.Lib.hid hvic
   clear hKI hij hvic
   go_wp2_with fail
   refine wp_region_held_drew (S:=fun X=>X.cell? ⟨g,j*11,none⟩=some (.string KI)) (by kernel_rfl) ?_ (fun hHeld=>?_)
   ·exact rc0
   try simp only[Act.put,List.setIfInBounds_toArray,List.set_cons_zero,List.set_cons_succ]
   refine wpAnyH_abs (F:=fun X=>Below w.heap.size w X∧X.cell? ⟨w.heap.size,0,none⟩=some (.int .i64 (room:Int))∧X.cell? ⟨w.heap.size,1,none⟩=some (.slice (some ⟨g,0,none⟩) N rc)∧FB X w.heap.size 2∧X.cell? ⟨w.heap.size+2,0,none⟩=some (.int .i64 0)∧X.cell? ⟨w.heap.size+2,1,none⟩=some (.slice none 0 0)∧FB X (w.heap.size+2) 2∧X.cell? ⟨w.heap.size+1,0,none⟩=some (.string KY)∧X.cell? ⟨w.heap.size+1,1,none⟩=some (.int .i64 k)∧X.cell? ⟨w.heap.size+1,2,none⟩=some (.int .i64 l)∧X.cell? ⟨w.heap.size+1,3,none⟩=some (.int .i64 d)∧X.cell? ⟨w.heap.size+1,4,none⟩=some (.int .i64 b)∧X.cell? ⟨w.heap.size+1,5,none⟩=some (.int .i64 cc)∧X.cell? ⟨w.heap.size+1,6,none⟩=some (.bool o)∧X.cell? ⟨w.heap.size+1,7,none⟩=some (.int .i64 at_)∧X.cell? ⟨w.heap.size+1,8,none⟩=some (.int .i64 level)∧X.cell? ⟨w.heap.size+1,9,none⟩=some (.int .i64 held)∧X.cell? ⟨w.heap.size+1,10,none⟩=some (.slice a n c)) hHeld ⟨bl_drew hB,tb0,tb1,tbR,rs0,rs1,rsR,xb0,xb1,xb2,xb3,xb4,xb5,xb6,xb7,xb8,xb9,xb10⟩ ?_
   clear hHeld rc0 hB tb0 tb1 tbR rs0 rs1 rsR xb0 xb1 xb2 xb3 xb4 xb5 xb6 xb7 xb8 xb9 xb10
   rintro X0 hHeld ⟨hB,tb0,tb1,tbR,rs0,rs1,rsR,xb0,xb1,xb2,xb3,xb4,xb5,xb6,xb7,xb8,xb9,xb10⟩
   refine tkx 1 ?_
   refine tkx 3 ?_
   refine callC2 (i:=0) (j:=2) rfl rfl ?brA ?brB
   case' brA=>(intro K hK;go_simp;refine hK.out _ _ (id hHeld) (fun hHeld2=>?_);clear hHeld hK K;have hHeld:=hHeld2;clear hHeld2;(try simp only[Act.put,List.setIfInBounds_toArray,List.set_cons_zero,List.set_cons_succ]);refine callC (i:=2) rfl (fun K hK=>?_);go_simp;refine hK.out _ _ (id hHeld) (fun hHeld2=>?_);clear hHeld hK K;have hHeld:=hHeld2;clear hHeld2;(try simp only[Act.put,List.setIfInBounds_toArray,List.set_cons_zero,List.set_cons_succ]);(refine tkx 4 ?_);(refine tkx 5 ?_);(refine tkx 6 ?_))
   case' brB=>(intro K hK;go_simp;refine hK.out _ _ (id hHeld) (fun hHeld2=>?_);clear hHeld hK K;have hHeld:=hHeld2;clear hHeld2;(try simp only[Act.put,List.setIfInBounds_toArray,List.set_cons_zero,List.set_cons_succ]);(refine tkx 4 ?_);(refine tkx 5 ?_);(refine tkx 6 ?_);refine callC (i:=0) rfl (fun K hK=>?_);go_simp;refine hK.out _ _ (id hHeld) (fun hHeld2=>?_);clear hHeld hK K;have hHeld:=hHeld2;clear hHeld2;(try simp only[Act.put,List.setIfInBounds_toArray,List.set_cons_zero,List.set_cons_succ]))
   all_goals(refine callC (i:=7) rfl (fun K hK=>?_);go_simp;refine(rwithout_any (Js:=Js) (base:=0) (room:Int) (.slice (some ⟨g,0,none⟩) N rc) KI _ (crow_bl HROW.out hB) (by omega)).mono ?_;rintro e X7 ⟨v7,F1,rfl,hrow7,hmap7,hsub7,hb7⟩;unfold TV;obtain⟨a7,c7,rfl⟩:=cs_form hrow7.1;have rc7:=bl_cell hb7 (id hHeld);have HR7:=Go.Lib.hid hrow7;have HM7:=Go.Lib.hid hmap7;have HS7:=Go.Lib.hid hsub7;have HB7:=Go.Lib.hid hb7;clear hrow7 hmap7 hsub7 hb7;go_wp2_with fail;refine hK.out _ _ rc7 (fun hHeld2=>?_);clear rc7;clear hHeld hK K;have hHeld:=hHeld2;clear hHeld2;(try simp only[Act.put,List.setIfInBounds_toArray,List.set_cons_zero,List.set_cons_succ]))
   all_goals have hs7:=HB7.out.size
   all_goals have hlx:=World.block_lt_of_cell? _ _ rs0
   all_goals dsimp only at hlx
   all_goals replace hB:=bl_then hB HB7.out
   all_goals replace tb0:=bl_cell HB7.out tb0
   all_goals replace tb1:=bl_cell HB7.out tb1
   all_goals replace rs0:=bl_cell HB7.out rs0
   all_goals replace rs1:=bl_cell HB7.out rs1
   all_goals replace xb0:=bl_cell HB7.out xb0
   all_goals replace xb1:=bl_cell HB7.out xb1
   all_goals replace xb2:=bl_cell HB7.out xb2
   all_goals replace xb3:=bl_cell HB7.out xb3
   all_goals replace xb4:=bl_cell HB7.out xb4
   all_goals replace xb5:=bl_cell HB7.out xb5
   all_goals replace xb6:=bl_cell HB7.out xb6
   all_goals replace xb7:=bl_cell HB7.out xb7
   all_goals replace xb8:=bl_cell HB7.out xb8
   all_goals replace xb9:=bl_cell HB7.out xb9
   all_goals replace xb10:=bl_cell HB7.out xb10
   all_goals replace rsR:=fb_bl rsR HB7.out
   all_goals replace tbR:=fb_bl tbR HB7.out
   all_goals obtain⟨⟨-,tf0⟩,⟨-,tf1⟩⟩:=And.intro (tbR 0 (by omega)) (tbR 1 (by omega))
   all_goals(refine callC (i:=8) rfl (fun K hK=>?_);go_simp;refine hK.out _ _ (far_set (a:=⟨w.heap.size,1,none⟩) (far_set (a:=⟨w.heap.size,0,none⟩) (id hHeld) (.int .i64 (room:Int)) (by dsimp only;omega)) (.slice a7 F1.length c7) (by dsimp only;omega)) (fun hHeld2=>?_);clear hHeld hK K;have hHeld:=hHeld2;clear hHeld2;(try simp only[Act.put,List.setIfInBounds_toArray,List.set_cons_zero,List.set_cons_succ]))
   all_goals refine wpAnyH_done (by kernel_rfl) ?_ _
   all_goals clear hHeld
   all_goals have hBY:=bl_set (bl_set hB (a:=⟨w.heap.size,0,none⟩) (Nat.le_refl _) (.int .i64 (room:Int))) (a:=⟨w.heap.size,1,none⟩) (Nat.le_refl _) (.slice a7 F1.length c7)
   all_goals have hRY:=row_set (a:=⟨w.heap.size,1,none⟩) (row_set (a:=⟨w.heap.size,0,none⟩) HR7.out.1 (by dsimp only;omega) (.int .i64 (room:Int))) (by dsimp only;omega) (.slice a7 F1.length c7)
   all_goals refine then_abs (F:=fun Y=>Below w.heap.size w Y∧CRow Y 0 (.slice a7 F1.length c7) F1∧w.heap.size+3≤Y.heap.size∧Y.cell? ⟨w.heap.size,0,none⟩=some (.int .i64 (room:Int))∧Y.cell? ⟨w.heap.size,1,none⟩=some (.slice a7 F1.length c7)∧Y.cell? ⟨w.heap.size+2,0,none⟩=some (.int .i64 0)∧Y.cell? ⟨w.heap.size+2,1,none⟩=some (.slice none 0 0)∧FB Y (w.heap.size+2) 2∧Y.cell? ⟨w.heap.size+1,0,none⟩=some (.string KY)∧Y.cell? ⟨w.heap.size+1,1,none⟩=some (.int .i64 k)∧Y.cell? ⟨w.heap.size+1,2,none⟩=some (.int .i64 l)∧Y.cell? ⟨w.heap.size+1,3,none⟩=some (.int .i64 d)∧Y.cell? ⟨w.heap.size+1,4,none⟩=some (.int .i64 b)∧Y.cell? ⟨w.heap.size+1,5,none⟩=some (.int .i64 cc)∧Y.cell? ⟨w.heap.size+1,6,none⟩=some (.bool o)∧Y.cell? ⟨w.heap.size+1,7,none⟩=some (.int .i64 at_)∧Y.cell? ⟨w.heap.size+1,8,none⟩=some (.int .i64 level)∧Y.cell? ⟨w.heap.size+1,9,none⟩=some (.int .i64 held)∧Y.cell? ⟨w.heap.size+1,10,none⟩=some (.slice a n c)) ⟨hBY,⟨row_base hRY (Nat.zero_le _),fun i hi=>log_bl (HROW.out.2 i (HS7.out i hi)) hBY⟩,by simp only[World.size_setCell];omega,by go_simp,by go_simp,far_set (a:=⟨w.heap.size,1,none⟩) (far_set (a:=⟨w.heap.size,0,none⟩) rs0 (.int .i64 (room:Int)) (by dsimp only;omega)) (.slice a7 F1.length c7) (by dsimp only;omega),far_set (a:=⟨w.heap.size,1,none⟩) (far_set (a:=⟨w.heap.size,0,none⟩) rs1 (.int .i64 (room:Int)) (by dsimp only;omega)) (.slice a7 F1.length c7) (by dsimp only;omega),fb_set (fb_set rsR _ _) _ _,far_set (a:=⟨w.heap.size,1,none⟩) (far_set (a:=⟨w.heap.size,0,none⟩) xb0 (.int .i64 (room:Int)) (by dsimp only;omega)) (.slice a7 F1.length c7) (by dsimp only;omega),far_set (a:=⟨w.heap.size,1,none⟩) (far_set (a:=⟨w.heap.size,0,none⟩) xb1 (.int .i64 (room:Int)) (by dsimp only;omega)) (.slice a7 F1.length c7) (by dsimp only;omega),far_set (a:=⟨w.heap.size,1,none⟩) (far_set (a:=⟨w.heap.size,0,none⟩) xb2 (.int .i64 (room:Int)) (by dsimp only;omega)) (.slice a7 F1.length c7) (by dsimp only;omega),far_set (a:=⟨w.heap.size,1,none⟩) (far_set (a:=⟨w.heap.size,0,none⟩) xb3 (.int .i64 (room:Int)) (by dsimp only;omega)) (.slice a7 F1.length c7) (by dsimp only;omega),far_set (a:=⟨w.heap.size,1,none⟩) (far_set (a:=⟨w.heap.size,0,none⟩) xb4 (.int .i64 (room:Int)) (by dsimp only;omega)) (.slice a7 F1.length c7) (by dsimp only;omega),far_set (a:=⟨w.heap.size,1,none⟩) (far_set (a:=⟨w.heap.size,0,none⟩) xb5 (.int .i64 (room:Int)) (by dsimp only;omega)) (.slice a7 F1.length c7) (by dsimp only;omega),far_set (a:=⟨w.heap.size,1,none⟩) (far_set (a:=⟨w.heap.size,0,none⟩) xb6 (.int .i64 (room:Int)) (by dsimp only;omega)) (.slice a7 F1.length c7) (by dsimp only;omega),far_set (a:=⟨w.heap.size,1,none⟩) (far_set (a:=⟨w.heap.size,0,none⟩) xb7 (.int .i64 (room:Int)) (by dsimp only;omega)) (.slice a7 F1.length c7) (by dsimp only;omega),far_set (a:=⟨w.heap.size,1,none⟩) (far_set (a:=⟨w.heap.size,0,none⟩) xb8 (.int .i64 (room:Int)) (by dsimp only;omega)) (.slice a7 F1.length c7) (by dsimp only;omega),far_set (a:=⟨w.heap.size,1,none⟩) (far_set (a:=⟨w.heap.size,0,none⟩) xb9 (.int .i64 (room:Int)) (by dsimp only;omega)) (.slice a7 F1.length c7) (by dsimp only;omega),far_set (a:=⟨w.heap.size,1,none⟩) (far_set (a:=⟨w.heap.size,0,none⟩) xb10 (.int .i64 (room:Int)) (by dsimp only;omega)) (.slice a7 F1.length c7) (by dsimp only;omega)⟩ ?_
   all_goals clear hBY hRY tf0 tf1 tbR HR7 HB7 hB tb0 tb1 rs0 rs1 rsR xb0 xb1 xb2 xb3 xb4 xb5 xb6 xb7 xb8 xb9 xb10
   all_goals rintro Y0 ⟨hB,hrow7,hsz3,tb0,tb1,rs0,rs1,rsR,xb0,xb1,xb2,xb3,xb4,xb5,xb6,xb7,xb8,xb9,xb10⟩
   all_goals have lb_y:=World.block_lt_of_cell? _ _ rs0
   all_goals dsimp only at lb_y
   all_goals have hF1l:F1.length≤10000:=by(have h1:=congrArg List.length HM7.out;rw[List.length_map] at h1;have h2:=List.length_filter_le (fun x:Cl => !(x.key == KI.data.toList)) (Js.map (·.x));rw[List.length_map] at h2;unfold cWithout at h1;omega)
   all_goals go_wp2_with fail
   ·refine (rwithout_any (Js:=F1) (base:=0) (room:Int) (.slice a7 F1.length c7) KY _ (hrow7) (by omega)).mono ?_
    rintro e w8 ⟨v8,Fs,rfl,hrow8,hmap8,hsub8,hb8⟩
    unfold TV
    obtain⟨a8,c8,rfl⟩:=cs_form hrow8.1
    replace xb0:=bl_cell hb8 xb0
    replace xb1:=bl_cell hb8 xb1
    replace xb2:=bl_cell hb8 xb2
    replace xb3:=bl_cell hb8 xb3
    replace xb4:=bl_cell hb8 xb4
    replace xb5:=bl_cell hb8 xb5
    replace xb6:=bl_cell hb8 xb6
    replace xb7:=bl_cell hb8 xb7
    replace xb8:=bl_cell hb8 xb8
    replace xb9:=bl_cell hb8 xb9
    replace xb10:=bl_cell hb8 xb10
    have rs8:=fb_bl rsR hb8
    replace rs0:=bl_cell hb8 rs0
    replace rs1:=bl_cell hb8 rs1
    have hFl:Fs.length≤10000:=by have h1:=congrArg List.length hmap8;rw[List.length_map] at h1;have h2:=List.length_filter_le (fun x:Cl => !(x.key == KY.data.toList)) (F1.map (·.x));rw[List.length_map] at h2;unfold cWithout at h1;omega
    have hsW:w.heap.size+3≤Y0.heap.size:=hsz3
    have hs8:=hb8.size
    have hB8:=bl_then hB hb8
    have HR8:=Go.Lib.hid hrow8
    have HB8:=Go.Lib.hid hB8
    have HM8:=Go.Lib.hid hmap8
    have HS8:=Go.Lib.hid hsub8
    clear hrow8 hmap8 hsub8 hb8 hB8 hB rsR
    obtain⟨⟨-,yf0⟩,⟨-,yf1⟩⟩:=And.intro (rs8 0 (by omega)) (rs8 1 (by omega))
    have HY8:=Go.Lib.hid (And.intro yf0 yf1)
    clear rs8
    obtain⟨i0,hi,hz0,hz1,hz2⟩:=info_parts infoC
    have lbx8:=World.block_lt_of_cell? _ _ xb0
    have lbr8:=World.block_lt_of_cell? _ _ rs0
    dsimp only at lbx8 lbr8
    go_wp2_with (at_builtin;refine wpList_append_own _ rfl _ _ 53 rfl Y0.heap.size 59 i0 _ 11 112 undC hi hz0 hz1 hz2 rfl (by decide) _ _ _ rfl (row_bl HR8.out.1 (bl_alloc (bl_alloc (bl_refl w8) (.cells #[.int .i64 (room:Int),.slice a8 Fs.length c8] 55)) (.cells #[.string KY,.int .i64 k,.int .i64 l,.int .i64 d,.int .i64 b,.int .i64 cc,.bool o,.int .i64 at_,.int .i64 level,.int .i64 held,.slice a n c] 59))) ⟨w8.heap.size+1,0,none⟩ 1 1 (lcell ⟨⟨key,⟨k,l,d,b,cc,o⟩,⟨at_,level,held,LG⟩⟩,a,n,c⟩) rfl ?q1 ?q2 ?q3 ?q4 ?q5 ?q6 ?_)
    case q1=>rfl
    case q2 =>
     intro q u hq
     rw[HLC.out] at hq
     have h1:=new_cells (W:=w8.alloc (.cells #[.int .i64 (room:Int),.slice a8 Fs.length c8] 55)) #[.string KY,.int .i64 k,.int .i64 l,.int .i64 d,.int .i64 b,.int .i64 cc,.bool o,.int .i64 at_,.int .i64 level,.int .i64 held,.slice a n c] 59 hq
     rw[World.size_alloc] at h1
     exact h1
    case q3=>exact lcell_one _
    case q4=>simp only[maxLen];omega
    case q5=>omega
    case q6=>simp;omega
    intro v9 w9 hown9 hgrow9 hnil9
    obtain⟨a9,c9,rfl⟩:=cs_form hown9
    clear hnil9 hi hz0 hz1 hz2
    have hlt8:=(World.ownsRow.lt HR8.out.1)
    have hg9:∀ q,q<w8.heap.size+2→(∀ k,(Value.slice a8 Fs.length c8).ownBlock=some k→k≠q)→w9.heap[q]?=((w8.alloc (.cells #[.int .i64 (room:Int),.slice a8 Fs.length c8] 55)).alloc (.cells #[.string KY,.int .i64 k,.int .i64 l,.int .i64 d,.int .i64 b,.int .i64 cc,.bool o,.int .i64 at_,.int .i64 level,.int .i64 held,.slice a n c] 59)).heap[q]?:=fun q hq hk=>hgrow9.block q (by simp;omega) (fun e=>hk q e.symm rfl)
    have hgo:∀ q,q<w8.heap.size→(∀ k,(Value.slice a8 Fs.length c8).ownBlock=some k→k≠q)→w9.heap[q]?=w8.heap[q]?:=fun q hq hk=>(hg9 q (by omega) hk).trans ((bl_alloc (bl_alloc (bl_refl w8) (.cells #[.int .i64 (room:Int),.slice a8 Fs.length c8] 55)) (.cells #[.string KY,.int .i64 k,.int .i64 l,.int .i64 d,.int .i64 b,.int .i64 cc,.bool o,.int .i64 at_,.int .i64 level,.int .i64 held,.slice a n c] 59)).block q hq)
    have lbr:=World.block_lt_of_cell? _ _ rs0
    dsimp only at lbr
    have hrb:=hgo (w.heap.size+2) (by omega) (fun k hk=>by have:=(hlt8 k hk).1;omega)
    have hub:=hg9 w8.heap.size (by omega) (fun k hk=>by have:=(hlt8 k hk).2;omega)
    replace rs0:w9.cell? ⟨w.heap.size+2,0,none⟩=some (.int .i64 0):=by rw[World.cell?_of_block hrb];exact rs0
    replace rs1:w9.cell? ⟨w.heap.size+2,1,none⟩=some (.slice none 0 0):=by rw[World.cell?_of_block hrb];exact rs1
    replace yf0:w9.frozen? ⟨w.heap.size+2,0,none⟩=false:=by rw[World.frozen?_of_block hrb];exact yf0
    replace yf1:w9.frozen? ⟨w.heap.size+2,1,none⟩=false:=by rw[World.frozen?_of_block hrb];exact yf1
    have u0:w9.cell? ⟨w8.heap.size,0,none⟩=some (.int .i64 (room:Int)):=by rw[World.cell?_of_block hub];go_simp
    have u1:w9.cell? ⟨w8.heap.size,1,none⟩=some (.slice a8 Fs.length c8):=by rw[World.cell?_of_block hub];go_simp
    have uf:w9.frozen? ⟨w8.heap.size,1,none⟩=false:=by rw[World.frozen?_of_block hub];go_simp
    have hnb:(Value.slice a9 (Fs.length+1) c9).ownBlock≠some w8.heap.size:=row_notbox hown9 (t:=55) (cs := #[.int .i64 (room:Int),.slice a8 Fs.length c8]) (by rw[hub];exact((bl_alloc (bl_refl (w8.alloc (.cells #[.int .i64 (room:Int),.slice a8 Fs.length c8] 55))) (.cells #[.string KY,.int .i64 k,.int .i64 l,.int .i64 d,.int .i64 b,.int .i64 cc,.bool o,.int .i64 at_,.int .i64 level,.int .i64 held,.slice a n c] 59)).block w8.heap.size (by simp)).trans (World.alloc_heap_new w8 _)) (by decide)
    have hB9:Below w.heap.size w w9:=(bl_alloc (bl_alloc HB8.out (.cells #[.int .i64 (room:Int),.slice a8 Fs.length c8] 55)) (.cells #[.string KY,.int .i64 k,.int .i64 l,.int .i64 d,.int .i64 b,.int .i64 cc,.bool o,.int .i64 at_,.int .i64 level,.int .i64 held,.slice a n c] 59)).grown hgrow9 (by simp;omega) (fun k hk=>by have:=(hlt8 k hk).1;omega)
    have HB9:=Go.Lib.hid hB9
    have HO9:=Go.Lib.hid hown9
    have HNB:=Go.Lib.hid hnb
    have hqn:w8.heap.size≠w.heap.size+2:=by omega
    have hqn2:w.heap.size+2≠w8.heap.size:=by omega
    have lb9:=World.block_lt_of_cell? _ _ u0
    dsimp only at lb9
    clear hown9 hnb hB9 hgrow9 hg9 hgo hrb hub hlt8 xb0 xb1 xb2 xb3 xb4 xb5 xb6 xb7 xb8 xb9 xb10
    go_wp2_with fail
    have hB2:=bl_set (bl_set (bl_set HB9.out (a:=⟨w8.heap.size,1,none⟩) (by dsimp only;omega) (.slice a9 (Fs.length+1) c9)) (a:=⟨w.heap.size+2,0,none⟩) (by dsimp only;omega) (.int .i64 (room:Int))) (a:=⟨w.heap.size+2,1,none⟩) (by dsimp only;omega) (.slice a9 (Fs.length+1) c9)
    have hne2:(Value.slice a9 (Fs.length+1) c9).ownBlock≠some (w.heap.size+2):=fun e=>by have:=(World.ownsRow.lt HO9.out _ e).1;omega
    have hR2:=row_set2 (a:=⟨w.heap.size+2,1,none⟩) (row_set2 (a:=⟨w.heap.size+2,0,none⟩) (row_set2 (a:=⟨w8.heap.size,1,none⟩) HO9.out HNB.out (.slice a9 (Fs.length+1) c9)) hne2 (.int .i64 (room:Int))) hne2 (.slice a9 (Fs.length+1) c9)
    have hres:=fun(tm:Array Value) (W:World) (hx:tm.getD 6 undef=.pointer (some ⟨w.heap.size+2,0,none⟩)) i0 i1=>results_t2 (v0:=.int .i64 (room:Int)) (v1:=.slice a9 (Fs.length+1) c9) (fn:=Tryz.f74) rfl tm W hx i0 i1
    refine bodyPost_ret (hres _ _ rfl ?q0 ?q1) rfl ?_
    case q0=>go_simp
    case q1=>go_simp
    have hsubF:∀ i ∈ Fs,i ∈ Js:=fun i hi=>HS7.out i (HS8.out i hi)
    have hpu:=cset_some (room:=room) HRR.out HFF.out HBE.out.symm (M:=F1.map (·.x)) (by unfold cRoom;rw[if_neg (by rw[List.length_map,← HN.out];have:=HGE.out;omega),HVIC.out];show some (cWithout (Js.map (·.x)) i.x.key)=some (F1.map (·.x));rw[HM7.out,HKI.out,ktx_list])
    have hwn:=without_no (L:=F1.map (·.x)) (k:=key) (fun y hy=>by
     obtain⟨i',hi',rfl⟩:=List.mem_map.1 hy
     exact(has_false.1 HBE.out.symm) i'.x (List.mem_map.2 ⟨i',HS7.out i' hi',rfl⟩))
    rw[hpu]
    refine⟨_,Fs ++ [⟨⟨key,⟨k,l,d,b,cc,o⟩,⟨at_,level,held,LG⟩⟩,a,n,c⟩],rfl,⟨by rw[List.length_append,lcells_append,lcells_one];exact row_base hR2 (Nat.zero_le _),fun i hi=>?_⟩,?_,?_,fun i hi=>?_,hB2⟩
    ·rcases List.mem_append.1 hi with hi|hi
     ·exact log_bl (HROW.out.2 i (hsubF i hi)) hB2
     ·rw[List.mem_singleton.1 hi];exact log_bl HLG.out hB2
    ·exact fun k hk => .inr (by have:=(World.ownsRow.lt HO9.out k hk).1;omega)
    ·rw[List.map_append,HM8.out,HKL.out];first|rfl|(rw[hwn];rfl)
    ·rcases List.mem_append.1 hi with hi|hi
     ·exact .inl (hsubF i hi)
     ·exact .inr (List.mem_singleton.1 hi)
   ·refine (rwithout_any (Js:=F1) (base:=0) (room:Int) (.slice a7 F1.length c7) KY _ (hrow7) (by omega)).mono ?_
    rintro e w8 ⟨v8,Fs,rfl,hrow8,hmap8,hsub8,hb8⟩
    unfold TV
    obtain⟨a8,c8,rfl⟩:=cs_form hrow8.1
    replace xb0:=bl_cell hb8 xb0
    replace xb1:=bl_cell hb8 xb1
    replace xb2:=bl_cell hb8 xb2
    replace xb3:=bl_cell hb8 xb3
    replace xb4:=bl_cell hb8 xb4
    replace xb5:=bl_cell hb8 xb5
    replace xb6:=bl_cell hb8 xb6
    replace xb7:=bl_cell hb8 xb7
    replace xb8:=bl_cell hb8 xb8
    replace xb9:=bl_cell hb8 xb9
    replace xb10:=bl_cell hb8 xb10
    have rs8:=fb_bl rsR hb8
    replace rs0:=bl_cell hb8 rs0
    replace rs1:=bl_cell hb8 rs1
    have hFl:Fs.length≤10000:=by have h1:=congrArg List.length hmap8;rw[List.length_map] at h1;have h2:=List.length_filter_le (fun x:Cl => !(x.key == KY.data.toList)) (F1.map (·.x));rw[List.length_map] at h2;unfold cWithout at h1;omega
    have hsW:w.heap.size+3≤Y0.heap.size:=hsz3
    have hs8:=hb8.size
    have hB8:=bl_then hB hb8
    have HR8:=Go.Lib.hid hrow8
    have HB8:=Go.Lib.hid hB8
    have HM8:=Go.Lib.hid hmap8
    have HS8:=Go.Lib.hid hsub8
    clear hrow8 hmap8 hsub8 hb8 hB8 hB rsR
    obtain⟨⟨-,yf0⟩,⟨-,yf1⟩⟩:=And.intro (rs8 0 (by omega)) (rs8 1 (by omega))
    have HY8:=Go.Lib.hid (And.intro yf0 yf1)
    clear rs8
    obtain⟨i0,hi,hz0,hz1,hz2⟩:=info_parts infoC
    have lbx8:=World.block_lt_of_cell? _ _ xb0
    have lbr8:=World.block_lt_of_cell? _ _ rs0
    dsimp only at lbx8 lbr8
    go_wp2_with (at_builtin;refine wpList_append_own _ rfl _ _ 53 rfl Y0.heap.size 59 i0 _ 11 112 undC hi hz0 hz1 hz2 rfl (by decide) _ _ _ rfl (row_bl HR8.out.1 (bl_alloc (bl_alloc (bl_refl w8) (.cells #[.int .i64 (room:Int),.slice a8 Fs.length c8] 55)) (.cells #[.string KY,.int .i64 k,.int .i64 l,.int .i64 d,.int .i64 b,.int .i64 cc,.bool o,.int .i64 at_,.int .i64 level,.int .i64 held,.slice a n c] 59))) ⟨w8.heap.size+1,0,none⟩ 1 1 (lcell ⟨⟨key,⟨k,l,d,b,cc,o⟩,⟨at_,level,held,LG⟩⟩,a,n,c⟩) rfl ?q1 ?q2 ?q3 ?q4 ?q5 ?q6 ?_)
    case q1=>rfl
    case q2 =>
     intro q u hq
     rw[HLC.out] at hq
     have h1:=new_cells (W:=w8.alloc (.cells #[.int .i64 (room:Int),.slice a8 Fs.length c8] 55)) #[.string KY,.int .i64 k,.int .i64 l,.int .i64 d,.int .i64 b,.int .i64 cc,.bool o,.int .i64 at_,.int .i64 level,.int .i64 held,.slice a n c] 59 hq
     rw[World.size_alloc] at h1
     exact h1
    case q3=>exact lcell_one _
    case q4=>simp only[maxLen];omega
    case q5=>omega
    case q6=>simp;omega
    intro v9 w9 hown9 hgrow9 hnil9
    obtain⟨a9,c9,rfl⟩:=cs_form hown9
    clear hnil9 hi hz0 hz1 hz2
    have hlt8:=(World.ownsRow.lt HR8.out.1)
    have hg9:∀ q,q<w8.heap.size+2→(∀ k,(Value.slice a8 Fs.length c8).ownBlock=some k→k≠q)→w9.heap[q]?=((w8.alloc (.cells #[.int .i64 (room:Int),.slice a8 Fs.length c8] 55)).alloc (.cells #[.string KY,.int .i64 k,.int .i64 l,.int .i64 d,.int .i64 b,.int .i64 cc,.bool o,.int .i64 at_,.int .i64 level,.int .i64 held,.slice a n c] 59)).heap[q]?:=fun q hq hk=>hgrow9.block q (by simp;omega) (fun e=>hk q e.symm rfl)
    have hgo:∀ q,q<w8.heap.size→(∀ k,(Value.slice a8 Fs.length c8).ownBlock=some k→k≠q)→w9.heap[q]?=w8.heap[q]?:=fun q hq hk=>(hg9 q (by omega) hk).trans ((bl_alloc (bl_alloc (bl_refl w8) (.cells #[.int .i64 (room:Int),.slice a8 Fs.length c8] 55)) (.cells #[.string KY,.int .i64 k,.int .i64 l,.int .i64 d,.int .i64 b,.int .i64 cc,.bool o,.int .i64 at_,.int .i64 level,.int .i64 held,.slice a n c] 59)).block q hq)
    have lbr:=World.block_lt_of_cell? _ _ rs0
    dsimp only at lbr
    have hrb:=hgo (w.heap.size+2) (by omega) (fun k hk=>by have:=(hlt8 k hk).1;omega)
    have hub:=hg9 w8.heap.size (by omega) (fun k hk=>by have:=(hlt8 k hk).2;omega)
    replace rs0:w9.cell? ⟨w.heap.size+2,0,none⟩=some (.int .i64 0):=by rw[World.cell?_of_block hrb];exact rs0
    replace rs1:w9.cell? ⟨w.heap.size+2,1,none⟩=some (.slice none 0 0):=by rw[World.cell?_of_block hrb];exact rs1
    replace yf0:w9.frozen? ⟨w.heap.size+2,0,none⟩=false:=by rw[World.frozen?_of_block hrb];exact yf0
    replace yf1:w9.frozen? ⟨w.heap.size+2,1,none⟩=false:=by rw[World.frozen?_of_block hrb];exact yf1
    have u0:w9.cell? ⟨w8.heap.size,0,none⟩=some (.int .i64 (room:Int)):=by rw[World.cell?_of_block hub];go_simp
    have u1:w9.cell? ⟨w8.heap.size,1,none⟩=some (.slice a8 Fs.length c8):=by rw[World.cell?_of_block hub];go_simp
    have uf:w9.frozen? ⟨w8.heap.size,1,none⟩=false:=by rw[World.frozen?_of_block hub];go_simp
    have hnb:(Value.slice a9 (Fs.length+1) c9).ownBlock≠some w8.heap.size:=row_notbox hown9 (t:=55) (cs := #[.int .i64 (room:Int),.slice a8 Fs.length c8]) (by rw[hub];exact((bl_alloc (bl_refl (w8.alloc (.cells #[.int .i64 (room:Int),.slice a8 Fs.length c8] 55))) (.cells #[.string KY,.int .i64 k,.int .i64 l,.int .i64 d,.int .i64 b,.int .i64 cc,.bool o,.int .i64 at_,.int .i64 level,.int .i64 held,.slice a n c] 59)).block w8.heap.size (by simp)).trans (World.alloc_heap_new w8 _)) (by decide)
    have hB9:Below w.heap.size w w9:=(bl_alloc (bl_alloc HB8.out (.cells #[.int .i64 (room:Int),.slice a8 Fs.length c8] 55)) (.cells #[.string KY,.int .i64 k,.int .i64 l,.int .i64 d,.int .i64 b,.int .i64 cc,.bool o,.int .i64 at_,.int .i64 level,.int .i64 held,.slice a n c] 59)).grown hgrow9 (by simp;omega) (fun k hk=>by have:=(hlt8 k hk).1;omega)
    have HB9:=Go.Lib.hid hB9
    have HO9:=Go.Lib.hid hown9
    have HNB:=Go.Lib.hid hnb
    have hqn:w8.heap.size≠w.heap.size+2:=by omega
    have hqn2:w.heap.size+2≠w8.heap.size:=by omega
    have lb9:=World.block_lt_of_cell? _ _ u0
    dsimp only at lb9
    clear hown9 hnb hB9 hgrow9 hg9 hgo hrb hub hlt8 xb0 xb1 xb2 xb3 xb4 xb5 xb6 xb7 xb8 xb9 xb10
    go_wp2_with fail
    have hB2:=bl_set (bl_set (bl_set HB9.out (a:=⟨w8.heap.size,1,none⟩) (by dsimp only;omega) (.slice a9 (Fs.length+1) c9)) (a:=⟨w.heap.size+2,0,none⟩) (by dsimp only;omega) (.int .i64 (room:Int))) (a:=⟨w.heap.size+2,1,none⟩) (by dsimp only;omega) (.slice a9 (Fs.length+1) c9)
    have hne2:(Value.slice a9 (Fs.length+1) c9).ownBlock≠some (w.heap.size+2):=fun e=>by have:=(World.ownsRow.lt HO9.out _ e).1;omega
    have hR2:=row_set2 (a:=⟨w.heap.size+2,1,none⟩) (row_set2 (a:=⟨w.heap.size+2,0,none⟩) (row_set2 (a:=⟨w8.heap.size,1,none⟩) HO9.out HNB.out (.slice a9 (Fs.length+1) c9)) hne2 (.int .i64 (room:Int))) hne2 (.slice a9 (Fs.length+1) c9)
    have hres:=fun(tm:Array Value) (W:World) (hx:tm.getD 6 undef=.pointer (some ⟨w.heap.size+2,0,none⟩)) i0 i1=>results_t2 (v0:=.int .i64 (room:Int)) (v1:=.slice a9 (Fs.length+1) c9) (fn:=Tryz.f74) rfl tm W hx i0 i1
    refine bodyPost_ret (hres _ _ rfl ?q0 ?q1) rfl ?_
    case q0=>go_simp
    case q1=>go_simp
    have hsubF:∀ i ∈ Fs,i ∈ Js:=fun i hi=>HS7.out i (HS8.out i hi)
    have hpu:=cset_some (room:=room) HRR.out HFF.out HBE.out.symm (M:=F1.map (·.x)) (by unfold cRoom;rw[if_neg (by rw[List.length_map,← HN.out];have:=HGE.out;omega),HVIC.out];show some (cWithout (Js.map (·.x)) i.x.key)=some (F1.map (·.x));rw[HM7.out,HKI.out,ktx_list])
    have hwn:=without_no (L:=F1.map (·.x)) (k:=key) (fun y hy=>by
     obtain⟨i',hi',rfl⟩:=List.mem_map.1 hy
     exact(has_false.1 HBE.out.symm) i'.x (List.mem_map.2 ⟨i',HS7.out i' hi',rfl⟩))
    rw[hpu]
    refine⟨_,Fs ++ [⟨⟨key,⟨k,l,d,b,cc,o⟩,⟨at_,level,held,LG⟩⟩,a,n,c⟩],rfl,⟨by rw[List.length_append,lcells_append,lcells_one];exact row_base hR2 (Nat.zero_le _),fun i hi=>?_⟩,?_,?_,fun i hi=>?_,hB2⟩
    ·rcases List.mem_append.1 hi with hi|hi
     ·exact log_bl (HROW.out.2 i (hsubF i hi)) hB2
     ·rw[List.mem_singleton.1 hi];exact log_bl HLG.out hB2
    ·exact fun k hk => .inr (by have:=(World.ownsRow.lt HO9.out k hk).1;omega)
    ·rw[List.map_append,HM8.out,HKL.out];first|rfl|(rw[hwn];rfl)
    ·rcases List.mem_append.1 hi with hi|hi
     ·exact .inl (hsubF i hi)
     ·exact .inr (List.mem_singleton.1 hi)
end Go.Proofs.YtmhikkbdhboodaaGreat

namespace Go.Proofs.YtmhikkbdhboodaaGreat
open Go.RowKit Go.Maps
set_option linter.unusedVariables false
set_option linter.unusedSimpArgs false

variable {w w':World} {p p':CsP} {room nx nx':Nat} {m m':List (Int × Value)} {I A B:List CI}
theorem rset_any {Js:List LC} (room:Nat) (v:Value) (x:Cl) (a:Option Addr) (n c:Nat) (now:Int) (w:World) (h:CRow w 0 v Js) (hl:LogAt w a n c x.st.log) (hN:Js.length≤10000) (hap:Apart (Js.map (·.x))) :
  Calls Tryz.prog 74 #[TV room v,x.v a n c,.int .i64 now] w (RsetP w v room Js ⟨x,a,n,c⟩ now):=by
 cases hr:rightP x.pol x.st
 ·exact rset_arg room v x a n c now w h hl hN hr
 ·cases hf:cFresh now x
  ·exact rset_keep room v x a n c now w h hl hN hap hr hf
  ·exact rset_fresh room v x a n c now w h hl hN hr hf
theorem bl_heap {q:Nat} {cs:Array Value} {t:TypeId} (h:w.heap[q]?=some (.cells cs t (0,0))) (hb:Below w.heap.size w w'):w'.heap[q]?=some (.cells cs t (0,0)):=by
 have hq:q<w.heap.size:=by
  rcases Nat.lt_or_ge q w.heap.size with h1|h1
  ·exact h1
  ·rw[Array.getElem?_eq_none h1] at h;cases h
 rw[hb.block q hq];exact h
end Go.Proofs.YtmhikkbdhboodaaGreat

namespace Go.Proofs.YtmhikkbdhboodaaGreat
open Go.RowKit Go.Maps
set_option linter.unusedVariables false
set_option linter.unusedSimpArgs false

variable {w w':World} {p p':CsP} {room nx nx':Nat} {m m':List (Int × Value)} {I A B:List CI}
/-- What Step leaves: a row whose logs are of old ones. -/
def RstepP (w:World) (v:Value) (room:Nat) (Js:List LC) (d:CD) (e:Ending) (w':World):Prop :=
 ∃ (v':Value) (Fs:List LC),e=.returned (.tuple #[TV room v',.int .i64 (cStep room (Js.map (·.x)) d).2])∧CRow w' 0 v' Fs∧OldB w v v'∧Fs.map (·.x)=(cStep room (Js.map (·.x)) d).1∧(∀ i ∈ Fs,OfSrc w d Js i.a i.n)∧Below w.heap.size w w'
theorem src_of {d:CD} {Js:List LC} {i:LC} (h:i ∈ Js):OfSrc w d Js i.a i.n:=fun _ e hn => .inr (.inl ⟨i,h,e,hn⟩)
theorem rstep_any {Js:List LC} (room:Nat) (v:Value) (d:CD) (w:World) (h:CRow w 0 v Js) (hl:LogAt w d.a d.n d.c d.x.st.log) (hN:Js.length≤10000) (hap:Apart (Js.map (·.x))) (hs:d.x.key.length≤maxLen) :
  Calls Tryz.prog 34 #[TV room v,d.v] w (RstepP w v room Js d):=by
 obtain⟨ra,rc,rfl⟩:=cs_form h.1
 obtain⟨N,hNe⟩:∃ N,N=Js.length:=⟨_,rfl⟩
 have HROW:=Go.Lib.hid (show CRow w 0 (.slice ra N rc) Js by rw[hNe];exact h)
 unfold RstepP
 rw[← hNe] at hN ⊢
 have HLG:=Go.Lib.hid hl
 have hsw:=fun W (hW:CRow W 0 (.slice ra N rc) Js)=>rsweep_any (room:Int) (.slice ra N rc) d.now W hW (by omega)
 have hof:=fun W (hW:CRow W 0 (.slice ra N rc) Js) (hL:LogAt W d.a d.n d.c d.x.st.log)=>csof_any (room:Int) (.slice ra N rc) d W hW hL (by omega) hs
 have hset:=fun(a':Option Addr) (n' c':Nat) W (hW:CRow W 0 (.slice ra N rc) Js) hL=>rset_any room (.slice ra N rc) (cOf (Js.map (·.x)) d) a' n' c' d.now W hW hL (by omega) hap
 obtain⟨XO,hXO⟩:∃ x,x=cOf (Js.map (·.x)) d:=⟨_,rfl⟩
 rw[← hXO] at hof hset
 have hst:cStep room (Js.map (·.x)) d=if d.kind=2 then cSweep (Js.map (·.x)) d.now else cSet room (Js.map (·.x)) XO d.now:=by unfold cStep;rw[hXO]
 rw[hst]
 clear hst hXO h hl hap
 have hso:∀ X:World,Below w.heap.size w X→∀ (a':Option Addr) (n':Nat),OfSrc X d Js a' n'→OfSrc w d Js a' n':=fun X hX a' n' ho ad e hn=>(ho ad e hn).imp id (fun o=>o.imp id (fun g=>Nat.le_trans hX.size g))
 have HSO:=Go.Lib.hid hso
 obtain⟨D,hD⟩:∃ D,D=d:=⟨_,rfl⟩
 skip
 clear hso
 unfold RsetP at hset
 obtain⟨dk,⟨key,⟨k,l,d,b,cc,o⟩,⟨at_,level,held,LG⟩⟩,a,n,c,dnow,dcost⟩:=d
 unfold TV CD.v at *
 dsimp only at *
 generalize ktx key=KY at *
 have HN:=Go.Lib.hid hNe
 clear hNe hD
 have HSW:=Go.Lib.hid hsw
 have HOF:=Go.Lib.hid hof
 have HSET:=Go.Lib.hid hset
 clear hsw hof hset
 by_cases hd:dk=2
 ·subst hd
  rw[if_pos rfl]
  go_enter Tryz.func34,Tryz.ntmps34
  go_wp2_with fail
  skip
  refine calls_abs (S0:=fun X=>(fun w'=>w'.cell? ⟨w.heap.size,0,none⟩=some (.int .i64 (room:Int))∧w'.cell? ⟨w.heap.size,1,none⟩=some (.slice ra N rc)∧w'.cell? ⟨w.heap.size+1,0,none⟩=some (.int .i64 2)∧w'.cell? ⟨w.heap.size+1,1,none⟩=some (.string KY)∧w'.cell? ⟨w.heap.size+1,2,none⟩=some (.int .i64 k)∧w'.cell? ⟨w.heap.size+1,3,none⟩=some (.int .i64 l)∧w'.cell? ⟨w.heap.size+1,4,none⟩=some (.int .i64 d)∧w'.cell? ⟨w.heap.size+1,5,none⟩=some (.int .i64 b)∧w'.cell? ⟨w.heap.size+1,6,none⟩=some (.int .i64 cc)∧w'.cell? ⟨w.heap.size+1,7,none⟩=some (.bool o)∧w'.cell? ⟨w.heap.size+1,8,none⟩=some (.int .i64 at_)∧w'.cell? ⟨w.heap.size+1,9,none⟩=some (.int .i64 level)∧w'.cell? ⟨w.heap.size+1,10,none⟩=some (.int .i64 held)∧w'.cell? ⟨w.heap.size+1,11,none⟩=some (.slice a n c)∧w'.cell? ⟨w.heap.size+1,12,none⟩=some (.int .i64 dnow)∧w'.cell? ⟨w.heap.size+1,13,none⟩=some (.int .i64 dcost)∧w'.cell? ⟨w.heap.size+1+1,0,none⟩=some (.int .i64 0)∧w'.cell? ⟨w.heap.size+1+1,1,none⟩=some (.slice none 0 0)∧FB w' (w.heap.size+1+1) 2∧Below w.heap.size w w') X∧w.heap.size+3≤X.heap.size) ⟨⟨by go_simp,by go_simp,by go_simp,by go_simp,by go_simp,by go_simp,by go_simp,by go_simp,by go_simp,by go_simp,by go_simp,by go_simp,by go_simp,by go_simp,by go_simp,by go_simp,by go_simp,by go_simp,fb_new #[.int .i64 0,.slice none 0 0] _ (by simp),k3⟩,by simp⟩ ?_
  rintro w1 ⟨⟨tb0,tb1,db0,db1,db2,db3,db4,db5,db6,db7,db8,db9,db10,db11,db12,db13,rs0,rs1,rsR,hB⟩,hsz1⟩
  have lb_tb:=lbc tb0
  have lb_db:=lbc db0
  have lb_db1:=lbc db10
  have lb_rs:=lbc rs0
  refine(HSW.out _ (crow_bl HROW.out hB)).mono ?_
  rintro e w8 ⟨v8,Fs,rfl,hrow8,hmap8,hsub8,hb8⟩
  obtain⟨a8,c8,rfl⟩:=cs_form hrow8.1
  have rs8:=fb_bl rsR hb8
  replace rs0:=bl_cell hb8 rs0
  replace rs1:=bl_cell hb8 rs1
  have hB8:=bl_then hB hb8
  have hsz8:=hb8.size
  have lbx:=World.block_lt_of_cell? _ _ rs0
  dsimp only at lbx
  have HR8:=Go.Lib.hid hrow8
  have HB8:=Go.Lib.hid hB8
  have HM8:=Go.Lib.hid hmap8
  have HS8:=Go.Lib.hid hsub8
  clear hrow8 hmap8 hsub8 hb8 hB8 hB
  obtain⟨⟨y0,yf0⟩,⟨y1,yf1⟩⟩:=And.intro (rs8 0 (by omega)) (rs8 1 (by omega))
  go_wp2_with fail
  have hB:=HB8.out
  have hB2:=bl_set (bl_set hB (a:=⟨w.heap.size+2,0,none⟩) (by dsimp only;omega) (.int .i64 (room:Int))) (a:=⟨w.heap.size+2,1,none⟩) (by dsimp only;omega) (.slice a8 Fs.length c8)
  have hlf:∀ i ∈ Fs,∀ ad,i.a=some ad→i.n≠0→ad.block≠w.heap.size+2:=fun i hi ad e hn=>by have:=clog_lt (HROW.out.2 i (HS8.out i hi)) ad e hn;omega
  have HCR:=Go.Lib.hid (crow_base (crow_set (a:=⟨w.heap.size+2,1,none⟩) (crow_set (a:=⟨w.heap.size+2,0,none⟩) HR8.out (by dsimp only;omega) hlf (.int .i64 (room:Int))) (by dsimp only;omega) hlf (.slice a8 Fs.length c8)) (Nat.zero_le _))
  have hres:=fun(tm:Array Value) (W:World) (hx:tm.getD 4 undef=.pointer (some ⟨w.heap.size+2,0,none⟩)) i0 i1=>results_t2 (v0:=.int .i64 (room:Int)) (v1:=.slice a8 Fs.length c8) (fn:=Tryz.f34) rfl tm W hx i0 i1
  refine bodyPost_ret (hres _ _ rfl ?q0 ?q1) rfl ?_
  case q0=>go_simp
  case q1=>go_simp
  refine⟨_,Fs,?_,HCR.out,(fun k hk => .inr (by have:=(World.ownsRow.lt HR8.out.1 k hk).1;omega)),?_,fun i hi=>src_of (HS8.out i hi),hB2⟩
  ·unfold cSweep;dsimp only;rw[← HM8.out,List.length_map,List.length_map,← HN.out];rfl
  ·unfold cSweep;exact HM8.out
 ·rw [if_neg hd]
  go_enter Tryz.func34,Tryz.ntmps34
  go_wp2_with fail
  skip
  refine wp_abs (S0:=fun X=>X.heap[w.heap.size+2]?=some (.cells #[.int .i64 0,.slice none 0 0] 55 (0,0))∧(fun w'=>w'.cell? ⟨w.heap.size,0,none⟩=some (.int .i64 (room:Int))∧w'.cell? ⟨w.heap.size,1,none⟩=some (.slice ra N rc)∧w'.cell? ⟨w.heap.size+1,0,none⟩=some (.int .i64 dk)∧w'.cell? ⟨w.heap.size+1,1,none⟩=some (.string KY)∧w'.cell? ⟨w.heap.size+1,2,none⟩=some (.int .i64 k)∧w'.cell? ⟨w.heap.size+1,3,none⟩=some (.int .i64 l)∧w'.cell? ⟨w.heap.size+1,4,none⟩=some (.int .i64 d)∧w'.cell? ⟨w.heap.size+1,5,none⟩=some (.int .i64 b)∧w'.cell? ⟨w.heap.size+1,6,none⟩=some (.int .i64 cc)∧w'.cell? ⟨w.heap.size+1,7,none⟩=some (.bool o)∧w'.cell? ⟨w.heap.size+1,8,none⟩=some (.int .i64 at_)∧w'.cell? ⟨w.heap.size+1,9,none⟩=some (.int .i64 level)∧w'.cell? ⟨w.heap.size+1,10,none⟩=some (.int .i64 held)∧w'.cell? ⟨w.heap.size+1,11,none⟩=some (.slice a n c)∧w'.cell? ⟨w.heap.size+1,12,none⟩=some (.int .i64 dnow)∧w'.cell? ⟨w.heap.size+1,13,none⟩=some (.int .i64 dcost)∧w'.cell? ⟨w.heap.size+1+1,0,none⟩=some (.int .i64 0)∧w'.cell? ⟨w.heap.size+1+1,1,none⟩=some (.slice none 0 0)∧FB w' (w.heap.size+1+1) 2∧Below w.heap.size w w') X∧w.heap.size+3≤X.heap.size) ⟨(by have h:=World.alloc_heap_new ((w.alloc (.cells #[.int .i64 (room:Int),.slice ra N rc] 55)).alloc (.cells #[.int .i64 dk,.string KY,.int .i64 k,.int .i64 l,.int .i64 d,.int .i64 b,.int .i64 cc,.bool o,.int .i64 at_,.int .i64 level,.int .i64 held,.slice a n c,.int .i64 dnow,.int .i64 dcost] 61)) (.cells #[.int .i64 0,.slice none 0 0] 55);simpa only[World.size_alloc] using h),⟨by go_simp,by go_simp,by go_simp,by go_simp,by go_simp,by go_simp,by go_simp,by go_simp,by go_simp,by go_simp,by go_simp,by go_simp,by go_simp,by go_simp,by go_simp,by go_simp,by go_simp,by go_simp,fb_new #[.int .i64 0,.slice none 0 0] _ (by simp),k3⟩,by simp⟩ ?_
  rintro w1 ⟨rsH,⟨tb0,tb1,db0,db1,db2,db3,db4,db5,db6,db7,db8,db9,db10,db11,db12,db13,rs0,rs1,rsR,hB⟩,hsz1⟩
  have lb_tb:=lbc tb0
  have lb_db:=lbc db0
  have lb_db1:=lbc db10
  have lb_rs:=lbc rs0
  refine wp_region_held_drew (S:=fun X=>X.cell? ⟨w.heap.size,0,none⟩=some (.int .i64 (room:Int))∧X.cell? ⟨w.heap.size,1,none⟩=some (.slice ra N rc)∧X.cell? ⟨w.heap.size+1,0,none⟩=some (.int .i64 dk)∧X.cell? ⟨w.heap.size+1,1,none⟩=some (.string KY)∧X.cell? ⟨w.heap.size+1,2,none⟩=some (.int .i64 k)∧X.cell? ⟨w.heap.size+1,3,none⟩=some (.int .i64 l)∧X.cell? ⟨w.heap.size+1,4,none⟩=some (.int .i64 d)∧X.cell? ⟨w.heap.size+1,5,none⟩=some (.int .i64 b)∧X.cell? ⟨w.heap.size+1,6,none⟩=some (.int .i64 cc)∧X.cell? ⟨w.heap.size+1,7,none⟩=some (.bool o)∧X.cell? ⟨w.heap.size+1,8,none⟩=some (.int .i64 at_)∧X.cell? ⟨w.heap.size+1,9,none⟩=some (.int .i64 level)∧X.cell? ⟨w.heap.size+1,10,none⟩=some (.int .i64 held)∧X.cell? ⟨w.heap.size+1,11,none⟩=some (.slice a n c)∧X.cell? ⟨w.heap.size+1,12,none⟩=some (.int .i64 dnow)∧X.cell? ⟨w.heap.size+1,13,none⟩=some (.int .i64 dcost)) (by kernel_rfl) ?_ (fun hHeld=>?_)
  ·exact⟨tb0,tb1,db0,db1,db2,db3,db4,db5,db6,db7,db8,db9,db10,db11,db12,db13⟩
  try simp only[Act.put,List.setIfInBounds_toArray,List.set_cons_zero,List.set_cons_succ]
  refine wpAnyH_abs (F:=fun X=>Below w.heap.size w X∧w.heap.size+3≤X.heap.size∧X.heap[w.heap.size+2]?=some (.cells #[.int .i64 0,.slice none 0 0] 55 (0,0))∧X.cell? ⟨w.heap.size+1+1,0,none⟩=some (.int .i64 0)∧X.cell? ⟨w.heap.size+1+1,1,none⟩=some (.slice none 0 0)∧FB X (w.heap.size+1+1) 2) hHeld ⟨bl_drew hB,hsz1,rsH,rs0,rs1,rsR⟩ ?_
  clear hHeld hB rsH rs0 rs1 rsR hsz1 lb_tb lb_db lb_db1 lb_rs tb0 tb1 db0 db1 db2 db3 db4 db5 db6 db7 db8 db9 db10 db11 db12 db13
  rintro X0 hHeld ⟨hB,hsz1,rsH,rs0,rs1,rsR⟩
  refine tkx 0 ?_
  refine tkx 1 ?_
  refine tkx 2 ?_
  refine tkx 4 ?_
  refine tkx 5 ?_
  refine callC (i:=3) rfl (fun K hK=>?_)
  obtain⟨tb0,tb1,db0,db1,db2,db3,db4,db5,db6,db7,db8,db9,db10,db11,db12,db13⟩:=(id hHeld)
  go_simp
  refine(HOF.out _ (crow_bl HROW.out hB) (log_bl HLG.out hB)).mono ?_
  rintro e X3 ⟨a',n',c',rfl,hlo,hsrc,hb3⟩
  have HLO:=Go.Lib.hid hlo
  have hfar:∀ ad,a'=some ad→n'≠0→ad.block≠w.heap.size+2:=fun ad e hn=>by
   rcases hsrc ad e hn with⟨h2,h3⟩|⟨i,hi,h2,h3⟩|h2
   ·have:=clog_lt HLG.out ad h2 h3;omega
   ·have:=clog_lt (HROW.out.2 i hi) ad h2 h3;omega
   ·omega
  have HFAR:=Go.Lib.hid hfar
  have HSRC:=Go.Lib.hid (HSO.out _ hB _ _ hsrc)
  have HS3:Hid ((fun X=>X.cell? ⟨w.heap.size,0,none⟩=some (.int .i64 (room:Int))∧X.cell? ⟨w.heap.size,1,none⟩=some (.slice ra N rc)∧X.cell? ⟨w.heap.size+1,0,none⟩=some (.int .i64 dk)∧X.cell? ⟨w.heap.size+1,1,none⟩=some (.string KY)∧X.cell? ⟨w.heap.size+1,2,none⟩=some (.int .i64 k)∧X.cell? ⟨w.heap.size+1,3,none⟩=some (.int .i64 l)∧X.cell? ⟨w.heap.size+1,4,none⟩=some (.int .i64 d)∧X.cell? ⟨w.heap.size+1,5,none⟩=some (.int .i64 b)∧X.cell? ⟨w.heap.size+1,6,none⟩=some (.int .i64 cc)∧X.cell? ⟨w.heap.size+1,7,none⟩=some (.bool o)∧X.cell? ⟨w.heap.size+1,8,none⟩=some (.int .i64 at_)∧X.cell? ⟨w.heap.size+1,9,none⟩=some (.int .i64 level)∧X.cell? ⟨w.heap.size+1,10,none⟩=some (.int .i64 held)∧X.cell? ⟨w.heap.size+1,11,none⟩=some (.slice a n c)∧X.cell? ⟨w.heap.size+1,12,none⟩=some (.int .i64 dnow)∧X.cell? ⟨w.heap.size+1,13,none⟩=some (.int .i64 dcost)) X3):=Go.Lib.hid ⟨bl_cell hb3 tb0,bl_cell hb3 tb1,bl_cell hb3 db0,bl_cell hb3 db1,bl_cell hb3 db2,bl_cell hb3 db3,bl_cell hb3 db4,bl_cell hb3 db5,bl_cell hb3 db6,bl_cell hb3 db7,bl_cell hb3 db8,bl_cell hb3 db9,bl_cell hb3 db10,bl_cell hb3 db11,bl_cell hb3 db12,bl_cell hb3 db13⟩
  replace rsH:=bl_heap rsH hb3
  replace rs0:=bl_cell hb3 rs0
  replace rs1:=bl_cell hb3 rs1
  replace rsR:=fb_bl rsR hb3
  replace hB:=bl_then hB hb3
  clear hfar hlo hsrc hb3 tb0 tb1 db0 db1 db2 db3 db4 db5 db6 db7 db8 db9 db10 db11 db12 db13
  unfold Cl.v
  go_wp2_with fail
  refine hK.out _ _ HS3.out (fun hHeld2=>?_)
  clear hHeld hK K
  have hHeld:=hHeld2
  clear hHeld2
  try simp only[Act.put,List.setIfInBounds_toArray,List.set_cons_zero,List.set_cons_succ]
  refine callC (i:=6) rfl (fun K hK=>?_)
  obtain⟨tb0,tb1,db0,db1,db2,db3,db4,db5,db6,db7,db8,db9,db10,db11,db12,db13⟩:=(id hHeld)
  go_simp
  refine(HSET.out a' n' c' _ (crow_bl HROW.out hB) HLO.out).mono ?_
  rintro e X6 ⟨v6,Fs,rfl,hrow6,hold6,hmap6,hsub6,hb6⟩
  obtain⟨a6,c6,rfl⟩:=cs_form hrow6.1
  have HR6:=Go.Lib.hid hrow6
  have HOB6:=Go.Lib.hid (show OldB w (.slice ra N rc) (.slice a6 Fs.length c6) from fun k hk=>(hold6 k hk).imp id (fun h=>Nat.le_trans hB.size h))
  have HM6:=Go.Lib.hid hmap6
  have HS6:=Go.Lib.hid hsub6
  have HS7:Hid ((fun X=>X.cell? ⟨w.heap.size,0,none⟩=some (.int .i64 (room:Int))∧X.cell? ⟨w.heap.size,1,none⟩=some (.slice ra N rc)∧X.cell? ⟨w.heap.size+1,0,none⟩=some (.int .i64 dk)∧X.cell? ⟨w.heap.size+1,1,none⟩=some (.string KY)∧X.cell? ⟨w.heap.size+1,2,none⟩=some (.int .i64 k)∧X.cell? ⟨w.heap.size+1,3,none⟩=some (.int .i64 l)∧X.cell? ⟨w.heap.size+1,4,none⟩=some (.int .i64 d)∧X.cell? ⟨w.heap.size+1,5,none⟩=some (.int .i64 b)∧X.cell? ⟨w.heap.size+1,6,none⟩=some (.int .i64 cc)∧X.cell? ⟨w.heap.size+1,7,none⟩=some (.bool o)∧X.cell? ⟨w.heap.size+1,8,none⟩=some (.int .i64 at_)∧X.cell? ⟨w.heap.size+1,9,none⟩=some (.int .i64 level)∧X.cell? ⟨w.heap.size+1,10,none⟩=some (.int .i64 held)∧X.cell? ⟨w.heap.size+1,11,none⟩=some (.slice a n c)∧X.cell? ⟨w.heap.size+1,12,none⟩=some (.int .i64 dnow)∧X.cell? ⟨w.heap.size+1,13,none⟩=some (.int .i64 dcost)) X6):=Go.Lib.hid ⟨bl_cell hb6 tb0,bl_cell hb6 tb1,bl_cell hb6 db0,bl_cell hb6 db1,bl_cell hb6 db2,bl_cell hb6 db3,bl_cell hb6 db4,bl_cell hb6 db5,bl_cell hb6 db6,bl_cell hb6 db7,bl_cell hb6 db8,bl_cell hb6 db9,bl_cell hb6 db10,bl_cell hb6 db11,bl_cell hb6 db12,bl_cell hb6 db13⟩
  replace rsH:=bl_heap rsH hb6
  replace rs0:=bl_cell hb6 rs0
  replace rs1:=bl_cell hb6 rs1
  replace rsR:=fb_bl rsR hb6
  replace hB:=bl_then hB hb6
  clear hrow6 hold6 hmap6 hsub6 hb6 tb0 tb1 db0 db1 db2 db3 db4 db5 db6 db7 db8 db9 db10 db11 db12 db13
  go_wp2_with fail
  refine hK.out _ _ HS7.out (fun hHeld2=>?_)
  clear hHeld hK K
  have hHeld:=hHeld2
  clear hHeld2
  try simp only[Act.put,List.setIfInBounds_toArray,List.set_cons_zero,List.set_cons_succ]
  refine tkx 7 ?_
  refine tkx 8 ?_
  obtain⟨⟨-,yf0⟩,⟨-,yf1⟩⟩:=And.intro (rsR 0 (by omega)) (rsR 1 (by omega))
  have HRH:=Go.Lib.hid rsH
  clear rsH rsR
  have lb_r:=lbc rs0
  refine callC (i:=9) rfl (fun K hK=>?_)
  go_simp
  refine hK.out _ _ ?ss (fun hHeld2=>?_)
  case ss =>
   obtain⟨tb0,tb1,db0,db1,db2,db3,db4,db5,db6,db7,db8,db9,db10,db11,db12,db13⟩:=(id hHeld)
   exact⟨far_set (a:=⟨w.heap.size+2,1,none⟩) (far_set (a:=⟨w.heap.size+2,0,none⟩) tb0 (.int .i64 (room:Int)) (by dsimp only;omega)) (.slice a6 Fs.length c6) (by dsimp only;omega),far_set (a:=⟨w.heap.size+2,1,none⟩) (far_set (a:=⟨w.heap.size+2,0,none⟩) tb1 (.int .i64 (room:Int)) (by dsimp only;omega)) (.slice a6 Fs.length c6) (by dsimp only;omega),far_set (a:=⟨w.heap.size+2,1,none⟩) (far_set (a:=⟨w.heap.size+2,0,none⟩) db0 (.int .i64 (room:Int)) (by dsimp only;omega)) (.slice a6 Fs.length c6) (by dsimp only;omega),far_set (a:=⟨w.heap.size+2,1,none⟩) (far_set (a:=⟨w.heap.size+2,0,none⟩) db1 (.int .i64 (room:Int)) (by dsimp only;omega)) (.slice a6 Fs.length c6) (by dsimp only;omega),far_set (a:=⟨w.heap.size+2,1,none⟩) (far_set (a:=⟨w.heap.size+2,0,none⟩) db2 (.int .i64 (room:Int)) (by dsimp only;omega)) (.slice a6 Fs.length c6) (by dsimp only;omega),far_set (a:=⟨w.heap.size+2,1,none⟩) (far_set (a:=⟨w.heap.size+2,0,none⟩) db3 (.int .i64 (room:Int)) (by dsimp only;omega)) (.slice a6 Fs.length c6) (by dsimp only;omega),far_set (a:=⟨w.heap.size+2,1,none⟩) (far_set (a:=⟨w.heap.size+2,0,none⟩) db4 (.int .i64 (room:Int)) (by dsimp only;omega)) (.slice a6 Fs.length c6) (by dsimp only;omega),far_set (a:=⟨w.heap.size+2,1,none⟩) (far_set (a:=⟨w.heap.size+2,0,none⟩) db5 (.int .i64 (room:Int)) (by dsimp only;omega)) (.slice a6 Fs.length c6) (by dsimp only;omega),far_set (a:=⟨w.heap.size+2,1,none⟩) (far_set (a:=⟨w.heap.size+2,0,none⟩) db6 (.int .i64 (room:Int)) (by dsimp only;omega)) (.slice a6 Fs.length c6) (by dsimp only;omega),far_set (a:=⟨w.heap.size+2,1,none⟩) (far_set (a:=⟨w.heap.size+2,0,none⟩) db7 (.int .i64 (room:Int)) (by dsimp only;omega)) (.slice a6 Fs.length c6) (by dsimp only;omega),far_set (a:=⟨w.heap.size+2,1,none⟩) (far_set (a:=⟨w.heap.size+2,0,none⟩) db8 (.int .i64 (room:Int)) (by dsimp only;omega)) (.slice a6 Fs.length c6) (by dsimp only;omega),far_set (a:=⟨w.heap.size+2,1,none⟩) (far_set (a:=⟨w.heap.size+2,0,none⟩) db9 (.int .i64 (room:Int)) (by dsimp only;omega)) (.slice a6 Fs.length c6) (by dsimp only;omega),far_set (a:=⟨w.heap.size+2,1,none⟩) (far_set (a:=⟨w.heap.size+2,0,none⟩) db10 (.int .i64 (room:Int)) (by dsimp only;omega)) (.slice a6 Fs.length c6) (by dsimp only;omega),far_set (a:=⟨w.heap.size+2,1,none⟩) (far_set (a:=⟨w.heap.size+2,0,none⟩) db11 (.int .i64 (room:Int)) (by dsimp only;omega)) (.slice a6 Fs.length c6) (by dsimp only;omega),far_set (a:=⟨w.heap.size+2,1,none⟩) (far_set (a:=⟨w.heap.size+2,0,none⟩) db12 (.int .i64 (room:Int)) (by dsimp only;omega)) (.slice a6 Fs.length c6) (by dsimp only;omega),far_set (a:=⟨w.heap.size+2,1,none⟩) (far_set (a:=⟨w.heap.size+2,0,none⟩) db13 (.int .i64 (room:Int)) (by dsimp only;omega)) (.slice a6 Fs.length c6) (by dsimp only;omega)⟩
  clear hHeld hK K
  have hHeld:=hHeld2
  clear hHeld2
  try simp only[Act.put,List.setIfInBounds_toArray,List.set_cons_zero,List.set_cons_succ]
  refine tkx 10 ?_
  refine wpAnyH_done (by kernel_rfl) ?_ _
  clear hHeld
  go_wp2_with fail
  have hB2:=bl_set (bl_set hB (a:=⟨w.heap.size+2,0,none⟩) (by dsimp only;omega) (.int .i64 (room:Int))) (a:=⟨w.heap.size+2,1,none⟩) (by dsimp only;omega) (.slice a6 Fs.length c6)
  have hne:(Value.slice a6 Fs.length c6).ownBlock≠some (w.heap.size+2):=row_notbox HR6.out.1 HRH.out (by decide)
  have hR2:=row_set2 (a:=⟨w.heap.size+2,1,none⟩) (row_set2 (a:=⟨w.heap.size+2,0,none⟩) HR6.out.1 hne (.int .i64 (room:Int))) hne (.slice a6 Fs.length c6)
  have hlf:∀ i ∈ Fs,∀ ad,i.a=some ad→i.n≠0→ad.block≠w.heap.size+2:=fun i hi ad e hn=>by
   rcases HS6.out i hi with h1|rfl
   ·have:=clog_lt (HROW.out.2 i h1) ad e hn;omega
   ·exact HFAR.out ad e hn
  have hL2:=fun i (hi:i ∈ Fs)=>log_only (log_only (HR6.out.2 i hi) (Only.set (F:=fun q=>q=w.heap.size+2) (Only.of_below (bl_refl X6)) (a:=⟨w.heap.size+2,0,none⟩) rfl (.int .i64 (room:Int))) (fun ad e hn hq=>hlf i hi ad e hn hq)) (Only.set (F:=fun q=>q=w.heap.size+2) (Only.of_below (bl_refl _)) (a:=⟨w.heap.size+2,1,none⟩) rfl (.slice a6 Fs.length c6)) (fun ad e hn hq=>hlf i hi ad e hn hq)
  have hres:=fun(tm:Array Value) (W:World) (hx:tm.getD 4 undef=.pointer (some ⟨w.heap.size+2,0,none⟩)) i0 i1=>results_t2 (v0:=.int .i64 (room:Int)) (v1:=.slice a6 Fs.length c6) (fn:=Tryz.f34) rfl tm W hx i0 i1
  refine bodyPost_ret (hres _ _ rfl ?q0 ?q1) rfl ?_
  case q0=>go_simp
  case q1=>go_simp
  refine⟨_,Fs,rfl,⟨hR2,hL2⟩,HOB6.out,HM6.out,fun i hi=>?_,hB2⟩
  rcases HS6.out i hi with h1|rfl
  ·exact src_of h1
  ·exact HSRC.out
end Go.Proofs.YtmhikkbdhboodaaGreat
