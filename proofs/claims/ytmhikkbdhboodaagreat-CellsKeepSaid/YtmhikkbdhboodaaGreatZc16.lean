/-
  What the document's Same answers of rows that are alike.
  What the laws' loops keep of cells, and of the document's row beside them.
  The laws of cells, in plain Lean.
  A cell among a law's arguments, by value, opened.
  No condition.
-/
import Derived.Test.YtmhikkbdhboodaaGreatZc1
import Derived.Test.YtmhikkbdhboodaaGreatZc14
import Derived.Test.YtmhikkbdhboodaaGreatZc15
set_option maxHeartbeats 8000000
set_option maxRecDepth 100000
namespace Go.Proofs.YtmhikkbdhboodaaGreat
open Go.RowKit Go.Maps
set_option linter.unusedVariables false
set_option linter.unusedSimpArgs false

variable {w w':World} {p p':CsP} {room nx nx':Nat} {m m':List (Int × Value)} {I A B:List CI}
theorem pol_neq_self (k l d b cc:Int) (o:Bool) (w:World):(binOp .neq 23 (.agg #[.int .i64 k,.int .i64 l,.int .i64 d,.int .i64 b,.int .i64 cc,.bool o]) (.agg #[.int .i64 k,.int .i64 l,.int .i64 d,.int .i64 b,.int .i64 cc,.bool o])).run Tryz.prog w=.ok (.bool false) w:=by
 simp[go_sem,Op.equal]
theorem rsame_yes {base base2:Nat} {Js Ks:List LC} (v u:Value) (w:World) (h:CRow w base v Js) (h2:CRow w base2 u Ks) (he:Js.map (·.x)=Ks.map (·.x)) (hN:Js.length≤100000) :
  Calls Tryz.prog 38 #[v,u] w fun e w'=>e=.returned (.bool true)∧Below w.heap.size w w':=by
 obtain⟨ra,rc,rfl⟩:=cs_form h.1
 obtain⟨sa,sc,rfl⟩:=cs_form h2.1
 have hNN:Js.length=Ks.length:=by have:=congrArg List.length he;rw[List.length_map,List.length_map] at this;exact this
 obtain⟨N,hNe⟩:∃ N,N=Js.length:=⟨_,rfl⟩
 rw[← hNN,← hNe]
 rw[← hNe] at hN
 have HROW:=Go.Lib.hid h
 have HROW2:=Go.Lib.hid h2
 have HN:=Go.Lib.hid hNe
 have HN2:=Go.Lib.hid (hNe.trans hNN)
 have HE:=Go.Lib.hid he
 clear h h2 he hNe hNN
 go_enter Tryz.func38,Tryz.ntmps38
 go_wp2_with fail
 go_loopw [5] (fun s5 wr=>∃ j:Nat,s5=.int .i64 j∧j≤N∧Hid (Below w.heap.size w wr)) (fun s5 _=>N - (intOf s5).toNat)
 case atStart=>exact⟨0,rfl,Nat.zero_le _,bl_refl _⟩
 case round =>
  obtain⟨j,rfl,hj,H⟩:=hrel
  have hB:=H.out
  clear H
  by_cases hjN:j<N
  ·obtain⟨i,hij⟩:∃ i,Js[j]?=some i:=⟨Js[j]'(by rw[← HN.out];exact hjN),List.getElem?_eq_getElem _⟩
   obtain⟨i2,hij2⟩:∃ i,Ks[j]?=some i:=⟨Ks[j]'(by rw[← HN2.out];exact hjN),List.getElem?_eq_getElem _⟩
   have hxx:i.x=i2.x:=by have h1:=congrArg (fun l=>l[j]?) HE.out;simp only[List.getElem?_map,hij,hij2,Option.map_some] at h1;injection h1
   have hl1:=(crow_bl HROW.out hB).2 i (List.mem_of_getElem? hij)
   have hl2:=(crow_bl HROW2.out hB).2 i2 (List.mem_of_getElem? hij2)
   obtain⟨g,cap,e,rc0,rc1,rc2,rc3,rc4,rc5,rc6,rc7,rc8,rc9,rc10⟩:=crow_at (crow_bl HROW.out hB) hij
   obtain⟨g2,cap2,e',sc0,sc1,sc2,sc3,sc4,sc5,sc6,sc7,sc8,sc9,sc10⟩:=crow_at (crow_bl HROW2.out hB) hij2
   rw[← HN.out] at e
   rw[← HN2.out] at e'
   injection e with e1 e2 e3
   injection e' with e4 e5 e6
   subst e1 e3 e4 e6
   have k0:(0:Int)≤(j:Int):=by omega
   have k1:(j:Int)<(N:Int):=by omega
   obtain⟨x,a,n,c⟩:=i
   obtain⟨x2,a2,n2,c2⟩:=i2
   dsimp only at *
   subst hxx
   have hnn:n=n2:=hl1.1.symm.trans hl2.1
   subst hnn
   have hsm:=fun W h1 h2=>same_yes x.st a a2 n c c2 W h1 h2
   have hpn:=pol_neq_self x.pol.kind x.pol.limit x.pol.period x.pol.burst x.pol.cap x.pol.opn
   obtain⟨key,⟨k,l,d,b,cc,o⟩,⟨at_,level,held,LG⟩⟩:=x
   unfold St.v at hsm
   dsimp only at *
   generalize ktx key=KY at *
   have HLW1:Hid (LogAt w a n c LG):=Go.Lib.hid (HROW.out.2 _ (List.mem_of_getElem? hij))
   have HLW2:Hid (LogAt w a2 n c2 LG):=Go.Lib.hid (HROW2.out.2 _ (List.mem_of_getElem? hij2))
   clear hl1 hl2 hij hij2 e2 e5
   have HSM:=Go.Lib.hid hsm
   clear hsm
   go_wp2_with fail
   refine wp_region_held_drew (S:=fun w'=>w'.cell? ⟨g,j*11,none⟩=some (.string KY)∧w'.cell? ⟨g,j*11+1,none⟩=some (.int .i64 k)∧w'.cell? ⟨g,j*11+2,none⟩=some (.int .i64 l)∧w'.cell? ⟨g,j*11+3,none⟩=some (.int .i64 d)∧w'.cell? ⟨g,j*11+4,none⟩=some (.int .i64 b)∧w'.cell? ⟨g,j*11+5,none⟩=some (.int .i64 cc)∧w'.cell? ⟨g,j*11+6,none⟩=some (.bool o)∧w'.cell? ⟨g,j*11+7,none⟩=some (.int .i64 at_)∧w'.cell? ⟨g,j*11+8,none⟩=some (.int .i64 level)∧w'.cell? ⟨g,j*11+9,none⟩=some (.int .i64 held)∧w'.cell? ⟨g,j*11+10,none⟩=some (.slice a n c)∧w'.cell? ⟨g2,j*11,none⟩=some (.string KY)∧w'.cell? ⟨g2,j*11+1,none⟩=some (.int .i64 k)∧w'.cell? ⟨g2,j*11+2,none⟩=some (.int .i64 l)∧w'.cell? ⟨g2,j*11+3,none⟩=some (.int .i64 d)∧w'.cell? ⟨g2,j*11+4,none⟩=some (.int .i64 b)∧w'.cell? ⟨g2,j*11+5,none⟩=some (.int .i64 cc)∧w'.cell? ⟨g2,j*11+6,none⟩=some (.bool o)∧w'.cell? ⟨g2,j*11+7,none⟩=some (.int .i64 at_)∧w'.cell? ⟨g2,j*11+8,none⟩=some (.int .i64 level)∧w'.cell? ⟨g2,j*11+9,none⟩=some (.int .i64 held)∧w'.cell? ⟨g2,j*11+10,none⟩=some (.slice a2 n c2)∧Below w.heap.size w w') (by kernel_rfl) ?_ (fun hHeld=>?_)
   ·exact⟨rc0,rc1,rc2,rc3,rc4,rc5,rc6,rc7,rc8,rc9,rc10,sc0,sc1,sc2,sc3,sc4,sc5,sc6,sc7,sc8,sc9,sc10,bl_drew hB⟩
   try simp only[Act.put,List.setIfInBounds_toArray,List.set_cons_zero,List.set_cons_succ]
   refine tkx 0 ?_
   refine tkx 1 ?_
   refine tkx 2 ?_
   refine tkx 3 ?_
   refine tkx 4 ?_
   refine tkx 5 ?_
   refine tkx 6 ?_
   refine tkx 7 ?_
   refine tkx 8 ?_
   refine tkx 9 ?_
   refine tkx 10 ?_
   refine tkx 11 ?_
   first|refine tqx 12 ?_|refine tkx 12 ?_
   first|refine tqx 13 ?_|refine tkx 13 ?_
   first|refine tqx 14 ?_|refine tkx 14 ?_
   first|refine tqx 15 ?_|refine tkx 15 ?_
   first|refine tqx 16 ?_|refine tkx 16 ?_
   first|refine tqx 17 ?_|refine tkx 17 ?_
   first|refine tqx 18 ?_|refine tkx 18 ?_
   first|refine tqx 19 ?_|refine tkx 19 ?_
   first|refine tqx 20 ?_|refine tkx 20 ?_
   first|refine tqx 21 ?_|refine tkx 21 ?_
   first|refine tqx 22 ?_|refine tkx 22 ?_
   refine tkx 23 ?_
   refine tkx 24 ?_
   first|refine tqx 25 ?_|refine tkx 25 ?_
   first|refine tqx 26 ?_|refine tkx 26 ?_
   first|refine tqx 27 ?_|refine tkx 27 ?_
   first|refine tqx 28 ?_|refine tkx 28 ?_
   first|refine tqx 29 ?_|refine tkx 29 ?_
   first|refine tqx 30 ?_|refine tkx 30 ?_
   first|refine tqx 31 ?_|refine tkx 31 ?_
   first|refine tqx 32 ?_|refine tkx 32 ?_
   first|refine tqx 33 ?_|refine tkx 33 ?_
   first|refine tqx 34 ?_|refine tkx 34 ?_
   first|(refine tqx 35 ?_)|(refine callH (i:=35) rfl hHeld (fun W hW K hK=>?_);clear hHeld;(try dsimp only at hW);obtain⟨h_rc0,h_rc1,h_rc2,h_rc3,h_rc4,h_rc5,h_rc6,h_rc7,h_rc8,h_rc9,h_rc10,h_sc0,h_sc1,h_sc2,h_sc3,h_sc4,h_sc5,h_sc6,h_sc7,h_sc8,h_sc9,h_sc10,h_B⟩:=hW;go_simp;refine(HSM.out W (log_bl HLW1.out h_B) (log_bl HLW2.out h_B)).mono ?_;rintro e w9 ⟨rfl,hb⟩;go_wp2_with fail;refine hK.out _ _ ?_ (fun hHeld=>?_);(focus((try dsimp only);exact⟨bl_cell hb h_rc0,bl_cell hb h_rc1,bl_cell hb h_rc2,bl_cell hb h_rc3,bl_cell hb h_rc4,bl_cell hb h_rc5,bl_cell hb h_rc6,bl_cell hb h_rc7,bl_cell hb h_rc8,bl_cell hb h_rc9,bl_cell hb h_rc10,bl_cell hb h_sc0,bl_cell hb h_sc1,bl_cell hb h_sc2,bl_cell hb h_sc3,bl_cell hb h_sc4,bl_cell hb h_sc5,bl_cell hb h_sc6,bl_cell hb h_sc7,bl_cell hb h_sc8,bl_cell hb h_sc9,bl_cell hb h_sc10,bl_then h_B hb⟩));clear hK K;clear h_rc0 h_rc1 h_rc2 h_rc3 h_rc4 h_rc5 h_rc6 h_rc7 h_rc8 h_rc9 h_rc10 h_sc0 h_sc1 h_sc2 h_sc3 h_sc4 h_sc5 h_sc6 h_sc7 h_sc8 h_sc9 h_sc10 h_B;try simp only[Act.put,List.setIfInBounds_toArray,List.set_cons_zero,List.set_cons_succ])
   first|refine tqx 36 ?_|refine tkx 36 ?_
   refine tkx 37 ?_
   refine wpAnyH_done (by kernel_rfl) ?_ _
   refine then_abs (F:=fun w'=>w'.cell? ⟨g,j*11,none⟩=some (.string KY)∧w'.cell? ⟨g,j*11+1,none⟩=some (.int .i64 k)∧w'.cell? ⟨g,j*11+2,none⟩=some (.int .i64 l)∧w'.cell? ⟨g,j*11+3,none⟩=some (.int .i64 d)∧w'.cell? ⟨g,j*11+4,none⟩=some (.int .i64 b)∧w'.cell? ⟨g,j*11+5,none⟩=some (.int .i64 cc)∧w'.cell? ⟨g,j*11+6,none⟩=some (.bool o)∧w'.cell? ⟨g,j*11+7,none⟩=some (.int .i64 at_)∧w'.cell? ⟨g,j*11+8,none⟩=some (.int .i64 level)∧w'.cell? ⟨g,j*11+9,none⟩=some (.int .i64 held)∧w'.cell? ⟨g,j*11+10,none⟩=some (.slice a n c)∧w'.cell? ⟨g2,j*11,none⟩=some (.string KY)∧w'.cell? ⟨g2,j*11+1,none⟩=some (.int .i64 k)∧w'.cell? ⟨g2,j*11+2,none⟩=some (.int .i64 l)∧w'.cell? ⟨g2,j*11+3,none⟩=some (.int .i64 d)∧w'.cell? ⟨g2,j*11+4,none⟩=some (.int .i64 b)∧w'.cell? ⟨g2,j*11+5,none⟩=some (.int .i64 cc)∧w'.cell? ⟨g2,j*11+6,none⟩=some (.bool o)∧w'.cell? ⟨g2,j*11+7,none⟩=some (.int .i64 at_)∧w'.cell? ⟨g2,j*11+8,none⟩=some (.int .i64 level)∧w'.cell? ⟨g2,j*11+9,none⟩=some (.int .i64 held)∧w'.cell? ⟨g2,j*11+10,none⟩=some (.slice a2 n c2)∧Below w.heap.size w w') hHeld ?_
   clear hHeld hB rc0 rc1 rc2 rc3 rc4 rc5 rc6 rc7 rc8 rc9 rc10 sc0 sc1 sc2 sc3 sc4 sc5 sc6 sc7 sc8 sc9 sc10
   rintro w21 ⟨rc0,rc1,rc2,rc3,rc4,rc5,rc6,rc7,rc8,rc9,rc10,sc0,sc1,sc2,sc3,sc4,sc5,sc6,sc7,sc8,sc9,sc10,hB⟩
   have lb_rc:=lbc rc0
   have lb_rc1:=lbc rc10
   have lb_sc:=lbc sc0
   have lb_sc1:=lbc sc10
   go_wp2_with fail
   go_roundw
   case rel=>exact⟨j+1,by go_num,by omega,hB⟩
   case measure=>simp[intOf];omega
  ·have hje:j=N:=by omega
   subst hje
   go_wp2_with fail
   go_ret
   exact⟨rfl,hB⟩
end Go.Proofs.YtmhikkbdhboodaaGreat

namespace Go.Proofs.YtmhikkbdhboodaaGreat
open Go.RowKit Go.Maps
set_option linter.unusedVariables false
set_option linter.unusedSimpArgs false

variable {w0 w w':World} {tb b0 room k nx:Nat} {p:CsP} {L L':List Cl} {v v':Value} {Js Fs:List LC} {d:CD} {e:Ending} {A:Nat→Prop}
/-- Cells in memory, and the document's box T. -/
structure Sd (w0 wr:World) (tb b0 room k:Nat) (p:CsP) (nx:Nat) (L:List Cl) (v:Value) (Js:List LC):Prop where
 pb:p.b=b0
 cells:CellsAt wr p room nx L
 nx:nx≤k
 row:CRow wr 0 v Js
 t0:wr.cell? ⟨tb,0,none⟩=some (.int .i64 (room:Int))
 t1:wr.cell? ⟨tb,1,none⟩=some v
 tR:FB wr tb 2
 t2:∀ q,2≤q→wr.cell? ⟨tb,q,none⟩=none
 cf:∀ q,CF p q→w0.heap.size≤q∧q≠tb
 lf:∀ i ∈ Js,∀ ad,i.a=some ad→i.n≠0→¬ CF p ad.block∧ad.block≠tb
 vf:∀ q,v.ownBlock=some q→¬ CF p q∧q≠tb
 s3:w0.heap.size≤tb
 bl:Below w0.heap.size w0 wr
/-- The row that Step told, beside it; it lies at none of A's blocks. -/
structure Sn (wr:World) (A:Nat→Prop) (L:List Cl) (v:Value) (Fs:List LC):Prop where
 row:CRow wr 0 v Fs
 map:Fs.map (·.x)=L
 lf:∀ i ∈ Fs,∀ ad,i.a=some ad→i.n≠0→¬ A ad.block
 vf:∀ q,v.ownBlock=some q→¬ A q
theorem fb_only {F:Nat→Prop} {b n:Nat} (h:FB w b n) (ho:Only F w w') (hf:¬ F b):FB w' b n:=fun q hq=>by
 have h1:=h q hq
 obtain⟨u,hu⟩:=Option.isSome_iff_exists.1 h1.1
 have hb:b<w.heap.size:=World.block_lt_of_cell? w _ hu
 have hh:=ho.block b hb hf
 exact⟨by rw[World.cell?_of_block hh];exact h1.1,by rw[World.frozen?_of_block hh];exact h1.2⟩
theorem Sd.tlt (h:Sd w0 w tb b0 room k p nx L v Js):tb<w.heap.size:=World.block_lt_of_cell? w _ h.t0
theorem Sd.low (h:Sd w0 w tb b0 room k p nx L v Js):∀ q,q<w0.heap.size→¬ CF p q:=fun q hq hc=>by have:=(h.cf q hc).1;omega
theorem Sd.ntb (h:Sd w0 w tb b0 room k p nx L v Js):¬ CF p tb:=fun hc=>(h.cf tb hc).2 rfl
theorem Sd.to (h:Sd w0 w tb b0 room k p nx L v Js) (hb:Below w.heap.size w w'):Sd w0 w' tb b0 room k p nx L v Js :=
 ⟨h.pb,cells_bl h.cells hb,h.nx,crow_bl h.row hb,bl_cell hb h.t0,bl_cell hb h.t1,fb_bl h.tR hb,(fun q hq=>by rw[World.cell?_of_block (hb.block tb h.tlt)];exact h.t2 q hq),h.cf,h.lf,h.vf,h.s3,bl_then h.bl hb⟩
theorem Sd.len (h:Sd w0 w tb b0 room k p nx (Js.map (·.x)) v Js):Js.length≤10000:=by
 have h1:=cells_room h.cells
 rw[List.length_map] at h1
 omega
theorem Sn.to (h:Sn w A L v Fs) (hb:Below w.heap.size w w'):Sn w' A L v Fs:=⟨crow_bl h.row hb,h.map,h.lf,h.vf⟩
theorem Sn.mono {B:Nat→Prop} (h:Sn w A L v Fs) (hB:∀ q,B q→A q):Sn w B L v Fs:=⟨h.row,h.map,fun i hi ad e hn hb=>h.lf i hi ad e hn (hB _ hb),fun q hq hb=>h.vf q hq (hB _ hb)⟩
/-- Blocks that are not there yet. -/
theorem Sn.new (h:Sn w A L v Fs) {rn:Nat} (hrn:w.heap.size≤rn):Sn w (fun q=>A q∨q=rn) L v Fs :=
 ⟨h.row,h.map,fun i hi ad e hn hb=>hb.elim (h.lf i hi ad e hn) (fun hh=>by have:=clog_lt (h.row.2 i hi) ad e hn;omega),fun q hq hb=>hb.elim (h.vf q hq) (fun hh=>by have:=(World.ownsRow.lt h.row.1 q hq).2;omega)⟩
/-- What a step of cells moved. -/
def Moved (p p':CsP) (w w':World):Prop:=Only (CF p) w w'∧∀ q,CF p' q→CF p q∨w.heap.size≤q
theorem Sn.moved {p':CsP} (h:Sn w (CF p) L v Fs) (hm:Moved p p' w w'):Sn w' (CF p') L v Fs :=
 ⟨⟨row_frame h.row.1 fun q hq=>hm.1.block q (World.ownsRow.lt h.row.1 q hq).2 (h.vf q hq),fun i hi=>log_only (h.row.2 i hi) hm.1 (h.lf i hi)⟩,h.map,fun i hi ad e hn hq=>(hm.2 _ hq).elim (h.lf i hi ad e hn) (fun hh=>by have:=clog_lt (h.row.2 i hi) ad e hn;omega),fun q hq hx=>(hm.2 _ hx).elim (h.vf q hq) (fun hh=>by have:=(World.ownsRow.lt h.row.1 q hq).2;omega)⟩
/-- Behind a step of cells. -/
theorem Sd.did (h:Sd w0 w tb b0 room k p nx L v Js) (hs:CsStep w p room nx L' w'):∃ p' nx',Sd w0 w' tb b0 room (k+1) p' nx' L' v Js∧Moved p p' w w':=by
 obtain⟨p',nx',h1,h2,h3,h4,h5⟩:=hs
 have ht:=h.tlt
 have hrow:=World.ownsRow.lt h.row.1
 have hs2:=h.bl.size
 have hs3:=h.s3
 have hnew:∀ q,q<w.heap.size→¬ CF p q→¬ CF p' q:=fun q hq hn hc=>(h5 q hc).elim hn (fun hh=>by omega)
 refine⟨p',nx',⟨h1.trans h.pb,h3,by have:=h.nx;omega,⟨row_frame h.row.1 fun q hq=>h4.block q (hrow q hq).2 (h.vf q hq).1,fun i hi=>log_only (h.row.2 i hi) h4 fun ad e hn=>(h.lf i hi ad e hn).1⟩,only_cell h4 h.t0 h.ntb,only_cell h4 h.t1 h.ntb,fb_only h.tR h4 h.ntb,(fun q hq=>by rw[World.cell?_of_block (h4.block tb ht h.ntb)];exact h.t2 q hq),fun q hq=>?_,fun i hi ad e hn=>⟨hnew _ (clog_lt (h.row.2 i hi) ad e hn) (h.lf i hi ad e hn).1,(h.lf i hi ad e hn).2⟩,fun q hq=>⟨hnew q (hrow q hq).2 (h.vf q hq).1,(h.vf q hq).2⟩,h.s3,bl_then2 h.bl h4 (fun q hq=>(h.cf q hq).1) (Nat.le_refl _)⟩,h4,h5⟩
 rcases h5 q hq with hq|hq
 ·exact h.cf q hq
 ·exact⟨by omega,by omega⟩
/-- The document's Step: its row lies at none of A's blocks. -/
theorem sd_step (h:Sd w0 w tb b0 room k p nx L v Js) (hL:(cStep room (Js.map (·.x)) d).1=L) (hN:Js.length≤10000) (hap:Apart (Js.map (·.x))) (hl:LogAt w0 d.a d.n d.c d.x.st.log) (hs:d.x.key.length≤maxLen)
  (hA1:∀ q,A q→w0.heap.size≤q∧q<w.heap.size) (hA2:∀ i ∈ Js,∀ ad,i.a=some ad→i.n≠0→¬ A ad.block) (hA3:∀ q,v.ownBlock=some q→¬ A q) :
  Calls Tryz.prog 34 #[TV room v,d.v] w fun e w'=>∃ (v':Value) (Fs:List LC),e=.returned (.tuple #[.agg #[.int .i64 (room:Int),v'],.int .i64 (cStep room (Js.map (·.x)) d).2])∧Sn w' A L v' Fs∧Below w.heap.size w w':=by
 refine(rstep_any room v d w h.row (log_bl hl h.bl) hN hap hs).mono ?_
 rintro e w' ⟨v',Fs,he,h1,h2,h3,h4,h5⟩
 refine⟨v',Fs,he,⟨h1,h3.trans hL,fun i hi ad e hn hq=>?_,fun q hq hx=>?_⟩,h5⟩
 ·rcases h4 i hi ad e hn with⟨e2,hn2⟩|⟨j,hj,e2,hn2⟩|hge
  ·have:=clog_lt hl ad e2 hn2
   have:=(hA1 _ hq).1
   omega
  ·exact hA2 j hj ad e2 hn2 hq
  ·have:=(hA1 _ hq).2
   omega
 ·rcases h2 q hq with hq|hq
  ·exact hA3 q hq hx
  ·have:=(hA1 _ hx).2
   omega
def A1 (p:CsP) (tb:Nat) (q:Nat):Prop:=CF p q∨q=tb
def A2 (p:CsP) (tb rn:Nat) (q:Nat):Prop:=A1 p tb q∨q=rn
/-- Step, called at once; and called behind the box that takes its row. -/
theorem sd_step1 (h:Sd w0 w tb b0 room k p nx L v Js) (hL:(cStep room (Js.map (·.x)) d).1=L) (hN:Js.length≤10000) (hap:Apart (Js.map (·.x))) (hl:LogAt w0 d.a d.n d.c d.x.st.log) (hs:d.x.key.length≤maxLen) :
  Calls Tryz.prog 34 #[TV room v,d.v] w fun e w'=>∃ (v':Value) (Fs:List LC),e=.returned (.tuple #[.agg #[.int .i64 (room:Int),v'],.int .i64 (cStep room (Js.map (·.x)) d).2])∧Sn w' (A1 p tb) L v' Fs∧Below w.heap.size w w' :=
 sd_step h hL hN hap hl hs (fun q hq=>by
  rcases hq with hq|rfl
  ·exact⟨(h.cf q hq).1,cells_lt h.cells q hq⟩
  ·exact⟨h.s3,h.tlt⟩) (fun i hi ad e hn hq=>hq.elim (h.lf i hi ad e hn).1 (h.lf i hi ad e hn).2) (fun q hq hx=>hx.elim (h.vf q hq).1 (h.vf q hq).2)
theorem sd_step2 {X:World} (h:Sd w0 X tb b0 room k p nx L v Js) (hb:Below X.heap.size X w) {rn:Nat} (hr:X.heap.size≤rn) (hr2:rn<w.heap.size) (hL:(cStep room (Js.map (·.x)) d).1=L) (hN:Js.length≤10000) (hap:Apart (Js.map (·.x))) (hl:LogAt w0 d.a d.n d.c d.x.st.log) (hs:d.x.key.length≤maxLen) :
  Calls Tryz.prog 34 #[TV room v,d.v] w fun e w'=>∃ (v':Value) (Fs:List LC),e=.returned (.tuple #[.agg #[.int .i64 (room:Int),v'],.int .i64 (cStep room (Js.map (·.x)) d).2])∧Sn w' (A2 p tb rn) L v' Fs∧Below w.heap.size w w':=by
 have h2:=h.to hb
 refine sd_step h2 hL hN hap hl hs (fun q hq=>?_) (fun i hi ad e hn hq=>?_) (fun q hq hx=>?_)
 ·rcases hq with(hq|rfl)|rfl
  ·exact⟨(h.cf q hq).1,cells_lt h2.cells q hq⟩
  ·exact⟨h.s3,h2.tlt⟩
  ·exact⟨Nat.le_trans h.bl.size hr,hr2⟩
 ·rcases hq with(hq|hq)|hq
  ·exact(h.lf i hi ad e hn).1 hq
  ·exact(h.lf i hi ad e hn).2 hq
  ·have:=clog_lt (h.row.2 i hi) ad e hn
   omega
 ·rcases hx with(hx|hx)|hx
  ·exact(h.vf q hq).1 hx
  ·exact(h.vf q hq).2 hx
  ·have:=(World.ownsRow.lt h.row.1 q hq).2
   omega
theorem crow_far {base:Nat} (h:CRow w base v Fs) (hv:∀ q,v.ownBlock=some q→q≠tb) (hl:∀ i ∈ Fs,∀ ad,i.a=some ad→i.n≠0→ad.block≠tb) (o:Nat) (u:Value):CRow (w.setCell ⟨tb,o,none⟩ u) base v Fs :=
 ⟨row_set2 h.1 (fun hq=>hv tb hq rfl) u,fun i hi=>log_only (h.2 i hi) (Only.set (F:=fun q=>q=tb) (Only.of_below (bl_refl w)) rfl u) fun ad e hn hq=>hl i hi ad e hn hq⟩
theorem Sn.set {rn:Nat} (h:Sn w A L v Fs) (hA:A rn) (o:Nat) (u:Value):Sn (w.setCell ⟨rn,o,none⟩ u) A L v Fs :=
 ⟨crow_far h.row (fun q hq e=>h.vf q hq (e ▸ hA)) (fun i hi ad e hn he=>h.lf i hi ad e hn (he ▸ hA)) o u,h.map,h.lf,h.vf⟩
theorem log_tb {a:Option Addr} {n c y z:Nat} {q:Option Addr} {l:List (Int × Int)} (hl:LogAt w a n c l) (h1:w.cell? ⟨tb,1,none⟩=some (.slice q y z)) (h2:∀ q,2≤q→w.cell? ⟨tb,q,none⟩=none):∀ ad,a=some ad→n≠0→ad.block≠tb:=by
 intro ad e hn hb
 obtain⟨b,off,e2,c1,c2⟩:=hl.2.2.2 0 (by omega)
 rw[e] at e2
 injection e2 with e2
 subst e2
 dsimp only at hb
 subst hb
 rw[Nat.zero_mul,Nat.add_zero] at c1 c2
 have h3:off=0∨off=1∨2≤off:=by omega
 rcases h3 with rfl|rfl|h3
 ·rw[show 0+1=1 from rfl,h1] at c2;cases c2
 ·rw[h1] at c1;cases c1
 ·rw[h2 off h3] at c1;cases c1
theorem cells_set {y z:Nat} {q:Option Addr} (h:CellsAt w p room nx L) (hf:¬ CF p tb) (h1:w.cell? ⟨tb,1,none⟩=some (.slice q y z)) (h2:∀ q,2≤q→w.cell? ⟨tb,q,none⟩=none) (o:Nat) (u:Value):CellsAt (w.setCell ⟨tb,o,none⟩ u) p room nx L:=by
 have hh:∀ q,CF p q→(w.setCell ⟨tb,o,none⟩ u).heap[q]?=w.heap[q]?:=fun q hq=>by
  have hne:tb≠q:=fun e=>hf (e ▸ hq)
  simp[World.setCell,Array.getElem?_modify,hne]
 obtain⟨I,⟨m,h⟩,e⟩:=h
 exact⟨I,⟨m,h.mm.frame (hh _ (.inl rfl)) (hh _ (.inr (.inl rfl))),h.tb.frame fun k hk=>hh k (.inr (.inr hk)),fun i hi => { h.ci i hi with log:=log_setn (h.ci i hi).log (log_tb (h.ci i hi).log h1 h2) },h.nd,h.len⟩,e⟩
/-- T's box is stored. -/
theorem Sd.put (h:Sd w0 w tb b0 room k p nx L v Js) (g:Sn w A L v' Fs) (hA:∀ q,A1 p tb q→A q):Sd w0 ((w.setCell ⟨tb,0,none⟩ (.int .i64 (room:Int))).setCell ⟨tb,1,none⟩ v') tb b0 room k p nx (Fs.map (·.x)) v' Fs:=by
 obtain⟨ra,rc,rfl⟩:=cs_form h.row.1
 replace g:=g.mono hA
 have g2:=(g.set (.inr rfl) 0 (.int .i64 (room:Int))).set (rn:=tb) (.inr rfl) 1 v'
 have ht:=h.t0
 have ht1:=h.t1
 have hx:(w.setCell ⟨tb,0,none⟩ (.int .i64 (room:Int))).cell? ⟨tb,1,none⟩=some (.slice ra Js.length rc):=by rw[World.cell?_setCell_other _ _ _ _ (by simp)];exact ht1
 have hy:∀ q,2≤q→(w.setCell ⟨tb,0,none⟩ (.int .i64 (room:Int))).cell? ⟨tb,q,none⟩=none:=fun q hq=>by rw[World.cell?_setCell_other _ _ _ _ (by simp;try omega)];exact h.t2 q hq
 rw[g.map]
 exact⟨h.pb,cells_set (cells_set h.cells h.ntb ht1 h.t2 _ _) h.ntb hx hy _ _,h.nx,g2.row,by simp[World.cell?_setCell_other,World.cell?_setCell_same',ht,ht1],by simp[World.cell?_setCell_other,World.cell?_setCell_same',ht,ht1],fb_set (fb_set h.tR _ _) _ _,(fun q hq=>by rw[World.cell?_setCell_other _ _ _ _ (by simp;try omega)];exact hy q hq),h.cf,fun i hi ad e hn=>⟨fun hq=>g.lf i hi ad e hn (.inl hq),fun hq=>g.lf i hi ad e hn (.inr hq)⟩,fun q hq=>⟨fun hx=>g.vf q hq (.inl hx),fun hx=>g.vf q hq (.inr hx)⟩,h.s3,bl_set (bl_set h.bl h.s3 _) h.s3 _⟩
/-- The loop's start. -/
theorem sd_start {w1 w2 w3:World} (hc:CellsAt w2 p room 0 []) (hb:Below w1.heap.size w1 w2) (hF:∀ q,CF p q→w1.heap.size≤q) (hb3:Below w2.heap.size w2 w3):Sd w1 (w3.alloc (.cells #[.int .i64 (room:Int),.slice none 0 0] 55)) w3.heap.size p.b room 0 p 0 [] (.slice none 0 0) []:=by
 have h2:=cells_lt hc
 have hz:=hb3.size
 have hz2:=hb.size
 have hb4:=bl_then (bl_then hb hb3) (bl_alloc (bl_refl w3) (.cells #[.int .i64 (room:Int),.slice none 0 0] 55))
 exact⟨rfl,cells_bl (cells_bl hc hb3) k1,Nat.le_refl _,crow_nil _ _,by simp,by simp,fb_new #[_,_] _ rfl,(fun q hq=>by simp;omega),fun q hq=>⟨hF q hq,by have:=h2 q hq;omega⟩,(fun i hi=>by cases hi),(fun q hq=>by cases hq),by omega,hb4⟩
theorem sd_did (h:Sd w0 w tb b0 room k p nx (Js.map (·.x)) v Js) (hl:LogAt w0 d.a d.n d.c d.x.st.log) (hs:d.x.key.length≤maxLen) (hk:k<1000000) :
  Calls Tryz.prog 33 #[.pointer (some ⟨b0,0,none⟩),TV room v,d.v] w fun e w'=>e=.returned (.int .i64 (cStep room (Js.map (·.x)) d).2)∧∃ p' nx',Sd w0 w' tb b0 room (k+1) p' nx' (cStep room (Js.map (·.x)) d).1 v Js∧Moved p p' w w':=by
 have hh:=did_any v d w h.cells h.row (log_bl hl h.bl) h.len hs (by have:=h.nx;omega) (fun ad e hn=>h.low _ (clog_lt hl ad e hn)) (fun i hi ad e hn=>(h.lf i hi ad e hn).1)
 rw[h.pb] at hh
 exact hh.mono fun e w' h1=>⟨h1.1,h.did h1.2⟩
theorem own_ge {base n c:Nat} {a:Option Addr} {l:List (Int × Int)} (h:OwnLog w base (.slice a n c) n l):∀ ad,a=some ad→n≠0→base≤ad.block:=fun ad e hn=>by
 rcases h.2 with⟨h0,-⟩|⟨g,cap,cur,h0,hb,-⟩
 ·injection h0 with e1;rw[e1] at e;cases e
 ·injection h0 with e1;rw[e1] at e;injection e with e;subst e;exact hb
theorem sd_all (h:Sd w0 w tb b0 room k p nx L v Js) (hk:k<1000000) :
  Calls Tryz.prog 35 #[.pointer (some ⟨b0,0,none⟩)] w fun e w'=>∃ (a:Option Addr) (n c:Nat) (Ks:List LC),e=.returned (.slice a n c)∧n=L.length∧CRow w' w.heap.size (.slice a n c) Ks∧Ks.map (·.x)=L∧(∀ i ∈ Ks,OwnLog w' w.heap.size (.slice i.a i.n i.c) i.n i.x.st.log)∧Sn w' (CF p) L (.slice a n c) Ks∧Below w.heap.size w w':=by
 have hh:=csall_any h.cells (by have:=h.nx;omega)
 rw[h.pb] at hh
 refine hh.mono ?_
 rintro e w' ⟨v,Ks,he,h1,h2,h3,h4⟩
 obtain⟨a,c,rfl⟩:=cs_form h1.1
 have hl:Ks.length=L.length:=by rw[← h2,List.length_map]
 rw[hl] at he h1
 have hlt:=cells_lt h.cells
 refine⟨a,L.length,c,Ks,he,rfl,h1,h2,h3,⟨by rw[← hl] at h1 ⊢;exact crow_base h1 (Nat.zero_le _),h2,fun i hi ad e hn hq=>?_,fun q hq hx=>?_⟩,h4⟩
 ·have h5:=own_ge (h3 i hi) ad e hn
  have:=hlt _ hq
  omega
 ·have:=(World.ownsRow.lt h1.1 q hq).1
  have:=hlt _ hx
  omega
theorem sd_len (h:Sd w0 w tb b0 room k p nx L v Js):Calls Tryz.prog 39 #[.pointer (some ⟨b0,0,none⟩)] w fun e w'=>e=.returned (.int .i64 (L.length:Nat))∧Below w.heap.size w w':=by
 have hh:=clen_any h.cells
 rw[h.pb] at hh
 exact hh
theorem sd_look (s:ByteArray) (q:Pol) (now:Int) (h:Sd w0 w tb b0 room k p nx L v Js) (hs:s.size≤maxLen) (hk:k<1000000) :
  Calls Tryz.prog 41 #[.pointer (some ⟨b0,0,none⟩),.string s,q.v,.int .i64 now] w fun e w'=>∃ (a':Option Addr) (n' c':Nat),e=.returned ((cLook L s.data.toList q now).v a' n' c')∧LogAt w' a' n' c' (cLook L s.data.toList q now).log∧Below w.heap.size w w':=by
 have hh:=cslook_any s q now h.cells hs (by have:=h.nx;omega)
 rw[h.pb] at hh
 refine hh.mono ?_
 rintro e w' ⟨a',n',c',he,h1,h2⟩
 obtain⟨a,c,e2,h3⟩:=own_log h1
 injection e2 with e3 e4 e5
 subst e3 e5
 exact⟨a',n',c',he,h3,h2⟩
theorem sd_rlook (r:Int) (s:ByteArray) (q:Pol) (now:Int) (h:Sd w0 w tb b0 room k p nx (Js.map (·.x)) v Js) :
  Calls Tryz.prog 42 #[TV r v,.string s,q.v,.int .i64 now] w fun e w'=>∃ (a':Option Addr) (n' c':Nat),e=.returned ((cLook (Js.map (·.x)) s.data.toList q now).v a' n' c')∧LogAt w' a' n' c' (cLook (Js.map (·.x)) s.data.toList q now).log∧Below w.heap.size w w':=by
 refine(rlook_any r v s q now w h.row (by have:=h.len;omega)).mono ?_
 rintro e w' ⟨a',n',c',he,h1,-,h2⟩
 exact⟨a',n',c',he,h1,h2⟩
theorem sd_sweep (now:Int) (h:Sd w0 w tb b0 room k p nx L v Js) (hk:k<1000000) :
  Calls Tryz.prog 37 #[.pointer (some ⟨b0,0,none⟩),.int .i64 now] w fun e w'=>e=.returned (.int .i64 (cSweep L now).2)∧∃ p' nx',Sd w0 w' tb b0 room (k+1) p' nx' (cSweep L now).1 v Js∧Moved p p' w w':=by
 have hh:=csweep_any now h.cells (by have:=h.nx;omega)
 rw[h.pb] at hh
 exact hh.mono fun e w' h1=>⟨h1.1,h.did h1.2⟩
theorem sd_set (x:Cl) (a:Option Addr) (n c:Nat) (now:Int) (h:Sd w0 w tb b0 room k p nx L v Js) (hl:LogAt w a n c x.st.log) (hf:∀ ad,a=some ad→n≠0→¬ CF p ad.block) (hs:x.key.length≤maxLen) (hk:k<1000000) :
  Calls Tryz.prog 40 #[.pointer (some ⟨b0,0,none⟩),x.v a n c,.int .i64 now] w fun e w'=>e=.returned (.int .i64 (cSet room L x now).2)∧∃ p' nx',Sd w0 w' tb b0 room (k+1) p' nx' (cSet room L x now).1 v Js∧Moved p p' w w':=by
 have hh:=csset_any x a n c now h.cells hl hf hs (by have:=h.nx;omega)
 rw[h.pb] at hh
 exact hh.mono fun e w' h1=>⟨h1.1,h.did h1.2⟩
theorem set2b {b:Nat} {u0 u1 v0 v1:Value} (h0:w.cell? ⟨b,0,none⟩=some u0) (h1:w.cell? ⟨b,1,none⟩=some u1):((w.setCell ⟨b,0,none⟩ v0).setCell ⟨b,1,none⟩ v1).cell? ⟨b,0,none⟩=some v0∧((w.setCell ⟨b,0,none⟩ v0).setCell ⟨b,1,none⟩ v1).cell? ⟨b,1,none⟩=some v1:=by
 constructor <;> simp[World.cell?_setCell_other,World.cell?_setCell_same',h0,h1]
/-- What stands at the head of the laws' loop. -/
def StI (w0 wr:World) (tb b0 room j:Nat):Prop:=∃ (p:CsP) (nx:Nat) (v:Value) (Js:List LC),Sd w0 wr tb b0 room j p nx (Js.map (·.x)) v Js
end Go.Proofs.YtmhikkbdhboodaaGreat

namespace Go.Proofs.YtmhikkbdhboodaaGreat
open Go.RowKit Go.Maps
set_option linter.unusedVariables false
set_option linter.unusedSimpArgs false

variable {L M:List Cl} {x y:Cl} {room:Nat} {now:Int} {k:Key} {q:Pol}
theorem apart_inj (h:Apart L) (hx:x ∈ L) (hy:y ∈ L) (e:x.key=y.key):x=y:=by
 induction L with
 | nil=>cases hx
 | cons z L ih =>
  have hn:=List.nodup_cons.1 (show(z.key :: L.map (·.key)).Nodup from h)
  rcases List.mem_cons.1 hx with hx2|hx2 <;> rcases List.mem_cons.1 hy with hy2|hy2
  ·rw[hx2,hy2]
  ·rw[hx2] at e;exact absurd (List.mem_map.2 ⟨y,hy2,e.symm⟩) hn.1
  ·rw[hy2] at e;exact absurd (List.mem_map.2 ⟨x,hx2,e⟩) hn.1
  ·exact ih hn.2 hx2 hy2
theorem look_is (h:Apart L) (hx:x ∈ L):cLook L x.key x.pol now=x.st:=by
 unfold cLook
 have hm:(x.key == x.key && polE x.pol x.pol)=true:=by simp[polE_iff]
 cases hf:L.find? (fun y=>y.key == x.key && polE y.pol x.pol) with
 | none =>
  have:=List.find?_eq_none.1 hf x hx
  exact absurd hm this
 | some y =>
  have h1:=List.find?_some hf
  have h2:=List.mem_of_find?_eq_some hf
  have h3:y.key=x.key:=by simp at h1;exact h1.1
  rw[apart_inj h h2 hx h3]
theorem look_no (h:∀ y ∈ L,¬ (y.key=k∧y.pol=q)):cLook L k q now=newP q now:=by
 unfold cLook
 have hf:L.find? (fun y=>y.key == k && polE y.pol q)=none:=by
  rw[List.find?_eq_none]
  intro y hy hh
  rw[Bool.and_eq_true,polE_iff] at hh
  exact h y hy ⟨by simpa using hh.1,hh.2⟩
 rw[hf]
theorem mem_without (hx:x ∈ L) (hk:x.key≠k):x ∈ cWithout L k:=List.mem_filter.2 ⟨hx,by simpa using hk⟩
theorem victim_is {v:Cl} (h:cVictim L now=some v):v ∈ L∧(cFresh now v=true∨cOpen v=true):=by
 unfold cVictim at h
 cases hf:L.find? (cFresh now) with
 | some z =>
  rw[hf] at h
  injection h with h
  subst h
  exact⟨List.mem_of_find?_eq_some hf,.inl (List.find?_some hf)⟩
 | none =>
  rw[hf] at h
  have h2:L.find? cOpen=some v:=by simpa using h
  exact⟨List.mem_of_find?_eq_some h2,.inr (List.find?_some h2)⟩
theorem victim_none (h:cVictim L now=none):∀ y ∈ L,cFresh now y=false∧cOpen y=false:=fun y hy=>by
 unfold cVictim at h
 have h1:L.find? (cFresh now)=none:=by
  cases hf:L.find? (cFresh now) with
  | some z=>rw[hf] at h;cases h
  | none=>rfl
 rw[h1] at h
 have h2:L.find? cOpen=none:=by simpa using h
 exact⟨by simpa using List.find?_eq_none.1 h1 y hy,by simpa using List.find?_eq_none.1 h2 y hy⟩
/-- What is neither as new, nor open without anything held, nor of the key that is set, stays. -/
theorem set_keeps (h:Apart L) (hy:y ∈ L) (hk:y.key≠x.key) (hf:cFresh now y=false) (ho:cOpen y=false):y ∈ (cSet room L x now).1:=by
 unfold cSet
 split
 ·exact hy
 split
 ·exact mem_without hy hk
 split
 ·exact List.mem_append_left _ (mem_without hy hk)
 cases hM:cRoom room L now with
 | none=>exact hy
 | some M =>
  refine List.mem_append_left _ ?_
  unfold cRoom at hM
  split at hM
  ·injection hM with hM;subst hM;exact hy
  ·cases hv:cVictim L now with
   | none=>rw[hv] at hM;cases hM
   | some v =>
    rw[hv] at hM
    injection hM with hM
    subst hM
    obtain⟨h1,h2⟩:=victim_is hv
    refine mem_without hy fun e=>?_
    rw[apart_inj h hy h1 e] at hf ho
    rcases h2 with h2|h2
    ·rw[hf] at h2;cases h2
    ·rw[ho] at h2;cases h2
theorem step_keeps {d:CD} (h:Apart L) (hy:y ∈ L) (hk:y.key≠d.x.key) (hf:cFresh d.now y=false) (ho:cOpen y=false):cLook (cStep room L d).1 y.key y.pol d.now=y.st:=by
 refine look_is (apart_step d h) ?_
 unfold cStep
 split
 ·exact List.mem_filter.2 ⟨hy,by simp[hf]⟩
 ·exact set_keeps h hy (by rw[cOf_key];exact hk) hf ho
/-- What Set tells. -/
theorem set_arg:(cSet room L x now).2=2→rightP x.pol x.st=false∧(cSet room L x now).1=L:=by
 unfold cSet
 split
 ·next h=>exact fun _=>⟨h,rfl⟩
 ·split
  ·intro h;cases h
  ·split
   ·intro h;cases h
   ·cases cRoom room L now with
    | none=>intro h;cases h
    | some M=>intro h;cases h
theorem set_ok (h:Apart L):(cSet room L x now).2=0→rightP x.pol x.st=true∧((cFresh now x=true∧(cSet room L x now).1=cWithout L x.key)∨(cFresh now x=false∧∃ P:Cl→Bool,(cSet room L x now).1=L.filter P ++ [x]∧(∀ y ∈ L.filter P,y.key≠x.key))):=by
 unfold cSet
 cases hr:rightP x.pol x.st with
 | false=>rw[if_pos rfl];intro h;cases h
 | true =>
  rw[if_neg (by simp)]
  cases hf:cFresh now x with
  | true=>rw[if_pos rfl];exact fun _=>⟨rfl,.inl ⟨rfl,rfl⟩⟩
  | false =>
   rw[if_neg (by simp)]
   cases hh:cHas L x.key with
   | true=>rw[if_pos rfl];exact fun _=>⟨rfl,.inr ⟨rfl,_,rfl,without_key⟩⟩
   | false =>
    rw[if_neg (by simp)]
    have hno:=has_false.1 hh
    unfold cRoom
    split
    ·next M hM =>
     split at hM
     ·injection hM with hM
      subst hM
      refine fun _=>⟨rfl,.inr ⟨rfl,fun _=>true,by rw[List.filter_eq_self.2 (fun _ _=>rfl)],?_⟩⟩
      intro y hy
      exact hno y (List.mem_filter.1 hy).1
     ·cases hv:cVictim L now with
      | none=>rw[hv] at hM;cases hM
      | some v =>
       rw[hv] at hM
       injection hM with hM
       subst hM
       exact fun _=>⟨rfl,.inr ⟨rfl,_,rfl,fun y hy=>hno y (List.mem_filter.1 hy).1⟩⟩
    ·intro h;cases h
theorem set_full:(cSet room L x now).2≠0→(cSet room L x now).2≠2→(cSet room L x now).2=5∧(cSet room L x now).1=L∧(∀ y ∈ L,cFresh now y=false∧cOpen y=false∧y.key≠x.key)∧¬ L.length<room:=by
 unfold cSet
 split
 ·intro _ h;exact absurd rfl h
 ·split
  ·intro h;exact absurd rfl h
  ·split
   ·intro h;exact absurd rfl h
   ·next hh =>
    have hno:=has_false.1 (by simpa using hh)
    cases hM:cRoom room L now with
    | some M=>intro h;exact absurd rfl h
    | none =>
     refine fun _ _=>⟨rfl,rfl,fun y hy=>?_,?_⟩
     ·unfold cRoom at hM
      split at hM
      ·cases hM
      ·cases hv:cVictim L now with
       | some v=>rw[hv] at hM;cases hM
       | none=>exact⟨(victim_none hv y hy).1,(victim_none hv y hy).2,hno y hy⟩
     ·intro hlt
      unfold cRoom at hM
      rw[if_pos hlt] at hM
      cases hM
theorem set_cases (room:Nat) (L:List Cl) (x:Cl) (now:Int):(cSet room L x now).2=0∨(cSet room L x now).2=2∨(cSet room L x now).2=5:=by
 by_cases h0:(cSet room L x now).2=0
 ·exact .inl h0
 ·by_cases h2:(cSet room L x now).2=2
  ·exact .inr (.inl h2)
  ·exact .inr (.inr (set_full h0 h2).1)
/-- Not as new: looked at, it is what was set. -/
theorem set_look (h:Apart L) (h0:(cSet room L x now).2=0) (hf:cFresh now x=false):cLook (cSet room L x now).1 x.key x.pol now=x.st:=by
 refine look_is (apart_set h) ?_
 rcases(set_ok h h0).2 with⟨h1,-⟩|⟨-,P,h1,-⟩
 ·rw[h1] at hf;cases hf
 ·rw[h1];exact List.mem_append_right _ (List.mem_singleton.2 rfl)
theorem kept_twice (L:List Cl) (now:Int):cKept (cKept L now) now=cKept L now:=by
 unfold cKept
 rw[List.filter_filter]
 simp
theorem sweep_twice (L:List Cl) (now:Int):cSweep (cKept L now) now=(cKept L now,0):=by
 unfold cSweep
 rw[kept_twice,Int.sub_self]
/-- Keys that are met, one behind the other. -/
def meet (all:List Key) (xk:Key):Nat→List Key→Nat
 | k,[]=>k
 | k,w :: r=>meet all xk (if k<all.length∧all[k]?=some w∧w≠xk then k+1 else k) r
theorem meet_snoc (all:List Key) (xk w:Key):∀ (l:List Key) (k:Nat),meet all xk k (l ++ [w])=(if meet all xk k l<all.length∧all[meet all xk k l]?=some w∧w≠xk then meet all xk k l+1 else meet all xk k l)
 | [],k=>rfl
 | z :: r,k=>meet_snoc all xk w r _
theorem meet_all (xk:Key) (P:Key→Bool) (E:List Key) (hE:∀ e ∈ E,e=xk):∀ (B A:List Key),(A ++ B).Nodup→(∀ y ∈ B.filter P,y≠xk)→∀ pre:List Key,meet (pre ++ B.filter P ++ E) xk pre.length B=pre.length+(B.filter P).length
 | [],A,_,_,pre=>by simp[meet]
 | w :: B,A,hn,hx,pre=>by
  have hn2:((A ++ [w]) ++ B).Nodup:=by rw[List.append_assoc];exact hn
  have hwB:w ∉ B:=by
   have h1:=(List.nodup_append.1 hn).2.1
   exact(List.nodup_cons.1 h1).1
  unfold meet
  cases hP:P w with
  | true =>
   have hf:(w :: B).filter P=w :: B.filter P:=by rw[List.filter_cons,if_pos hP]
   have hwx:w≠xk:=hx w (by rw[hf];exact List.mem_cons_self ..)
   rw[hf]
   rw[if_pos ⟨by simp,by simp,hwx⟩]
   have ih:=meet_all xk P E hE B (A ++ [w]) hn2 (fun y hy=>hx y (by rw[hf];exact List.mem_cons_of_mem _ hy)) (pre ++ [w])
   rw[List.length_append,List.append_assoc,List.append_assoc] at ih
   simp only[List.length_cons,List.length_nil,List.singleton_append,List.append_assoc,List.cons_append,List.nil_append] at ih ⊢
   rw[ih]
   omega
  | false =>
   have hf:(w :: B).filter P=B.filter P:=by rw[List.filter_cons,if_neg (by simp[hP])]
   rw[hf]
   rw[if_neg]
   ·exact meet_all xk P E hE B (A ++ [w]) hn2 (fun y hy=>hx y (by rw[hf];exact hy)) pre
   ·rintro⟨h1,h2,h3⟩
    rw[List.append_assoc,List.getElem?_append_right (Nat.le_refl _),Nat.sub_self] at h2
    cases hB:B.filter P with
    | nil =>
     rw[hB,List.nil_append] at h2
     have:w ∈ E:=List.mem_of_getElem? h2
     exact h3 (hE w this)
    | cons z r =>
     rw[hB] at h2
     have hz:z=w:=by simpa using h2
     have:w ∈ B.filter P:=by rw[hB,hz];exact List.mem_cons_self ..
     exact hwB (List.mem_filter.1 this).1
theorem meet_cells (h:Apart L) (P:Cl→Bool) (E:List Cl) (hE:∀ e ∈ E,e.key=k) (hx:∀ y ∈ L.filter P,y.key≠k):meet ((L.filter P ++ E).map (·.key)) k 0 (L.map (·.key))=(L.filter P).length:=by
 have hP : ∃ Q:Key→Bool,(L.filter P).map (·.key)=(L.map (·.key)).filter Q:=by
  refine⟨fun z=>((L.filter P).map (·.key)).elem z,?_⟩
  have hg:∀ (B:List Cl),(∀ y ∈ B,(P y=true↔((L.filter P).map (·.key)).elem y.key=true))→(B.filter P).map (·.key)=(B.map (·.key)).filter (fun z=>((L.filter P).map (·.key)).elem z):=by
   intro B
   induction B with
   | nil=>intro _;rfl
   | cons b B ih =>
    intro hb
    have h1:=hb b (List.mem_cons_self ..)
    have h2:=ih (fun y hy=>hb y (List.mem_cons_of_mem _ hy))
    rw[List.map_cons,List.filter_cons,List.filter_cons]
    cases hq:P b with
    | true=>rw[if_pos rfl,if_pos (h1.1 hq),List.map_cons,h2]
    | false =>
     rw[if_neg (by simp),if_neg (fun hh=>by rw[h1.2 hh] at hq;cases hq),h2]
  refine hg L fun y hy=>?_
  rw[List.elem_eq_mem,decide_eq_true_iff]
  constructor
  ·intro hp
   exact List.mem_map.2 ⟨y,List.mem_filter.2 ⟨hy,hp⟩,rfl⟩
  ·intro hm
   obtain⟨z,hz,e⟩:=List.mem_map.1 hm
   have:=apart_inj h (List.mem_filter.1 hz).1 hy e
   rw[← this]
   exact(List.mem_filter.1 hz).2
 obtain⟨Q,hQ⟩:=hP
 have hh:=meet_all k Q (E.map Cl.key) (fun e he=>by
  obtain⟨z,hz,rfl⟩:=List.mem_map.1 he
  exact hE z hz) (L.map Cl.key) [] (show([] ++ L.map Cl.key).Nodup from h) (fun y hy=>by
  rw[← hQ] at hy
  obtain⟨z,hz,rfl⟩:=List.mem_map.1 hy
  exact hx z hz) []
 rw[← hQ,List.length_map,List.nil_append,List.length_nil,Nat.zero_add] at hh
 rw[List.map_append]
 exact hh
end Go.Proofs.YtmhikkbdhboodaaGreat

namespace Go.Proofs.YtmhikkbdhboodaaGreat
open Go.RowKit Go.ChangeShapes Go.WideShapes Go.Deep
set_option linter.unusedVariables false
set_option linter.unusedSimpArgs false

/-- A cell that came in. -/
def CellIn (w:World) (x:Cl) (a:Option Addr) (n c:Nat):Prop:=LogAt w a n c x.st.log∧x.key.length≤maxLen
section
variable {H:Type} {enc:TypeId × Value→H} {w:World} {base:Nat} {spare:Nat→Bool} {held:Bool}
theorem open_cell {v:Value} {r:Reach} {b0:Nat} {d:DataW H} {p:List MemPlace} (hv:Value.okWide Tryz.prog w r b0 59 v) (h:∃ fuel,DataW.trod enc Tryz.prog w base spare held fuel 59 v.cells.toList=some (d,p)):∃ (x:Cl) (a:Option Addr) (n c:Nat),v=x.v a n c∧CellIn w x a n c:=by
 obtain⟨f0,f1,f2,hu,-⟩:=cell_fields
 obtain⟨cs,rfl,-⟩:=okWide_struct hu hv
 obtain⟨fuel,h⟩:=h
 obtain⟨i,h1,h2,h3⟩:=ccell_cells h
 refine⟨i.x,i.a,i.n,i.c,?_,h2,h1⟩
 simp only[Value.cells] at h3
 obtain⟨l⟩:=cs
 dsimp only at h3
 subst h3
 unfold lcell Cl.v
 rfl
end
end Go.Proofs.YtmhikkbdhboodaaGreat
