/-
  The statement CellsKeep of this seat: for every input the law returns true, and each argument reads afterwards as it read before. No condition.
-/
import Derived.Test.YtmhikkbdhboodaaGreatZcX
import Derived.Test.YtmhikkbdhboodaaGreatRows
import Derived.WalkKit
import Derived.ProofKit
import Derived.OpenShut
import Derived.ShutString
import Derived.ChangeOld
import Derived.Below
namespace Go.Proofs.YtmhikkbdhboodaaGreat
open Go.RowKit Go.Maps
set_option linter.unusedVariables false
set_option linter.unusedSimpArgs false

theorem leaves5 {α β γ δ ε:Type} {P:α→β→γ→δ→ε→Prop} {Goal:Prop} (G:α→β→γ→δ→ε→Prop) (main:(∀ a b c d e,P a b c d e→G a b c d e)→Goal) (cont:∀ a b c d e,P a b c d e→G a b c d e):Goal:=main cont
theorem cells_short {w:World} {p:CsP} {room nx:Nat} {L:List Cl} (h:CellsAt w p room nx L):∀ x ∈ L,x.key.length≤maxLen:=by
 obtain⟨I,⟨m,h⟩,rfl⟩:=h
 intro x hx
 obtain⟨i,hi,rfl⟩:=List.mem_map.1 hx
 exact h.short i hi
theorem sto_wp {P:Program} {Q:Exit→Act→World→Prop} {w w':World} {a:Act} {ops:Array Oper} {o:Oper} {K:Act→World→Prop} {E:Prop} (t:TypeId) (x y:Operand) (hw:Region.wanted o (yielded ops a.tmps)=true)
  (ho:o.op=.store t x y) (hst:(Instr.storeAt t (a.eval x) (a.eval y)).run P w=.ok () w') (h:K (a.put o.dst undef) w'):if Region.wanted o (yielded ops a.tmps)=true then Oper.wp P o a w K Q else E:=by
 rw[if_pos hw]
 unfold Oper.wp
 simp[execOp,ho,hst,Result.andThen]
 exact h
theorem Sn.only {F:Nat→Prop} {w w':World} {A:Nat→Prop} {L:List Cl} {v:Value} {Fs:List LC} (h:Sn w A L v Fs) (ho:Only F w w') (hA:∀ q,F q→A q):Sn w' A L v Fs :=
 ⟨⟨row_frame h.row.1 fun q hq=>ho.block q (World.ownsRow.lt h.row.1 q hq).2 (fun hf=>h.vf q hq (hA _ hf)),fun i hi=>log_only (h.row.2 i hi) ho (fun ad e hn hf=>h.lf i hi ad e hn (hA _ hf))⟩,h.map,h.lf,h.vf⟩
theorem sn_was {w0 w w':World} {tb b0 room k nx n c:Nat} {p:CsP} {a:Option Addr} {L M:List Cl} {v:Value} {Js Ks:List LC} (h:Sd w0 w tb b0 room k p nx L v Js) (hr:CRow w' w.heap.size (.slice a n c) Ks) (hm:Ks.map (·.x)=M) (ho:∀ i ∈ Ks,OwnLog w' w.heap.size (.slice i.a i.n i.c) i.n i.x.st.log):Sn w' (A1 p tb) M (.slice a n c) Ks:=by
 have hlt:=cells_lt h.cells
 have ht:=h.tlt
 refine⟨crow_base hr (Nat.zero_le _),hm,fun i hi ad e hn hq=>?_,fun q hq hx=>?_⟩
 ·have h5:=own_ge (ho i hi) ad e hn
  rcases hq with hq|hq
  ·have:=hlt _ hq;omega
  ·omega
 ·have h5:=(World.ownsRow.lt hr.1 q hq).1
  rcases hx with hx|hx
  ·have:=hlt _ hx;omega
  ·omega
set_option maxHeartbeats 64000000 in
set_option maxRecDepth 100000 in
theorem ckeep_long (room:Int) (la:Option Addr) (m lc:Nat) (ds:Nat→CD) (w:World) (hr0:0≤room) (hr1:room≤255) (hA:CDosIn w la m ds) (hm:(40:Int)<m):Calls Tryz.prog 9 #[.int .u8 room,.slice la m lc] w fun e w'=>e=.returned (.bool true)∧Below w.heap.size w w':=by
 have h41:40<m:=by omega
 have HKN:=Go.Lib.hid cknown
 clear hA
 have hrw:IntKind.i64.wrap room=room:=IntWalk.i64_in _ (by omega)
 go_enter Tryz.func9,Tryz.ntmps9
 go_wp2_with fail
 refine(HKN.out _).mono ?_
 rintro e w1 ⟨rfl,hb⟩
 have hsz1:w.heap.size+0≤w1.heap.size:=szl hb
 have hB:Below w.heap.size w w1:=hb
 clear hb
 go_wp2_with fail
 go_ret
 exact⟨rfl,hB⟩
set_option maxHeartbeats 64000000 in
set_option maxRecDepth 100000 in
theorem ckeep_run (room:Int) (la:Option Addr) (m lc:Nat) (ds:Nat→CD) (w:World) (hr0:0≤room) (hr1:room≤255) (hA:CDosIn w la m ds) (hm:¬ (40:Int)<m):Calls Tryz.prog 9 #[.int .u8 room,.slice la m lc] w fun e w'=>e=.returned (.bool true)∧Below w.heap.size w w':=by
 have HKN:=Go.Lib.hid cknown
 have HA:=Go.Lib.hid hA
 have HLG:=Go.Lib.hid (fun W hW=>clong_any la m lc ds W (cds_bl hA hW))
 have h41:¬ 40<m:=by omega
 clear hA
 have hrw:IntKind.i64.wrap room=room:=IntWalk.i64_in _ (by omega)
 go_enter Tryz.func9,Tryz.ntmps9
 go_wp2_with fail
 refine(HLG.out _ (bl_refl _)).mono ?_
 rintro e w1 ⟨lq,rfl,hb⟩
 have hsz1:w.heap.size+0≤w1.heap.size:=szl hb
 have hB:Below w.heap.size w w1:=hb
 clear hb
 by_cases hq:600<lq
 ·go_wp2_with fail
  refine(HKN.out _).mono ?_
  rintro e w2 ⟨rfl,hb⟩
  have hsz2:w1.heap.size+0≤w2.heap.size:=szl hb
  replace hB:Below w.heap.size w w2:=bl_then hB hb
  clear hb
  go_wp2_with fail
  go_ret
  exact⟨rfl,hB⟩
 go_wp2_with fail
 have HB1:=Go.Lib.hid hB
 clear hB
 refine(csnew_any room _).mono ?_
 rintro e w2 ⟨p,rfl,hc,hb,hF⟩
 have HC:=Go.Lib.hid hc
 have HB2:=Go.Lib.hid hb
 have HF:=Go.Lib.hid hF
 clear hc hb hF
 go_wp2_with fail
 refine(rnew_any room _).mono ?_
 rintro e w3 ⟨rfl,hb3⟩
 have HB3:=Go.Lib.hid hb3
 clear hb3
 unfold TV
 go_wp2_with fail
 go_loopw [7] (fun s7 wr=>∃ j:Nat,s7=.int .i64 j∧j≤m∧Hid (StI w1 wr w3.heap.size p.b (roomOf (room)) j)) (fun s7 _=>m - (intOf s7).toNat)
 case atStart=>exact⟨0,rfl,Nat.zero_le _,Go.Lib.hid ⟨p,0,.slice none 0 0,[],sd_start HC.out HB2.out HF.out HB3.out⟩⟩
 case round =>
  obtain⟨j,rfl,hj,H⟩:=hrel
  obtain⟨p2,nx,v,Js,hsd⟩:=H.out
  clear H HC HB2 HF HB3
  by_cases hjn:j<m
  ·have hj41:j≤40:=by omega
   have hmj:(j:Int)<(m:Int):=by omega
   go_wp2_with fail
   refine(sd_all hsd (by omega)).mono ?_
   rintro e W4 ⟨a5,N,c5,Ks,rfl,hN,hrk,hmk,how,-,hb⟩
   have hN4:N≤10000:=by have:=hsd.len;rw[List.length_map] at hN;omega
   have hsw:=sn_was hsd hrk hmk how
   have HSHORT:=Go.Lib.hid (cells_short hsd.cells)
   have hsd4:=hsd.to hb
   have hNK:N=Ks.length:=by rw[hN,← hmk,List.length_map]
   have HSW:=Go.Lib.hid hsw
   have HN:=Go.Lib.hid hNK
   replace hsd:=hsd4
   clear hrk hmk how hsw hsd4 hN hNK hb hmj
   obtain⟨hks,hlg,xb,xo,hla,y0,y1,y2,y3,y4,y5,y6,y7,y8,y9,y10,y11,y12,y13⟩:=(cds_bl HA.out HB1.out).2 j hjn
   subst hla
   have hap:=cells_apart hsd.cells
   have hlen:=hsd.len
   have hm40:(m:Int)≤40:=by omega
   have hj41:j≤40:=by omega
   have k0:(0:Int)≤(j:Int):=by omega
   have k1:(j:Int)<(m:Int):=by omega
   have hms:m - (j+1)<m - j:=by omega
   have hj1:j+1≤m:=hjn
   have wj:IntKind.i64.wrap ((j:Int)+1)=(j:Int)+1:=IntWalk.i64_in _ (by omega)
   obtain⟨ra,rc,rfl⟩:=cs_form hsd.row.1
   obtain⟨Z,hZ⟩:∃ Z,Z=cStep (roomOf room) (Js.map (·.x)) (ds j):=⟨_,rfl⟩
   have hdd:=fun W (h:Sd w1 W (w3.heap.size) p.b (roomOf room) (j) p2 nx (Js.map (·.x)) (.slice ra Js.length rc) Js)=>sd_did (d:=ds j) h hlg hks (by omega)
   have hst1:=fun p3 nx3 W (h:Sd w1 W (w3.heap.size) p.b (roomOf room) (j+1) p3 nx3 ((cStep (roomOf room) (Js.map (·.x)) (ds j)).1) (.slice ra Js.length rc) Js)=>sd_step1 (d:=ds j) h rfl hlen hap hlg hks
   have hst2:=fun p3 nx3 X (h:Sd w1 X (w3.heap.size) p.b (roomOf room) (j+1) p3 nx3 ((cStep (roomOf room) (Js.map (·.x)) (ds j)).1) (.slice ra Js.length rc) Js) W (hb:Below X.heap.size X W) rn hr hr2=>sd_step2 (d:=ds j) h hb (rn:=rn) hr hr2 rfl hlen hap hlg hks
   simp only[← hZ] at hdd hst1 hst2
   have hof:=fun W (h:Sd w1 W (w3.heap.size) p.b (roomOf room) (j) p2 nx (Js.map (·.x)) (.slice ra Js.length rc) Js)=>csof_any ((roomOf room:Nat):Int) (.slice ra Js.length rc) (ds j) W h.row (log_bl hlg h.bl) (by omega) hks
   obtain⟨XO,hXO⟩:∃ x,x=cOf (Js.map (·.x)) (ds j):=⟨_,rfl⟩
   simp only[← hXO] at hof
   have hxk:XO.key=(ds j).x.key:=by rw[hXO];exact cOf_key _ _
   clear hXO
   have hkp:=fun(x:Cl) (hx:x ∈ Js.map (·.x)) h1 h2 h3=>step_keeps (room:=roomOf room) (d:=ds j) hap hx h1 h2 h3
   simp only[← hZ] at hkp
   have HKP:=Go.Lib.hid hkp
   clear hkp
   obtain⟨okey,⟨pk,pl,pd,pb,pc,po⟩,⟨oat,olev,oheld,OLG⟩⟩:=XO
   unfold Cl.v at hof
   dsimp only at hxk
   subst hxk
   have HOF0:=Go.Lib.hid hof
   clear hof
   obtain⟨L2,rr⟩:=Z
   have HSD:=Go.Lib.hid hsd
   have HLG:=Go.Lib.hid hlg
   have HZ:=Go.Lib.hid hZ
   have HKS:=Go.Lib.hid hks
   clear hZ hsd hlg hap hks
   generalize hde:ds j=d at *
   have HDE:=Go.Lib.hid hde
   clear hde
   obtain⟨dk,⟨ekey,⟨ek,el,ed,eb,ec,eo⟩,⟨eat,elev,eheld,EL⟩⟩,ea,en,ecp,enow,ecost⟩:=d
   unfold TV CD.v at *
   dsimp only at *
   generalize hKE:ktx ekey=KE at *
   have HKE:=Go.Lib.hid hKE
   clear hKE
   have HY:=Go.Lib.hid (⟨y0,y1,y2,y3,y4,y5,y6,y7,y8,y9,y10,y11,y12,y13⟩:w1.cell? ⟨xb,xo+j*14,none⟩=some (.int .i64 dk)∧w1.cell? ⟨xb,xo+j*14+1,none⟩=some (.string KE)∧w1.cell? ⟨xb,xo+j*14+2,none⟩=some (.int .i64 ek)∧w1.cell? ⟨xb,xo+j*14+3,none⟩=some (.int .i64 el)∧w1.cell? ⟨xb,xo+j*14+4,none⟩=some (.int .i64 ed)∧w1.cell? ⟨xb,xo+j*14+5,none⟩=some (.int .i64 eb)∧w1.cell? ⟨xb,xo+j*14+6,none⟩=some (.int .i64 ec)∧w1.cell? ⟨xb,xo+j*14+7,none⟩=some (.bool eo)∧w1.cell? ⟨xb,xo+j*14+8,none⟩=some (.int .i64 eat)∧w1.cell? ⟨xb,xo+j*14+9,none⟩=some (.int .i64 elev)∧w1.cell? ⟨xb,xo+j*14+10,none⟩=some (.int .i64 eheld)∧w1.cell? ⟨xb,xo+j*14+11,none⟩=some (.slice ea en ecp)∧w1.cell? ⟨xb,xo+j*14+12,none⟩=some (.int .i64 enow)∧w1.cell? ⟨xb,xo+j*14+13,none⟩=some (.int .i64 ecost))
   clear y0 y1 y2 y3 y4 y5 y6 y7 y8 y9 y10 y11 y12 y13
   have HDD:=Go.Lib.hid hdd
   have HST1:=Go.Lib.hid hst1
   have HST2:=Go.Lib.hid hst2
   clear hdd hst1 hst2
   have hof:=HOF0.out
   skip
   have HOF:=Go.Lib.hid hof
   clear hof HOF0
   go_wp2_with fail
   apply leaves5 (P:=fun(xn:Nat) (oa:Option Addr) (on oc:Nat) (W8:World)=>W4.heap.size≤xn∧Below W4.heap.size W4 W8∧W8.cell? ⟨xn,0,none⟩=some (.string KE))
   case main =>
    intro HLEAF
    obtain⟨y0,y1,y2,y3,y4,y5,y6,y7,y8,y9,y10,y11,y12,y13⟩:=HY.out
    have x0:=bl_cell HSD.out.bl y0
    have x1:=bl_cell HSD.out.bl y1
    have x2:=bl_cell HSD.out.bl y2
    have x3:=bl_cell HSD.out.bl y3
    have x4:=bl_cell HSD.out.bl y4
    have x5:=bl_cell HSD.out.bl y5
    have x6:=bl_cell HSD.out.bl y6
    have x7:=bl_cell HSD.out.bl y7
    have x8:=bl_cell HSD.out.bl y8
    have x9:=bl_cell HSD.out.bl y9
    have x10:=bl_cell HSD.out.bl y10
    have x11:=bl_cell HSD.out.bl y11
    have x12:=bl_cell HSD.out.bl y12
    have x13:=bl_cell HSD.out.bl y13
    clear y0 y1 y2 y3 y4 y5 y6 y7 y8 y9 y10 y11 y12 y13
    have x14:=HSD.out.t0
    have x15:=HSD.out.t1
    refine wp_region_held_drew (S:=fun X=>X.cell? ⟨xb,xo+j*14,none⟩=some (.int .i64 dk)∧X.cell? ⟨xb,xo+j*14+1,none⟩=some (.string KE)∧X.cell? ⟨xb,xo+j*14+2,none⟩=some (.int .i64 ek)∧X.cell? ⟨xb,xo+j*14+3,none⟩=some (.int .i64 el)∧X.cell? ⟨xb,xo+j*14+4,none⟩=some (.int .i64 ed)∧X.cell? ⟨xb,xo+j*14+5,none⟩=some (.int .i64 eb)∧X.cell? ⟨xb,xo+j*14+6,none⟩=some (.int .i64 ec)∧X.cell? ⟨xb,xo+j*14+7,none⟩=some (.bool eo)∧X.cell? ⟨xb,xo+j*14+8,none⟩=some (.int .i64 eat)∧X.cell? ⟨xb,xo+j*14+9,none⟩=some (.int .i64 elev)∧X.cell? ⟨xb,xo+j*14+10,none⟩=some (.int .i64 eheld)∧X.cell? ⟨xb,xo+j*14+11,none⟩=some (.slice ea en ecp)∧X.cell? ⟨xb,xo+j*14+12,none⟩=some (.int .i64 enow)∧X.cell? ⟨xb,xo+j*14+13,none⟩=some (.int .i64 ecost)∧X.cell? ⟨w3.heap.size,0,none⟩=some (.int .i64 ((roomOf room:Nat):Int))∧X.cell? ⟨w3.heap.size,1,none⟩=some (.slice ra Js.length rc)) (by kernel_rfl) ?_ (fun hHeld=>?_)
    ·exact⟨x0,x1,x2,x3,x4,x5,x6,x7,x8,x9,x10,x11,x12,x13,x14,x15⟩
    try simp only[Act.put,List.setIfInBounds_toArray,List.set_cons_zero,List.set_cons_succ]
    clear x0 x1 x2 x3 x4 x5 x6 x7 x8 x9 x10 x11 x12 x13 x14 x15
    refine wpAnyH_abs (F:=fun X=>Below W4.heap.size W4 X) hHeld (bl_drew (bl_refl _)) ?_
    clear hHeld
    rintro Y0 hHeld hbx
    have hlt0:=HSD.out.tlt
    have hlt1:xb<W4.heap.size:=by obtain⟨y0,-⟩:=HY.out;have h1:=World.block_lt_of_cell? _ _ y0;have h2:=HSD.out.bl.size;dsimp only at h1;omega
    refine tkx 0 ?_
    refine tkx 1 ?_
    refine tkx 2 ?_
    refine tkx 3 ?_
    refine tkx 4 ?_
    refine callC2 (i:=5) (j:=6) rfl rfl ?ofA1 ?ofB1
    case' ofA1 =>
     intro K hK
     obtain⟨hx0,hx1,hx2,hx3,hx4,hx5,hx6,hx7,hx8,hx9,hx10,hx11,hx12,hx13,hx14,hx15⟩:=(id hHeld)
     clear hHeld
     go_simp
     refine(HOF.out _ (HSD.out.to hbx)).mono ?_
     rintro e Y5 ⟨oa,on,oc,rfl,-,-,hb⟩
     have HX:Hid ((fun X=>X.cell? ⟨xb,xo+j*14,none⟩=some (.int .i64 dk)∧X.cell? ⟨xb,xo+j*14+1,none⟩=some (.string KE)∧X.cell? ⟨xb,xo+j*14+2,none⟩=some (.int .i64 ek)∧X.cell? ⟨xb,xo+j*14+3,none⟩=some (.int .i64 el)∧X.cell? ⟨xb,xo+j*14+4,none⟩=some (.int .i64 ed)∧X.cell? ⟨xb,xo+j*14+5,none⟩=some (.int .i64 eb)∧X.cell? ⟨xb,xo+j*14+6,none⟩=some (.int .i64 ec)∧X.cell? ⟨xb,xo+j*14+7,none⟩=some (.bool eo)∧X.cell? ⟨xb,xo+j*14+8,none⟩=some (.int .i64 eat)∧X.cell? ⟨xb,xo+j*14+9,none⟩=some (.int .i64 elev)∧X.cell? ⟨xb,xo+j*14+10,none⟩=some (.int .i64 eheld)∧X.cell? ⟨xb,xo+j*14+11,none⟩=some (.slice ea en ecp)∧X.cell? ⟨xb,xo+j*14+12,none⟩=some (.int .i64 enow)∧X.cell? ⟨xb,xo+j*14+13,none⟩=some (.int .i64 ecost)∧X.cell? ⟨w3.heap.size,0,none⟩=some (.int .i64 ((roomOf room:Nat):Int))∧X.cell? ⟨w3.heap.size,1,none⟩=some (.slice ra Js.length rc)) Y5):=Go.Lib.hid ⟨bl_cell hb hx0,bl_cell hb hx1,bl_cell hb hx2,bl_cell hb hx3,bl_cell hb hx4,bl_cell hb hx5,bl_cell hb hx6,bl_cell hb hx7,bl_cell hb hx8,bl_cell hb hx9,bl_cell hb hx10,bl_cell hb hx11,bl_cell hb hx12,bl_cell hb hx13,bl_cell hb hx14,bl_cell hb hx15⟩
     replace hbx:=bl_then hbx hb
     clear hb hx0 hx1 hx2 hx3 hx4 hx5 hx6 hx7 hx8 hx9 hx10 hx11 hx12 hx13 hx14 hx15
     have HBX:=Go.Lib.hid hbx
     clear hbx
     go_wp2_with fail
     refine hK.out _ _ HX.out (fun hHeld2=>?_)
     clear hK K HX
     have hHeld:=hHeld2
     clear hHeld2
     have hbx:=HBX.out
     clear HBX
     try simp only[Act.put,List.setIfInBounds_toArray,List.set_cons_zero,List.set_cons_succ]
     refine callC (i:=6) rfl (fun K hK=>?_)
     obtain⟨hx0,hx1,hx2,hx3,hx4,hx5,hx6,hx7,hx8,hx9,hx10,hx11,hx12,hx13,hx14,hx15⟩:=(id hHeld)
     clear hHeld
     go_simp
     refine hK.out _ _ ⟨bl_cell (bl_alloc (bl_refl _) _) hx0,bl_cell (bl_alloc (bl_refl _) _) hx1,bl_cell (bl_alloc (bl_refl _) _) hx2,bl_cell (bl_alloc (bl_refl _) _) hx3,bl_cell (bl_alloc (bl_refl _) _) hx4,bl_cell (bl_alloc (bl_refl _) _) hx5,bl_cell (bl_alloc (bl_refl _) _) hx6,bl_cell (bl_alloc (bl_refl _) _) hx7,bl_cell (bl_alloc (bl_refl _) _) hx8,bl_cell (bl_alloc (bl_refl _) _) hx9,bl_cell (bl_alloc (bl_refl _) _) hx10,bl_cell (bl_alloc (bl_refl _) _) hx11,bl_cell (bl_alloc (bl_refl _) _) hx12,bl_cell (bl_alloc (bl_refl _) _) hx13,bl_cell (bl_alloc (bl_refl _) _) hx14,bl_cell (bl_alloc (bl_refl _) _) hx15⟩ (fun hHeld2=>?_)
     clear hK K hx0 hx1 hx2 hx3 hx4 hx5 hx6 hx7 hx8 hx9 hx10 hx11 hx12 hx13 hx14 hx15
     have hHeld:=hHeld2
     clear hHeld2
     try simp only[Act.put,List.setIfInBounds_toArray,List.set_cons_zero,List.set_cons_succ]
     have hxn:W4.heap.size≤Y5.heap.size:=hbx.size
     refine wpAnyH_abs (F:=fun X=>Below W4.heap.size W4 X∧FB X Y5.heap.size 11) hHeld ⟨bl_alloc hbx _,fb_new #[.string { data := #[] },.int .i64 0,.int .i64 0,.int .i64 0,.int .i64 0,.int .i64 0,.bool false,.int .i64 0,.int .i64 0,.int .i64 0,.slice none 0 0] _ rfl⟩ ?_
     clear hHeld hbx
     generalize Y5.heap.size=xn at *
     rintro Y26 hHeld ⟨hbx,hFB⟩
     refine callC (i:=7) rfl (fun K hK=>?_)
     obtain⟨hx0,hx1,hx2,hx3,hx4,hx5,hx6,hx7,hx8,hx9,hx10,hx11,hx12,hx13,hx14,hx15⟩:=(id hHeld)
     clear hHeld
     obtain⟨W5,hst,⟨z0,-⟩,hO5⟩:=store11 hFB KE pk pl pd pb pc po oat olev oheld oa on oc
     refine sto_wp 59 (Operand.tmp 9) (Operand.tmp 42) (by kernel_rfl) rfl hst ?_
     refine hK.out _ _ ⟨only_cell hO5 hx0 (by omega),only_cell hO5 hx1 (by omega),only_cell hO5 hx2 (by omega),only_cell hO5 hx3 (by omega),only_cell hO5 hx4 (by omega),only_cell hO5 hx5 (by omega),only_cell hO5 hx6 (by omega),only_cell hO5 hx7 (by omega),only_cell hO5 hx8 (by omega),only_cell hO5 hx9 (by omega),only_cell hO5 hx10 (by omega),only_cell hO5 hx11 (by omega),only_cell hO5 hx12 (by omega),only_cell hO5 hx13 (by omega),only_cell hO5 hx14 (by omega),only_cell hO5 hx15 (by omega)⟩ (fun hHeld2=>?_)
     replace hbx:Below W4.heap.size W4 W5:=bl_then2 hbx hO5 (fun q hq=>by subst hq;exact hxn) (Nat.le_refl _)
     clear hK K hst hO5 hx0 hx1 hx2 hx3 hx4 hx5 hx6 hx7 hx8 hx9 hx10 hx11 hx12 hx13 hx14 hx15
     have hHeld:=hHeld2
     clear hHeld2
     try simp only[Act.put,List.setIfInBounds_toArray,List.set_cons_zero,List.set_cons_succ]
     refine wpAnyH_done (by kernel_rfl) ?_ _
     refine then_abs (F:=fun X=>Below W4.heap.size W4 X∧X.cell? ⟨xn,0,none⟩=some (.string KE)) ⟨hbx,z0⟩ ?_
     clear hHeld hbx z0 hFB
     rintro W8 ⟨hb8,xk0⟩
     exact HLEAF xn oa on oc W8 ⟨hxn,hb8,xk0⟩
    case' ofB1 =>
     intro K hK
     obtain⟨hx0,hx1,hx2,hx3,hx4,hx5,hx6,hx7,hx8,hx9,hx10,hx11,hx12,hx13,hx14,hx15⟩:=(id hHeld)
     clear hHeld
     go_simp
     refine hK.out _ _ ⟨bl_cell (bl_alloc (bl_refl _) _) hx0,bl_cell (bl_alloc (bl_refl _) _) hx1,bl_cell (bl_alloc (bl_refl _) _) hx2,bl_cell (bl_alloc (bl_refl _) _) hx3,bl_cell (bl_alloc (bl_refl _) _) hx4,bl_cell (bl_alloc (bl_refl _) _) hx5,bl_cell (bl_alloc (bl_refl _) _) hx6,bl_cell (bl_alloc (bl_refl _) _) hx7,bl_cell (bl_alloc (bl_refl _) _) hx8,bl_cell (bl_alloc (bl_refl _) _) hx9,bl_cell (bl_alloc (bl_refl _) _) hx10,bl_cell (bl_alloc (bl_refl _) _) hx11,bl_cell (bl_alloc (bl_refl _) _) hx12,bl_cell (bl_alloc (bl_refl _) _) hx13,bl_cell (bl_alloc (bl_refl _) _) hx14,bl_cell (bl_alloc (bl_refl _) _) hx15⟩ (fun hHeld2=>?_)
     clear hK K hx0 hx1 hx2 hx3 hx4 hx5 hx6 hx7 hx8 hx9 hx10 hx11 hx12 hx13 hx14 hx15
     have hHeld:=hHeld2
     clear hHeld2
     try simp only[Act.put,List.setIfInBounds_toArray,List.set_cons_zero,List.set_cons_succ]
     have hxn:W4.heap.size≤Y0.heap.size:=hbx.size
     refine wpAnyH_abs (F:=fun X=>Below W4.heap.size W4 X∧FB X Y0.heap.size 11) hHeld ⟨bl_alloc hbx _,fb_new #[.string { data := #[] },.int .i64 0,.int .i64 0,.int .i64 0,.int .i64 0,.int .i64 0,.bool false,.int .i64 0,.int .i64 0,.int .i64 0,.slice none 0 0] _ rfl⟩ ?_
     clear hHeld hbx
     generalize Y0.heap.size=xn at *
     rintro Y25 hHeld ⟨hbx,hFB⟩
     refine callC (i:=5) rfl (fun K hK=>?_)
     obtain⟨hx0,hx1,hx2,hx3,hx4,hx5,hx6,hx7,hx8,hx9,hx10,hx11,hx12,hx13,hx14,hx15⟩:=(id hHeld)
     clear hHeld
     go_simp
     refine(HOF.out _ (HSD.out.to hbx)).mono ?_
     rintro e Y6 ⟨oa,on,oc,rfl,-,-,hb⟩
     have HX:Hid ((fun X=>X.cell? ⟨xb,xo+j*14,none⟩=some (.int .i64 dk)∧X.cell? ⟨xb,xo+j*14+1,none⟩=some (.string KE)∧X.cell? ⟨xb,xo+j*14+2,none⟩=some (.int .i64 ek)∧X.cell? ⟨xb,xo+j*14+3,none⟩=some (.int .i64 el)∧X.cell? ⟨xb,xo+j*14+4,none⟩=some (.int .i64 ed)∧X.cell? ⟨xb,xo+j*14+5,none⟩=some (.int .i64 eb)∧X.cell? ⟨xb,xo+j*14+6,none⟩=some (.int .i64 ec)∧X.cell? ⟨xb,xo+j*14+7,none⟩=some (.bool eo)∧X.cell? ⟨xb,xo+j*14+8,none⟩=some (.int .i64 eat)∧X.cell? ⟨xb,xo+j*14+9,none⟩=some (.int .i64 elev)∧X.cell? ⟨xb,xo+j*14+10,none⟩=some (.int .i64 eheld)∧X.cell? ⟨xb,xo+j*14+11,none⟩=some (.slice ea en ecp)∧X.cell? ⟨xb,xo+j*14+12,none⟩=some (.int .i64 enow)∧X.cell? ⟨xb,xo+j*14+13,none⟩=some (.int .i64 ecost)∧X.cell? ⟨w3.heap.size,0,none⟩=some (.int .i64 ((roomOf room:Nat):Int))∧X.cell? ⟨w3.heap.size,1,none⟩=some (.slice ra Js.length rc)) Y6):=Go.Lib.hid ⟨bl_cell hb hx0,bl_cell hb hx1,bl_cell hb hx2,bl_cell hb hx3,bl_cell hb hx4,bl_cell hb hx5,bl_cell hb hx6,bl_cell hb hx7,bl_cell hb hx8,bl_cell hb hx9,bl_cell hb hx10,bl_cell hb hx11,bl_cell hb hx12,bl_cell hb hx13,bl_cell hb hx14,bl_cell hb hx15⟩
     replace hbx:=bl_then hbx hb
     replace hFB:=fb_bl hFB hb
     clear hb hx0 hx1 hx2 hx3 hx4 hx5 hx6 hx7 hx8 hx9 hx10 hx11 hx12 hx13 hx14 hx15
     have HBX:=Go.Lib.hid hbx
     clear hbx
     go_wp2_with fail
     refine hK.out _ _ HX.out (fun hHeld2=>?_)
     clear hK K HX
     have hHeld:=hHeld2
     clear hHeld2
     have hbx:=HBX.out
     clear HBX
     try simp only[Act.put,List.setIfInBounds_toArray,List.set_cons_zero,List.set_cons_succ]
     refine callC (i:=7) rfl (fun K hK=>?_)
     obtain⟨hx0,hx1,hx2,hx3,hx4,hx5,hx6,hx7,hx8,hx9,hx10,hx11,hx12,hx13,hx14,hx15⟩:=(id hHeld)
     clear hHeld
     obtain⟨W5,hst,⟨z0,-⟩,hO5⟩:=store11 hFB KE pk pl pd pb pc po oat olev oheld oa on oc
     refine sto_wp 59 (Operand.tmp 9) (Operand.tmp 42) (by kernel_rfl) rfl hst ?_
     refine hK.out _ _ ⟨only_cell hO5 hx0 (by omega),only_cell hO5 hx1 (by omega),only_cell hO5 hx2 (by omega),only_cell hO5 hx3 (by omega),only_cell hO5 hx4 (by omega),only_cell hO5 hx5 (by omega),only_cell hO5 hx6 (by omega),only_cell hO5 hx7 (by omega),only_cell hO5 hx8 (by omega),only_cell hO5 hx9 (by omega),only_cell hO5 hx10 (by omega),only_cell hO5 hx11 (by omega),only_cell hO5 hx12 (by omega),only_cell hO5 hx13 (by omega),only_cell hO5 hx14 (by omega),only_cell hO5 hx15 (by omega)⟩ (fun hHeld2=>?_)
     replace hbx:Below W4.heap.size W4 W5:=bl_then2 hbx hO5 (fun q hq=>by subst hq;exact hxn) (Nat.le_refl _)
     clear hK K hst hO5 hx0 hx1 hx2 hx3 hx4 hx5 hx6 hx7 hx8 hx9 hx10 hx11 hx12 hx13 hx14 hx15
     have hHeld:=hHeld2
     clear hHeld2
     try simp only[Act.put,List.setIfInBounds_toArray,List.set_cons_zero,List.set_cons_succ]
     refine wpAnyH_done (by kernel_rfl) ?_ _
     refine then_abs (F:=fun X=>Below W4.heap.size W4 X∧X.cell? ⟨xn,0,none⟩=some (.string KE)) ⟨hbx,z0⟩ ?_
     clear hHeld hbx z0 hFB
     rintro W8 ⟨hb8,xk0⟩
     exact HLEAF xn oa on oc W8 ⟨hxn,hb8,xk0⟩
   rintro xn oa on oc W8 ⟨hxn,hb8,xk0⟩
   all_goals
    have HSD0:=Go.Lib.hid (HSD.out.to hb8)
    have HSW8:=Go.Lib.hid (HSW.out.to hb8)
    have hxp:¬ CF p2 xn:=fun hq=>by have:=cells_lt HSD.out.cells _ hq;omega
    have hxt:xn≠w3.heap.size:=by have:=HSD.out.tlt;omega
    clear HSD HSW HOF hb8 hxn
    have HSD:=HSD0
    clear HSD0
    go_wp2_with fail
    obtain⟨y0,y1,y2,y3,y4,y5,y6,y7,y8,y9,y10,y11,y12,y13⟩:=HY.out
    have x0:=bl_cell HSD.out.bl y0
    have x1:=bl_cell HSD.out.bl y1
    have x2:=bl_cell HSD.out.bl y2
    have x3:=bl_cell HSD.out.bl y3
    have x4:=bl_cell HSD.out.bl y4
    have x5:=bl_cell HSD.out.bl y5
    have x6:=bl_cell HSD.out.bl y6
    have x7:=bl_cell HSD.out.bl y7
    have x8:=bl_cell HSD.out.bl y8
    have x9:=bl_cell HSD.out.bl y9
    have x10:=bl_cell HSD.out.bl y10
    have x11:=bl_cell HSD.out.bl y11
    have x12:=bl_cell HSD.out.bl y12
    have x13:=bl_cell HSD.out.bl y13
    clear y0 y1 y2 y3 y4 y5 y6 y7 y8 y9 y10 y11 y12 y13
    have x14:=HSD.out.t0
    have x15:=HSD.out.t1
    refine wp_region_held_drew (S:=fun X=>X.cell? ⟨xb,xo+j*14,none⟩=some (.int .i64 dk)∧X.cell? ⟨xb,xo+j*14+1,none⟩=some (.string KE)∧X.cell? ⟨xb,xo+j*14+2,none⟩=some (.int .i64 ek)∧X.cell? ⟨xb,xo+j*14+3,none⟩=some (.int .i64 el)∧X.cell? ⟨xb,xo+j*14+4,none⟩=some (.int .i64 ed)∧X.cell? ⟨xb,xo+j*14+5,none⟩=some (.int .i64 eb)∧X.cell? ⟨xb,xo+j*14+6,none⟩=some (.int .i64 ec)∧X.cell? ⟨xb,xo+j*14+7,none⟩=some (.bool eo)∧X.cell? ⟨xb,xo+j*14+8,none⟩=some (.int .i64 eat)∧X.cell? ⟨xb,xo+j*14+9,none⟩=some (.int .i64 elev)∧X.cell? ⟨xb,xo+j*14+10,none⟩=some (.int .i64 eheld)∧X.cell? ⟨xb,xo+j*14+11,none⟩=some (.slice ea en ecp)∧X.cell? ⟨xb,xo+j*14+12,none⟩=some (.int .i64 enow)∧X.cell? ⟨xb,xo+j*14+13,none⟩=some (.int .i64 ecost)∧X.cell? ⟨w3.heap.size,0,none⟩=some (.int .i64 ((roomOf room:Nat):Int))∧X.cell? ⟨w3.heap.size,1,none⟩=some (.slice ra Js.length rc)) (by kernel_rfl) ?_ (fun hHeld=>?_)
    ·exact⟨x0,x1,x2,x3,x4,x5,x6,x7,x8,x9,x10,x11,x12,x13,x14,x15⟩
    try simp only[Act.put,List.setIfInBounds_toArray,List.set_cons_zero,List.set_cons_succ]
    refine wpAnyH_abs (F:=fun X=>Sd w1 X (w3.heap.size) p.b (roomOf room) (j) p2 nx (Js.map (·.x)) (.slice ra Js.length rc) Js∧X.cell? ⟨xn,0,none⟩=some (.string KE)∧Sn X (A1 p2 (w3.heap.size)) (Js.map (·.x)) (.slice a5 N c5) Ks) hHeld ⟨HSD.out.to (bl_drew (bl_refl _)),xk0,HSW8.out.to (bl_drew (bl_refl _))⟩ ?_
    clear hHeld HSD HSW8 xk0 x0 x1 x2 x3 x4 x5 x6 x7 x8 x9 x10 x11 x12 x13 x14 x15
    rintro X0 hHeld ⟨hsd,xk1,hsw⟩
    refine tkx 0 ?_
    refine tkx 1 ?_
    refine tkx 2 ?_
    refine tkx 3 ?_
    refine tkx 4 ?_
    refine tkx 5 ?_
    refine callC (i:=6) rfl (fun K hK=>?_)
    clear hHeld
    go_simp
    refine(HDD.out _ hsd).mono ?_
    rintro e X6 ⟨rfl,p3,nx3,hsd3,hO3⟩
    have xk2:=only_cell hO3.1 xk1 hxp
    have hsw6:=hsw.only hO3.1 (fun q hq => .inl hq)
    have HSW6:=Go.Lib.hid hsw6
    clear xk1 hsw hsw6
    obtain⟨y0,y1,y2,y3,y4,y5,y6,y7,y8,y9,y10,y11,y12,y13⟩:=HY.out
    have x0:=bl_cell hsd3.bl y0
    have x1:=bl_cell hsd3.bl y1
    have x2:=bl_cell hsd3.bl y2
    have x3:=bl_cell hsd3.bl y3
    have x4:=bl_cell hsd3.bl y4
    have x5:=bl_cell hsd3.bl y5
    have x6:=bl_cell hsd3.bl y6
    have x7:=bl_cell hsd3.bl y7
    have x8:=bl_cell hsd3.bl y8
    have x9:=bl_cell hsd3.bl y9
    have x10:=bl_cell hsd3.bl y10
    have x11:=bl_cell hsd3.bl y11
    have x12:=bl_cell hsd3.bl y12
    have x13:=bl_cell hsd3.bl y13
    clear y0 y1 y2 y3 y4 y5 y6 y7 y8 y9 y10 y11 y12 y13
    have x14:=hsd3.t0
    have x15:=hsd3.t1
    have HX:Hid ((fun X=>X.cell? ⟨xb,xo+j*14,none⟩=some (.int .i64 dk)∧X.cell? ⟨xb,xo+j*14+1,none⟩=some (.string KE)∧X.cell? ⟨xb,xo+j*14+2,none⟩=some (.int .i64 ek)∧X.cell? ⟨xb,xo+j*14+3,none⟩=some (.int .i64 el)∧X.cell? ⟨xb,xo+j*14+4,none⟩=some (.int .i64 ed)∧X.cell? ⟨xb,xo+j*14+5,none⟩=some (.int .i64 eb)∧X.cell? ⟨xb,xo+j*14+6,none⟩=some (.int .i64 ec)∧X.cell? ⟨xb,xo+j*14+7,none⟩=some (.bool eo)∧X.cell? ⟨xb,xo+j*14+8,none⟩=some (.int .i64 eat)∧X.cell? ⟨xb,xo+j*14+9,none⟩=some (.int .i64 elev)∧X.cell? ⟨xb,xo+j*14+10,none⟩=some (.int .i64 eheld)∧X.cell? ⟨xb,xo+j*14+11,none⟩=some (.slice ea en ecp)∧X.cell? ⟨xb,xo+j*14+12,none⟩=some (.int .i64 enow)∧X.cell? ⟨xb,xo+j*14+13,none⟩=some (.int .i64 ecost)∧X.cell? ⟨w3.heap.size,0,none⟩=some (.int .i64 ((roomOf room:Nat):Int))∧X.cell? ⟨w3.heap.size,1,none⟩=some (.slice ra Js.length rc)) X6):=Go.Lib.hid ⟨x0,x1,x2,x3,x4,x5,x6,x7,x8,x9,x10,x11,x12,x13,x14,x15⟩
    have HSD3:=Go.Lib.hid hsd3
    clear hsd hsd3 hO3 x0 x1 x2 x3 x4 x5 x6 x7 x8 x9 x10 x11 x12 x13 x14 x15
    go_wp2_with fail
    refine hK.out _ _ HX.out (fun hHeld2=>?_)
    clear hK K
    have hHeld:=hHeld2
    clear hHeld2
    try simp only[Act.put,List.setIfInBounds_toArray,List.set_cons_zero,List.set_cons_succ]
    refine wpAnyH_done (by kernel_rfl) ?_ _
    clear hHeld HX
    go_wp2_with fail
    apply leaves5 (P:=fun(rn:Nat) (a3:Option Addr) (c3:Nat) (F3:List LC) (W9:World)=>Below X6.heap.size X6 W9∧Sn W9 (A2 p3 (w3.heap.size) rn) L2 (.slice a3 F3.length c3) F3∧W9.cell? ⟨rn,0,none⟩=some (.int .i64 ((roomOf room:Nat):Int))∧W9.cell? ⟨rn,1,none⟩=some (.slice a3 F3.length c3))
    case main =>
     intro HLEAF
     obtain⟨y0,y1,y2,y3,y4,y5,y6,y7,y8,y9,y10,y11,y12,y13⟩:=HY.out
     have x0:=bl_cell HSD3.out.bl y0
     have x1:=bl_cell HSD3.out.bl y1
     have x2:=bl_cell HSD3.out.bl y2
     have x3:=bl_cell HSD3.out.bl y3
     have x4:=bl_cell HSD3.out.bl y4
     have x5:=bl_cell HSD3.out.bl y5
     have x6:=bl_cell HSD3.out.bl y6
     have x7:=bl_cell HSD3.out.bl y7
     have x8:=bl_cell HSD3.out.bl y8
     have x9:=bl_cell HSD3.out.bl y9
     have x10:=bl_cell HSD3.out.bl y10
     have x11:=bl_cell HSD3.out.bl y11
     have x12:=bl_cell HSD3.out.bl y12
     have x13:=bl_cell HSD3.out.bl y13
     clear y0 y1 y2 y3 y4 y5 y6 y7 y8 y9 y10 y11 y12 y13
     have x14:=HSD3.out.t0
     have x15:=HSD3.out.t1
     refine wp_region_held_drew (S:=fun X=>X.cell? ⟨xb,xo+j*14,none⟩=some (.int .i64 dk)∧X.cell? ⟨xb,xo+j*14+1,none⟩=some (.string KE)∧X.cell? ⟨xb,xo+j*14+2,none⟩=some (.int .i64 ek)∧X.cell? ⟨xb,xo+j*14+3,none⟩=some (.int .i64 el)∧X.cell? ⟨xb,xo+j*14+4,none⟩=some (.int .i64 ed)∧X.cell? ⟨xb,xo+j*14+5,none⟩=some (.int .i64 eb)∧X.cell? ⟨xb,xo+j*14+6,none⟩=some (.int .i64 ec)∧X.cell? ⟨xb,xo+j*14+7,none⟩=some (.bool eo)∧X.cell? ⟨xb,xo+j*14+8,none⟩=some (.int .i64 eat)∧X.cell? ⟨xb,xo+j*14+9,none⟩=some (.int .i64 elev)∧X.cell? ⟨xb,xo+j*14+10,none⟩=some (.int .i64 eheld)∧X.cell? ⟨xb,xo+j*14+11,none⟩=some (.slice ea en ecp)∧X.cell? ⟨xb,xo+j*14+12,none⟩=some (.int .i64 enow)∧X.cell? ⟨xb,xo+j*14+13,none⟩=some (.int .i64 ecost)∧X.cell? ⟨w3.heap.size,0,none⟩=some (.int .i64 ((roomOf room:Nat):Int))∧X.cell? ⟨w3.heap.size,1,none⟩=some (.slice ra Js.length rc)) (by kernel_rfl) ?_ (fun hHeld=>?_)
     ·exact⟨x0,x1,x2,x3,x4,x5,x6,x7,x8,x9,x10,x11,x12,x13,x14,x15⟩
     try simp only[Act.put,List.setIfInBounds_toArray,List.set_cons_zero,List.set_cons_succ]
     clear x0 x1 x2 x3 x4 x5 x6 x7 x8 x9 x10 x11 x12 x13 x14 x15
     refine wpAnyH_abs (F:=fun X=>Below X6.heap.size X6 X) hHeld (bl_drew (bl_refl _)) ?_
     clear hHeld
     rintro Y0 hHeld hbx
     have hlt0:=HSD3.out.tlt
     have hlt1:xb<X6.heap.size:=by obtain⟨y0,-⟩:=HY.out;have h1:=World.block_lt_of_cell? _ _ y0;have h2:=HSD3.out.bl.size;dsimp only at h1;omega
     refine tkx 0 ?_
     refine tkx 1 ?_
     refine tkx 2 ?_
     refine tkx 3 ?_
     refine tkx 4 ?_
     refine callC2 (i:=5) (j:=9) rfl rfl ?brA1 ?brB1
     case' brA1 =>
      intro K hK
      obtain⟨hx0,hx1,hx2,hx3,hx4,hx5,hx6,hx7,hx8,hx9,hx10,hx11,hx12,hx13,hx14,hx15⟩:=(id hHeld)
      clear hHeld
      go_simp
      refine(HST1.out _ _ _ (HSD3.out.to hbx)).mono ?_
      rintro e Y5 ⟨v3,F3,rfl,hsn,hb⟩
      obtain⟨a3,c3,rfl⟩:=cs_form hsn.row.1
      have HX:Hid ((fun X=>X.cell? ⟨xb,xo+j*14,none⟩=some (.int .i64 dk)∧X.cell? ⟨xb,xo+j*14+1,none⟩=some (.string KE)∧X.cell? ⟨xb,xo+j*14+2,none⟩=some (.int .i64 ek)∧X.cell? ⟨xb,xo+j*14+3,none⟩=some (.int .i64 el)∧X.cell? ⟨xb,xo+j*14+4,none⟩=some (.int .i64 ed)∧X.cell? ⟨xb,xo+j*14+5,none⟩=some (.int .i64 eb)∧X.cell? ⟨xb,xo+j*14+6,none⟩=some (.int .i64 ec)∧X.cell? ⟨xb,xo+j*14+7,none⟩=some (.bool eo)∧X.cell? ⟨xb,xo+j*14+8,none⟩=some (.int .i64 eat)∧X.cell? ⟨xb,xo+j*14+9,none⟩=some (.int .i64 elev)∧X.cell? ⟨xb,xo+j*14+10,none⟩=some (.int .i64 eheld)∧X.cell? ⟨xb,xo+j*14+11,none⟩=some (.slice ea en ecp)∧X.cell? ⟨xb,xo+j*14+12,none⟩=some (.int .i64 enow)∧X.cell? ⟨xb,xo+j*14+13,none⟩=some (.int .i64 ecost)∧X.cell? ⟨w3.heap.size,0,none⟩=some (.int .i64 ((roomOf room:Nat):Int))∧X.cell? ⟨w3.heap.size,1,none⟩=some (.slice ra Js.length rc)) Y5):=Go.Lib.hid ⟨bl_cell hb hx0,bl_cell hb hx1,bl_cell hb hx2,bl_cell hb hx3,bl_cell hb hx4,bl_cell hb hx5,bl_cell hb hx6,bl_cell hb hx7,bl_cell hb hx8,bl_cell hb hx9,bl_cell hb hx10,bl_cell hb hx11,bl_cell hb hx12,bl_cell hb hx13,bl_cell hb hx14,bl_cell hb hx15⟩
      replace hbx:=bl_then hbx hb
      clear hb hx0 hx1 hx2 hx3 hx4 hx5 hx6 hx7 hx8 hx9 hx10 hx11 hx12 hx13 hx14 hx15
      have HSN:=Go.Lib.hid hsn
      have HBX:=Go.Lib.hid hbx
      clear hsn hbx
      go_wp2_with fail
      refine hK.out _ _ HX.out (fun hHeld2=>?_)
      clear hK K HX
      have hHeld:=hHeld2
      clear hHeld2
      have hsn:=HSN.out
      have hbx:=HBX.out
      clear HSN HBX
      try simp only[Act.put,List.setIfInBounds_toArray,List.set_cons_zero,List.set_cons_succ]
      refine tkx 6 ?_
      refine tkx 7 ?_
      refine tkx 8 ?_
      refine callC (i:=9) rfl (fun K hK=>?_)
      obtain⟨hx0,hx1,hx2,hx3,hx4,hx5,hx6,hx7,hx8,hx9,hx10,hx11,hx12,hx13,hx14,hx15⟩:=(id hHeld)
      clear hHeld
      go_simp
      refine hK.out _ _ ⟨bl_cell (bl_alloc (bl_refl _) _) hx0,bl_cell (bl_alloc (bl_refl _) _) hx1,bl_cell (bl_alloc (bl_refl _) _) hx2,bl_cell (bl_alloc (bl_refl _) _) hx3,bl_cell (bl_alloc (bl_refl _) _) hx4,bl_cell (bl_alloc (bl_refl _) _) hx5,bl_cell (bl_alloc (bl_refl _) _) hx6,bl_cell (bl_alloc (bl_refl _) _) hx7,bl_cell (bl_alloc (bl_refl _) _) hx8,bl_cell (bl_alloc (bl_refl _) _) hx9,bl_cell (bl_alloc (bl_refl _) _) hx10,bl_cell (bl_alloc (bl_refl _) _) hx11,bl_cell (bl_alloc (bl_refl _) _) hx12,bl_cell (bl_alloc (bl_refl _) _) hx13,bl_cell (bl_alloc (bl_refl _) _) hx14,bl_cell (bl_alloc (bl_refl _) _) hx15⟩ (fun hHeld2=>?_)
      clear hK K hx0 hx1 hx2 hx3 hx4 hx5 hx6 hx7 hx8 hx9 hx10 hx11 hx12 hx13 hx14 hx15
      have hHeld:=hHeld2
      clear hHeld2
      try simp only[Act.put,List.setIfInBounds_toArray,List.set_cons_zero,List.set_cons_succ]
      have hrn:X6.heap.size≤Y5.heap.size:=hbx.size
      refine wpAnyH_abs (F:=fun X=>Below X6.heap.size X6 X∧Sn X (A2 p3 (w3.heap.size) Y5.heap.size) L2 (.slice a3 F3.length c3) F3∧X.cell? ⟨Y5.heap.size,0,none⟩=some (.int .i64 0)∧X.cell? ⟨Y5.heap.size,1,none⟩=some (.slice none 0 0)∧FB X Y5.heap.size 2∧Y5.heap.size<X.heap.size) hHeld ⟨bl_alloc hbx _,(hsn.new (Nat.le_refl _)).to (bl_alloc (bl_refl _) _),by simp,by simp,fb_new #[_,_] _ rfl,by simp⟩ ?_
      clear hHeld hbx hsn
      generalize Y5.heap.size=rn at *
      rintro Y29 hHeld ⟨hbx,hsn,z0,z1,hFB,hrn2⟩
      refine callC (i:=10) rfl (fun K hK=>?_)
      obtain⟨hx0,hx1,hx2,hx3,hx4,hx5,hx6,hx7,hx8,hx9,hx10,hx11,hx12,hx13,hx14,hx15⟩:=(id hHeld)
      clear hHeld
      obtain⟨⟨-,f0⟩,⟨-,f1⟩⟩:=And.intro (hFB 0 (by omega)) (hFB 1 (by omega))
      go_simp
      refine hK.out _ _ ⟨far_set (far_set hx0 _ _ (by dsimp only;omega)) _ _ (by dsimp only;omega),far_set (far_set hx1 _ _ (by dsimp only;omega)) _ _ (by dsimp only;omega),far_set (far_set hx2 _ _ (by dsimp only;omega)) _ _ (by dsimp only;omega),far_set (far_set hx3 _ _ (by dsimp only;omega)) _ _ (by dsimp only;omega),far_set (far_set hx4 _ _ (by dsimp only;omega)) _ _ (by dsimp only;omega),far_set (far_set hx5 _ _ (by dsimp only;omega)) _ _ (by dsimp only;omega),far_set (far_set hx6 _ _ (by dsimp only;omega)) _ _ (by dsimp only;omega),far_set (far_set hx7 _ _ (by dsimp only;omega)) _ _ (by dsimp only;omega),far_set (far_set hx8 _ _ (by dsimp only;omega)) _ _ (by dsimp only;omega),far_set (far_set hx9 _ _ (by dsimp only;omega)) _ _ (by dsimp only;omega),far_set (far_set hx10 _ _ (by dsimp only;omega)) _ _ (by dsimp only;omega),far_set (far_set hx11 _ _ (by dsimp only;omega)) _ _ (by dsimp only;omega),far_set (far_set hx12 _ _ (by dsimp only;omega)) _ _ (by dsimp only;omega),far_set (far_set hx13 _ _ (by dsimp only;omega)) _ _ (by dsimp only;omega),far_set (far_set hx14 _ _ (by dsimp only;omega)) _ _ (by dsimp only;omega),far_set (far_set hx15 _ _ (by dsimp only;omega)) _ _ (by dsimp only;omega)⟩ (fun hHeld2=>?_)
      replace hbx:=bl_set (bl_set hbx (a:=⟨rn,0,none⟩) hrn (.int .i64 ((roomOf room:Nat):Int))) (a:=⟨rn,1,none⟩) hrn (.slice a3 F3.length c3)
      replace hsn:=(hsn.set (rn:=rn) (.inr rfl) 0 (.int .i64 ((roomOf room:Nat):Int))).set (rn:=rn) (.inr rfl) 1 (.slice a3 F3.length c3)
      obtain⟨z0,z1⟩:=set2b (v0:=.int .i64 ((roomOf room:Nat):Int)) (v1:=.slice a3 F3.length c3) z0 z1
      clear hK K f0 f1 hx0 hx1 hx2 hx3 hx4 hx5 hx6 hx7 hx8 hx9 hx10 hx11 hx12 hx13 hx14 hx15
      have hHeld:=hHeld2
      clear hHeld2
      try simp only[Act.put,List.setIfInBounds_toArray,List.set_cons_zero,List.set_cons_succ]
      refine tkx 11 ?_
      refine wpAnyH_done (by kernel_rfl) ?_ _
      refine then_abs (F:=fun X=>Below X6.heap.size X6 X∧Sn X (A2 p3 (w3.heap.size) rn) L2 (.slice a3 F3.length c3) F3∧X.cell? ⟨rn,0,none⟩=some (.int .i64 ((roomOf room:Nat):Int))∧X.cell? ⟨rn,1,none⟩=some (.slice a3 F3.length c3)) ⟨hbx,hsn,z0,z1⟩ ?_
      clear hHeld hbx hsn z0 z1 hFB
      rintro W9 ⟨hbx,hsn,u0,u1⟩
      exact HLEAF rn a3 c3 F3 W9 ⟨hbx,hsn,u0,u1⟩
     case' brB1 =>
      intro K hK
      obtain⟨hx0,hx1,hx2,hx3,hx4,hx5,hx6,hx7,hx8,hx9,hx10,hx11,hx12,hx13,hx14,hx15⟩:=(id hHeld)
      clear hHeld
      go_simp
      refine hK.out _ _ ⟨bl_cell (bl_alloc (bl_refl _) _) hx0,bl_cell (bl_alloc (bl_refl _) _) hx1,bl_cell (bl_alloc (bl_refl _) _) hx2,bl_cell (bl_alloc (bl_refl _) _) hx3,bl_cell (bl_alloc (bl_refl _) _) hx4,bl_cell (bl_alloc (bl_refl _) _) hx5,bl_cell (bl_alloc (bl_refl _) _) hx6,bl_cell (bl_alloc (bl_refl _) _) hx7,bl_cell (bl_alloc (bl_refl _) _) hx8,bl_cell (bl_alloc (bl_refl _) _) hx9,bl_cell (bl_alloc (bl_refl _) _) hx10,bl_cell (bl_alloc (bl_refl _) _) hx11,bl_cell (bl_alloc (bl_refl _) _) hx12,bl_cell (bl_alloc (bl_refl _) _) hx13,bl_cell (bl_alloc (bl_refl _) _) hx14,bl_cell (bl_alloc (bl_refl _) _) hx15⟩ (fun hHeld2=>?_)
      clear hK K hx0 hx1 hx2 hx3 hx4 hx5 hx6 hx7 hx8 hx9 hx10 hx11 hx12 hx13 hx14 hx15
      have hHeld:=hHeld2
      clear hHeld2
      try simp only[Act.put,List.setIfInBounds_toArray,List.set_cons_zero,List.set_cons_succ]
      have hrn:X6.heap.size≤Y0.heap.size:=hbx.size
      refine wpAnyH_abs (F:=fun X=>Below X6.heap.size X6 X∧X.cell? ⟨Y0.heap.size,0,none⟩=some (.int .i64 0)∧X.cell? ⟨Y0.heap.size,1,none⟩=some (.slice none 0 0)∧FB X Y0.heap.size 2∧Y0.heap.size<X.heap.size) hHeld ⟨bl_alloc hbx _,by simp,by simp,fb_new #[_,_] _ rfl,by simp⟩ ?_
      clear hHeld hbx
      generalize Y0.heap.size=rn at *
      rintro Y25 hHeld ⟨hbx,z0,z1,hFB,hrn2⟩
      refine callC (i:=5) rfl (fun K hK=>?_)
      obtain⟨hx0,hx1,hx2,hx3,hx4,hx5,hx6,hx7,hx8,hx9,hx10,hx11,hx12,hx13,hx14,hx15⟩:=(id hHeld)
      clear hHeld
      go_simp
      refine(HST2.out _ _ _ HSD3.out _ hbx rn hrn hrn2).mono ?_
      rintro e Y6 ⟨v3,F3,rfl,hsn,hb⟩
      obtain⟨a3,c3,rfl⟩:=cs_form hsn.row.1
      have HX:Hid ((fun X=>X.cell? ⟨xb,xo+j*14,none⟩=some (.int .i64 dk)∧X.cell? ⟨xb,xo+j*14+1,none⟩=some (.string KE)∧X.cell? ⟨xb,xo+j*14+2,none⟩=some (.int .i64 ek)∧X.cell? ⟨xb,xo+j*14+3,none⟩=some (.int .i64 el)∧X.cell? ⟨xb,xo+j*14+4,none⟩=some (.int .i64 ed)∧X.cell? ⟨xb,xo+j*14+5,none⟩=some (.int .i64 eb)∧X.cell? ⟨xb,xo+j*14+6,none⟩=some (.int .i64 ec)∧X.cell? ⟨xb,xo+j*14+7,none⟩=some (.bool eo)∧X.cell? ⟨xb,xo+j*14+8,none⟩=some (.int .i64 eat)∧X.cell? ⟨xb,xo+j*14+9,none⟩=some (.int .i64 elev)∧X.cell? ⟨xb,xo+j*14+10,none⟩=some (.int .i64 eheld)∧X.cell? ⟨xb,xo+j*14+11,none⟩=some (.slice ea en ecp)∧X.cell? ⟨xb,xo+j*14+12,none⟩=some (.int .i64 enow)∧X.cell? ⟨xb,xo+j*14+13,none⟩=some (.int .i64 ecost)∧X.cell? ⟨w3.heap.size,0,none⟩=some (.int .i64 ((roomOf room:Nat):Int))∧X.cell? ⟨w3.heap.size,1,none⟩=some (.slice ra Js.length rc)) Y6):=Go.Lib.hid ⟨bl_cell hb hx0,bl_cell hb hx1,bl_cell hb hx2,bl_cell hb hx3,bl_cell hb hx4,bl_cell hb hx5,bl_cell hb hx6,bl_cell hb hx7,bl_cell hb hx8,bl_cell hb hx9,bl_cell hb hx10,bl_cell hb hx11,bl_cell hb hx12,bl_cell hb hx13,bl_cell hb hx14,bl_cell hb hx15⟩
      replace hbx:=bl_then hbx hb
      replace z0:=bl_cell hb z0
      replace z1:=bl_cell hb z1
      replace hFB:=fb_bl hFB hb
      replace hrn2:=Nat.lt_of_lt_of_le hrn2 hb.size
      clear hb hx0 hx1 hx2 hx3 hx4 hx5 hx6 hx7 hx8 hx9 hx10 hx11 hx12 hx13 hx14 hx15
      have HSN:=Go.Lib.hid hsn
      have HBX:=Go.Lib.hid hbx
      clear hsn hbx
      go_wp2_with fail
      refine hK.out _ _ HX.out (fun hHeld2=>?_)
      clear hK K HX
      have hHeld:=hHeld2
      clear hHeld2
      have hsn:=HSN.out
      have hbx:=HBX.out
      clear HSN HBX
      try simp only[Act.put,List.setIfInBounds_toArray,List.set_cons_zero,List.set_cons_succ]
      refine tkx 6 ?_
      refine tkx 7 ?_
      refine tkx 8 ?_
      refine callC (i:=10) rfl (fun K hK=>?_)
      obtain⟨hx0,hx1,hx2,hx3,hx4,hx5,hx6,hx7,hx8,hx9,hx10,hx11,hx12,hx13,hx14,hx15⟩:=(id hHeld)
      clear hHeld
      obtain⟨⟨-,f0⟩,⟨-,f1⟩⟩:=And.intro (hFB 0 (by omega)) (hFB 1 (by omega))
      go_simp
      refine hK.out _ _ ⟨far_set (far_set hx0 _ _ (by dsimp only;omega)) _ _ (by dsimp only;omega),far_set (far_set hx1 _ _ (by dsimp only;omega)) _ _ (by dsimp only;omega),far_set (far_set hx2 _ _ (by dsimp only;omega)) _ _ (by dsimp only;omega),far_set (far_set hx3 _ _ (by dsimp only;omega)) _ _ (by dsimp only;omega),far_set (far_set hx4 _ _ (by dsimp only;omega)) _ _ (by dsimp only;omega),far_set (far_set hx5 _ _ (by dsimp only;omega)) _ _ (by dsimp only;omega),far_set (far_set hx6 _ _ (by dsimp only;omega)) _ _ (by dsimp only;omega),far_set (far_set hx7 _ _ (by dsimp only;omega)) _ _ (by dsimp only;omega),far_set (far_set hx8 _ _ (by dsimp only;omega)) _ _ (by dsimp only;omega),far_set (far_set hx9 _ _ (by dsimp only;omega)) _ _ (by dsimp only;omega),far_set (far_set hx10 _ _ (by dsimp only;omega)) _ _ (by dsimp only;omega),far_set (far_set hx11 _ _ (by dsimp only;omega)) _ _ (by dsimp only;omega),far_set (far_set hx12 _ _ (by dsimp only;omega)) _ _ (by dsimp only;omega),far_set (far_set hx13 _ _ (by dsimp only;omega)) _ _ (by dsimp only;omega),far_set (far_set hx14 _ _ (by dsimp only;omega)) _ _ (by dsimp only;omega),far_set (far_set hx15 _ _ (by dsimp only;omega)) _ _ (by dsimp only;omega)⟩ (fun hHeld2=>?_)
      replace hbx:=bl_set (bl_set hbx (a:=⟨rn,0,none⟩) hrn (.int .i64 ((roomOf room:Nat):Int))) (a:=⟨rn,1,none⟩) hrn (.slice a3 F3.length c3)
      replace hsn:=(hsn.set (rn:=rn) (.inr rfl) 0 (.int .i64 ((roomOf room:Nat):Int))).set (rn:=rn) (.inr rfl) 1 (.slice a3 F3.length c3)
      obtain⟨z0,z1⟩:=set2b (v0:=.int .i64 ((roomOf room:Nat):Int)) (v1:=.slice a3 F3.length c3) z0 z1
      clear hK K f0 f1 hx0 hx1 hx2 hx3 hx4 hx5 hx6 hx7 hx8 hx9 hx10 hx11 hx12 hx13 hx14 hx15
      have hHeld:=hHeld2
      clear hHeld2
      try simp only[Act.put,List.setIfInBounds_toArray,List.set_cons_zero,List.set_cons_succ]
      refine tkx 11 ?_
      refine wpAnyH_done (by kernel_rfl) ?_ _
      refine then_abs (F:=fun X=>Below X6.heap.size X6 X∧Sn X (A2 p3 (w3.heap.size) rn) L2 (.slice a3 F3.length c3) F3∧X.cell? ⟨rn,0,none⟩=some (.int .i64 ((roomOf room:Nat):Int))∧X.cell? ⟨rn,1,none⟩=some (.slice a3 F3.length c3)) ⟨hbx,hsn,z0,z1⟩ ?_
      clear hHeld hbx hsn z0 z1 hFB
      rintro W9 ⟨hbx,hsn,u0,u1⟩
      exact HLEAF rn a3 c3 F3 W9 ⟨hbx,hsn,u0,u1⟩
    rintro rn a3 c3 F3 W9 ⟨hbx,hsn,u0,u1⟩
   all_goals
    have xk4:=bl_cell hbx xk2
    have hsw9:=HSW6.out.to hbx
    have hsw10:=(hsw9.set (rn:=w3.heap.size) (.inr rfl) 0 (.int .i64 ((roomOf room:Nat):Int))).set (rn:=w3.heap.size) (.inr rfl) 1 (.slice a3 F3.length c3)
    have HSW10:=Go.Lib.hid hsw10
    have xk5:=far_set (a:=⟨w3.heap.size,1,none⟩) (far_set (a:=⟨w3.heap.size,0,none⟩) xk4 (.int .i64 ((roomOf room:Nat):Int)) (by dsimp only;omega)) (.slice a3 F3.length c3) (by dsimp only;omega)
    clear hsw9 hsw10 xk2 xk4 HSW6
    have hsd4:=HSD3.out.to hbx
    obtain⟨⟨-,tf0⟩,⟨-,tf1⟩⟩:=And.intro (hsd4.tR 0 (by omega)) (hsd4.tR 1 (by omega))
    have t0:=hsd4.t0
    have t1:=hsd4.t1
    have hsd5:=hsd4.put hsn (fun q hq => .inl hq)
    have HSD5:=Go.Lib.hid hsd5
    have HMAP:=Go.Lib.hid hsn.map
    clear hsd4 hsd5 hsn hbx HSD3
    go_wp2_with fail
    clear tf0 tf1 t0 t1 u0 u1
    refine calls_abs (S0:=fun X=>(Sd w1 X (w3.heap.size) p.b (roomOf room) (j+1) p3 nx3 (F3.map (·.x)) (.slice a3 F3.length c3) F3)∧CRow X 0 (.slice a5 N c5) Ks∧X.cell? ⟨xn,0,none⟩=some (.string KE)) ⟨HSD5.out,HSW10.out.row,xk5⟩ ?_
    have HMK:=Go.Lib.hid HSW10.out.map
    clear HSD5 HSW10 xk5
    rintro Wa ⟨hsda,hrowa,xka⟩
    have HSDA:=Go.Lib.hid hsda
    have HROW:=Go.Lib.hid hrowa
    have HXK:=Go.Lib.hid xka
    have hle:=sd_len hsda
    simp only[List.length_map] at hle
    have hroom:¬ room<(F3.length:Int):=by have h1:=(cells_room hsda.cells).1;rw[List.length_map] at h1;have h2:((roomOf room:Nat):Int)≤room:=by { unfold roomOf;omega };omega
    have HLE:=Go.Lib.hid hle
    clear hsda hrowa xka hle
    refine HLE.out.mono ?_
    rintro e Wb ⟨rfl,hbb⟩
    have HBB:=Go.Lib.hid hbb
    clear hbb HLE
    go_wp2_with fail
    go_loopw [12] (fun s12 wq=>∃ k:Nat,s12=.int .i64 k∧k≤N∧Hid (Below Wa.heap.size Wa wq)) (fun s12 _=>N - (intOf s12).toNat)
    case atStart=>exact⟨0,rfl,Nat.zero_le _,HBB.out⟩
    case round =>
     obtain⟨k,rfl,hk,H⟩:=hrel
     have hB:=H.out
     clear H
     by_cases hkN:k<N
     ·obtain ⟨i,hik⟩:∃ i,Ks[k]?=some i:=⟨Ks[k]'(by rw[← HN.out];omega),List.getElem?_eq_getElem _⟩
      obtain⟨g,cap,e,rc0,rc1,rc2,rc3,rc4,rc5,rc6,rc7,rc8,rc9,rc10⟩:=crow_at (crow_bl HROW.out hB) hik
      injection e with e1 e2 e3
      subst e1 e3
      have k0:(0:Int)≤(k:Int):=by omega
      have k1:(k:Int)<(N:Int):=by omega
      have HIK:=Go.Lib.hid hik
      clear hik e2
      have hms2:N - (k+1)<N - k:=by omega
      have hkE:KE.data.toList=ekey:=by rw[← HKE.out];exact ktx_list ekey
      have hkey:=ktx_eq i.x.key KE
      rw[hkE] at hkey
      have hfr:=fun W hW=>rfresh_any i.x i.a i.n i.c enow W hW
      obtain⟨RF,hRF⟩:∃ RF,RF=cFresh enow i.x:=⟨_,rfl⟩
      rw[← hRF] at hfr
      have hin:i.x ∈ Js.map (·.x):=by rw[← HMK.out];exact List.mem_map.2 ⟨i,List.mem_of_getElem? HIK.out,rfl⟩
      have hkl:=HKP.out i.x hin
      rw[← hRF] at hkl
      have hop:cOpen i.x=(i.x.pol.opn && decide (i.x.st.held=0)):=rfl
      rw[hop] at hkl
      have hlk:=fun W (h:Sd w1 W (w3.heap.size) p.b (roomOf room) (j+1) p3 nx3 (F3.map (·.x)) (.slice a3 F3.length c3) F3)=>sd_look (ktx i.x.key) i.x.pol enow h (by rw[ktx_size];exact HSHORT.out _ hin) (by omega)
      simp only[ktx_list] at hlk
      have hmp:=HMAP.out
      rw[← hmp] at hkl
      obtain⟨LS,hLS⟩:∃ z,z=cLook (F3.map (·.x)) i.x.key i.x.pol enow:=⟨_,rfl⟩
      rw[← hLS] at hkl
      simp only[← hLS] at hlk
      clear hLS hmp hop hin
      have hlog:=(crow_bl HROW.out hB).2 i (List.mem_of_getElem? HIK.out)
      have hss:=fun a1 a2 n k1 k2 W h1 h2=>same_yes i.x.st a1 a2 n k1 k2 W h1 h2
      obtain⟨⟨key,⟨kk,l,d,b,cc,o⟩,⟨at_,level,held,LG⟩⟩,a,n,c⟩:=i
      unfold Cl.v at *
      dsimp only at *
      obtain⟨lat,llev,lheld,LLG⟩:=LS
      unfold St.v Pol.v at *
      dsimp only at *
      have HLG4:=Go.Lib.hid hlog
      have HRF:=Go.Lib.hid hRF
      clear hlog hRF
      have HFR:=Go.Lib.hid hfr
      have HKL:=Go.Lib.hid hkl
      have HLK:=Go.Lib.hid hlk
      have HSS:=Go.Lib.hid hss
      clear hfr hkl hlk hss
      have hsdb:=HSDA.out.to hB
      have xkb:=bl_cell hB HXK.out
      obtain⟨y0,y1,y2,y3,y4,y5,y6,y7,y8,y9,y10,y11,y12,y13⟩:=HY.out
      have x12:=bl_cell hsdb.bl y12
      clear y0 y1 y2 y3 y4 y5 y6 y7 y8 y9 y10 y11 y12 y13
      have HSDB:=Go.Lib.hid hsdb
      clear hsdb
      have hcase:(key=ekey)∨(¬ key=ekey∧RF=true)∨(¬ key=ekey∧RF=false∧o=true∧held=0)∨(¬ key=ekey∧RF=false∧o=true∧¬ held=0)∨(¬ key=ekey∧RF=false∧o=false):=by by_cases h1:key=ekey <;> cases RF <;> cases o <;> by_cases h2:held=0 <;> simp[h1,h2]
      rcases hcase with he|⟨he,hr⟩|⟨he,hr,ho,hh⟩|⟨he,hr,ho,hh⟩|⟨he,hr,ho⟩
      ·rw[decide_eq_true he] at hkey
       have HE:=Go.Lib.hid he
       clear he
       generalize ktx key=KY at *
       go_wp2_with fail
       refine wp_abs (S0:=fun X=>(Sd w1 X (w3.heap.size) p.b (roomOf room) (j+1) p3 nx3 (F3.map (·.x)) (.slice a3 F3.length c3) F3)∧Below Wa.heap.size Wa X∧LogAt X a n c LG∧X.cell? ⟨xn,0,none⟩=some (.string KE)∧X.cell? ⟨xb,xo+j*14+12,none⟩=some (.int .i64 enow)∧X.cell? ⟨wr.heap.size,0,none⟩=some (.string KY)∧X.cell? ⟨wr.heap.size,1,none⟩=some (.int .i64 kk)∧X.cell? ⟨wr.heap.size,2,none⟩=some (.int .i64 l)∧X.cell? ⟨wr.heap.size,3,none⟩=some (.int .i64 d)∧X.cell? ⟨wr.heap.size,4,none⟩=some (.int .i64 b)∧X.cell? ⟨wr.heap.size,5,none⟩=some (.int .i64 cc)∧X.cell? ⟨wr.heap.size,6,none⟩=some (.bool o)∧X.cell? ⟨wr.heap.size,7,none⟩=some (.int .i64 at_)∧X.cell? ⟨wr.heap.size,8,none⟩=some (.int .i64 level)∧X.cell? ⟨wr.heap.size,9,none⟩=some (.int .i64 held)∧X.cell? ⟨wr.heap.size,10,none⟩=some (.slice a n c)) ⟨HSDB.out.to (bl_alloc (bl_refl _) _),bl_alloc hB _,log_bl HLG4.out (bl_alloc (bl_refl _) _),bl_cell (bl_alloc (bl_refl _) _) xkb,bl_cell (bl_alloc (bl_refl _) _) x12,by go_simp,by go_simp,by go_simp,by go_simp,by go_simp,by go_simp,by go_simp,by go_simp,by go_simp,by go_simp,by go_simp⟩ ?_
       clear rc0 rc1 rc2 rc3 rc4 rc5 rc6 rc7 rc8 rc9 rc10 xkb x12
       rintro Wd ⟨hsd,hbw,hlog,xk0,x12,wb0,wb1,wb2,wb3,wb4,wb5,wb6,wb7,wb8,wb9,wb10⟩
       clear hB
       have hB:=bl_then HB1.out hsd.bl
       refine wp_region_held_drew (S:=fun w'=>Sd w1 w' (w3.heap.size) p.b (roomOf room) (j+1) p3 nx3 (F3.map (·.x)) (.slice a3 F3.length c3) F3∧Below Wa.heap.size Wa w'∧LogAt w' a n c LG∧w'.cell? ⟨xn,0,none⟩=some (.string KE)∧w'.cell? ⟨xb,xo+j*14+12,none⟩=some (.int .i64 enow)∧w'.cell? ⟨wr.heap.size,0,none⟩=some (.string KY)∧w'.cell? ⟨wr.heap.size,1,none⟩=some (.int .i64 kk)∧w'.cell? ⟨wr.heap.size,2,none⟩=some (.int .i64 l)∧w'.cell? ⟨wr.heap.size,3,none⟩=some (.int .i64 d)∧w'.cell? ⟨wr.heap.size,4,none⟩=some (.int .i64 b)∧w'.cell? ⟨wr.heap.size,5,none⟩=some (.int .i64 cc)∧w'.cell? ⟨wr.heap.size,6,none⟩=some (.bool o)∧w'.cell? ⟨wr.heap.size,7,none⟩=some (.int .i64 at_)∧w'.cell? ⟨wr.heap.size,8,none⟩=some (.int .i64 level)∧w'.cell? ⟨wr.heap.size,9,none⟩=some (.int .i64 held)∧w'.cell? ⟨wr.heap.size,10,none⟩=some (.slice a n c)∧Below w.heap.size w w') (by kernel_rfl) ?_ (fun hHeld=>?_)
       ·exact⟨(hsd.to (bl_drew (bl_refl _))),(bl_drew hbw),(log_bl hlog (bl_drew (bl_refl _))),xk0,x12,wb0,wb1,wb2,wb3,wb4,wb5,wb6,wb7,wb8,wb9,wb10,bl_drew hB⟩
       try simp only[Act.put,List.setIfInBounds_toArray,List.set_cons_zero,List.set_cons_succ]
       refine tkx 0 ?_
       refine tkx 1 ?_
       refine tkx 2 ?_
       refine tkx 3 ?_
       refine tkx 4 ?_
       refine tkx 5 ?_
       first|refine tqx 6 ?_|refine tkx 6 ?_
       first|refine tqx 7 ?_|refine tkx 7 ?_
       first|refine tqx 8 ?_|refine tkx 8 ?_
       first|refine tqx 9 ?_|refine tkx 9 ?_
       first|refine tqx 10 ?_|refine tkx 10 ?_
       first|refine tqx 11 ?_|refine tkx 11 ?_
       first|(refine tqx 12 ?_)|(refine callC (i:=12) rfl (fun K hK=>?_);obtain⟨h_hsd,h_hbw,h_hlog,h_xk0,h_x12,h_wb0,h_wb1,h_wb2,h_wb3,h_wb4,h_wb5,h_wb6,h_wb7,h_wb8,h_wb9,h_wb10,h_B⟩:=(id hHeld);go_simp;refine(HFR.out _ h_hlog).mono ?_;rintro e w9 ⟨rfl,hb⟩;go_wp2_with fail;refine hK.out _ _ ?_ (fun hHeld2=>?_);(focus((try dsimp only);exact⟨Sd.to h_hsd hb,bl_then h_hbw hb,log_bl h_hlog hb,bl_cell hb h_xk0,bl_cell hb h_x12,bl_cell hb h_wb0,bl_cell hb h_wb1,bl_cell hb h_wb2,bl_cell hb h_wb3,bl_cell hb h_wb4,bl_cell hb h_wb5,bl_cell hb h_wb6,bl_cell hb h_wb7,bl_cell hb h_wb8,bl_cell hb h_wb9,bl_cell hb h_wb10,bl_then h_B hb⟩));clear hHeld hK K;have hHeld:=hHeld2;clear hHeld2 h_hsd h_hbw h_hlog h_xk0 h_x12 h_wb0 h_wb1 h_wb2 h_wb3 h_wb4 h_wb5 h_wb6 h_wb7 h_wb8 h_wb9 h_wb10 h_B;try simp only[Act.put,List.setIfInBounds_toArray,List.set_cons_zero,List.set_cons_succ])
       refine tkx 13 ?_
       refine tkx 14 ?_
       first|refine tqx 15 ?_|refine tkx 15 ?_
       first|refine tqx 16 ?_|refine tkx 16 ?_
       first|refine tqx 17 ?_|refine tkx 17 ?_
       first|refine tqx 18 ?_|refine tkx 18 ?_
       first|refine tqx 19 ?_|refine tkx 19 ?_
       first|refine tqx 20 ?_|refine tkx 20 ?_
       first|refine tqx 21 ?_|refine tkx 21 ?_
       first|refine tqx 22 ?_|refine tkx 22 ?_
       first|refine tqx 23 ?_|refine tkx 23 ?_
       refine tkx 24 ?_
       refine wpAnyH_done (by kernel_rfl) ?_ _
       refine then_abs (F:=fun w'=>Sd w1 w' (w3.heap.size) p.b (roomOf room) (j+1) p3 nx3 (F3.map (·.x)) (.slice a3 F3.length c3) F3∧Below Wa.heap.size Wa w'∧LogAt w' a n c LG∧w'.cell? ⟨xn,0,none⟩=some (.string KE)∧w'.cell? ⟨xb,xo+j*14+12,none⟩=some (.int .i64 enow)∧w'.cell? ⟨wr.heap.size,0,none⟩=some (.string KY)∧w'.cell? ⟨wr.heap.size,1,none⟩=some (.int .i64 kk)∧w'.cell? ⟨wr.heap.size,2,none⟩=some (.int .i64 l)∧w'.cell? ⟨wr.heap.size,3,none⟩=some (.int .i64 d)∧w'.cell? ⟨wr.heap.size,4,none⟩=some (.int .i64 b)∧w'.cell? ⟨wr.heap.size,5,none⟩=some (.int .i64 cc)∧w'.cell? ⟨wr.heap.size,6,none⟩=some (.bool o)∧w'.cell? ⟨wr.heap.size,7,none⟩=some (.int .i64 at_)∧w'.cell? ⟨wr.heap.size,8,none⟩=some (.int .i64 level)∧w'.cell? ⟨wr.heap.size,9,none⟩=some (.int .i64 held)∧w'.cell? ⟨wr.heap.size,10,none⟩=some (.slice a n c)∧Below w.heap.size w w') hHeld ?_
       clear hHeld hB hsd hbw hlog xk0 x12 wb0 wb1 wb2 wb3 wb4 wb5 wb6 wb7 wb8 wb9 wb10
       rintro w61 ⟨hsd,hbw,hlog,xk0,x12,wb0,wb1,wb2,wb3,wb4,wb5,wb6,wb7,wb8,wb9,wb10,hB⟩
       have lb_xk:=lbc xk0
       have lb_wb:=lbc wb0
       have lb_wb1:=lbc wb10
       go_wp2_with fail
       go_roundw
       case rel=>exact⟨k+1,by go_num,by omega,hbw⟩
       case measure=>(simp[intOf];first|exact hms2|omega)
      ·rw[decide_eq_false he] at hkey
       subst hr
       have HE:=Go.Lib.hid he
       clear he
       generalize ktx key=KY at *
       go_wp2_with fail
       refine wp_abs (S0:=fun X=>(Sd w1 X (w3.heap.size) p.b (roomOf room) (j+1) p3 nx3 (F3.map (·.x)) (.slice a3 F3.length c3) F3)∧Below Wa.heap.size Wa X∧LogAt X a n c LG∧X.cell? ⟨xn,0,none⟩=some (.string KE)∧X.cell? ⟨xb,xo+j*14+12,none⟩=some (.int .i64 enow)∧X.cell? ⟨wr.heap.size,0,none⟩=some (.string KY)∧X.cell? ⟨wr.heap.size,1,none⟩=some (.int .i64 kk)∧X.cell? ⟨wr.heap.size,2,none⟩=some (.int .i64 l)∧X.cell? ⟨wr.heap.size,3,none⟩=some (.int .i64 d)∧X.cell? ⟨wr.heap.size,4,none⟩=some (.int .i64 b)∧X.cell? ⟨wr.heap.size,5,none⟩=some (.int .i64 cc)∧X.cell? ⟨wr.heap.size,6,none⟩=some (.bool o)∧X.cell? ⟨wr.heap.size,7,none⟩=some (.int .i64 at_)∧X.cell? ⟨wr.heap.size,8,none⟩=some (.int .i64 level)∧X.cell? ⟨wr.heap.size,9,none⟩=some (.int .i64 held)∧X.cell? ⟨wr.heap.size,10,none⟩=some (.slice a n c)) ⟨HSDB.out.to (bl_alloc (bl_refl _) _),bl_alloc hB _,log_bl HLG4.out (bl_alloc (bl_refl _) _),bl_cell (bl_alloc (bl_refl _) _) xkb,bl_cell (bl_alloc (bl_refl _) _) x12,by go_simp,by go_simp,by go_simp,by go_simp,by go_simp,by go_simp,by go_simp,by go_simp,by go_simp,by go_simp,by go_simp⟩ ?_
       clear rc0 rc1 rc2 rc3 rc4 rc5 rc6 rc7 rc8 rc9 rc10 xkb x12
       rintro Wd ⟨hsd,hbw,hlog,xk0,x12,wb0,wb1,wb2,wb3,wb4,wb5,wb6,wb7,wb8,wb9,wb10⟩
       clear hB
       have hB:=bl_then HB1.out hsd.bl
       refine wp_region_held_drew (S:=fun w'=>Sd w1 w' (w3.heap.size) p.b (roomOf room) (j+1) p3 nx3 (F3.map (·.x)) (.slice a3 F3.length c3) F3∧Below Wa.heap.size Wa w'∧LogAt w' a n c LG∧w'.cell? ⟨xn,0,none⟩=some (.string KE)∧w'.cell? ⟨xb,xo+j*14+12,none⟩=some (.int .i64 enow)∧w'.cell? ⟨wr.heap.size,0,none⟩=some (.string KY)∧w'.cell? ⟨wr.heap.size,1,none⟩=some (.int .i64 kk)∧w'.cell? ⟨wr.heap.size,2,none⟩=some (.int .i64 l)∧w'.cell? ⟨wr.heap.size,3,none⟩=some (.int .i64 d)∧w'.cell? ⟨wr.heap.size,4,none⟩=some (.int .i64 b)∧w'.cell? ⟨wr.heap.size,5,none⟩=some (.int .i64 cc)∧w'.cell? ⟨wr.heap.size,6,none⟩=some (.bool o)∧w'.cell? ⟨wr.heap.size,7,none⟩=some (.int .i64 at_)∧w'.cell? ⟨wr.heap.size,8,none⟩=some (.int .i64 level)∧w'.cell? ⟨wr.heap.size,9,none⟩=some (.int .i64 held)∧w'.cell? ⟨wr.heap.size,10,none⟩=some (.slice a n c)∧Below w.heap.size w w') (by kernel_rfl) ?_ (fun hHeld=>?_)
       ·exact⟨(hsd.to (bl_drew (bl_refl _))),(bl_drew hbw),(log_bl hlog (bl_drew (bl_refl _))),xk0,x12,wb0,wb1,wb2,wb3,wb4,wb5,wb6,wb7,wb8,wb9,wb10,bl_drew hB⟩
       try simp only[Act.put,List.setIfInBounds_toArray,List.set_cons_zero,List.set_cons_succ]
       refine tkx 0 ?_
       refine tkx 1 ?_
       refine tkx 2 ?_
       refine tkx 3 ?_
       refine tkx 4 ?_
       refine tkx 5 ?_
       first|refine tqx 6 ?_|refine tkx 6 ?_
       first|refine tqx 7 ?_|refine tkx 7 ?_
       first|refine tqx 8 ?_|refine tkx 8 ?_
       first|refine tqx 9 ?_|refine tkx 9 ?_
       first|refine tqx 10 ?_|refine tkx 10 ?_
       first|refine tqx 11 ?_|refine tkx 11 ?_
       first|(refine tqx 12 ?_)|(refine callC (i:=12) rfl (fun K hK=>?_);obtain⟨h_hsd,h_hbw,h_hlog,h_xk0,h_x12,h_wb0,h_wb1,h_wb2,h_wb3,h_wb4,h_wb5,h_wb6,h_wb7,h_wb8,h_wb9,h_wb10,h_B⟩:=(id hHeld);go_simp;refine(HFR.out _ h_hlog).mono ?_;rintro e w9 ⟨rfl,hb⟩;go_wp2_with fail;refine hK.out _ _ ?_ (fun hHeld2=>?_);(focus((try dsimp only);exact⟨Sd.to h_hsd hb,bl_then h_hbw hb,log_bl h_hlog hb,bl_cell hb h_xk0,bl_cell hb h_x12,bl_cell hb h_wb0,bl_cell hb h_wb1,bl_cell hb h_wb2,bl_cell hb h_wb3,bl_cell hb h_wb4,bl_cell hb h_wb5,bl_cell hb h_wb6,bl_cell hb h_wb7,bl_cell hb h_wb8,bl_cell hb h_wb9,bl_cell hb h_wb10,bl_then h_B hb⟩));clear hHeld hK K;have hHeld:=hHeld2;clear hHeld2 h_hsd h_hbw h_hlog h_xk0 h_x12 h_wb0 h_wb1 h_wb2 h_wb3 h_wb4 h_wb5 h_wb6 h_wb7 h_wb8 h_wb9 h_wb10 h_B;try simp only[Act.put,List.setIfInBounds_toArray,List.set_cons_zero,List.set_cons_succ])
       refine tkx 13 ?_
       refine tkx 14 ?_
       first|refine tqx 15 ?_|refine tkx 15 ?_
       first|refine tqx 16 ?_|refine tkx 16 ?_
       first|refine tqx 17 ?_|refine tkx 17 ?_
       first|refine tqx 18 ?_|refine tkx 18 ?_
       first|refine tqx 19 ?_|refine tkx 19 ?_
       first|refine tqx 20 ?_|refine tkx 20 ?_
       first|refine tqx 21 ?_|refine tkx 21 ?_
       first|refine tqx 22 ?_|refine tkx 22 ?_
       first|refine tqx 23 ?_|refine tkx 23 ?_
       refine tkx 24 ?_
       refine wpAnyH_done (by kernel_rfl) ?_ _
       refine then_abs (F:=fun w'=>Sd w1 w' (w3.heap.size) p.b (roomOf room) (j+1) p3 nx3 (F3.map (·.x)) (.slice a3 F3.length c3) F3∧Below Wa.heap.size Wa w'∧LogAt w' a n c LG∧w'.cell? ⟨xn,0,none⟩=some (.string KE)∧w'.cell? ⟨xb,xo+j*14+12,none⟩=some (.int .i64 enow)∧w'.cell? ⟨wr.heap.size,0,none⟩=some (.string KY)∧w'.cell? ⟨wr.heap.size,1,none⟩=some (.int .i64 kk)∧w'.cell? ⟨wr.heap.size,2,none⟩=some (.int .i64 l)∧w'.cell? ⟨wr.heap.size,3,none⟩=some (.int .i64 d)∧w'.cell? ⟨wr.heap.size,4,none⟩=some (.int .i64 b)∧w'.cell? ⟨wr.heap.size,5,none⟩=some (.int .i64 cc)∧w'.cell? ⟨wr.heap.size,6,none⟩=some (.bool o)∧w'.cell? ⟨wr.heap.size,7,none⟩=some (.int .i64 at_)∧w'.cell? ⟨wr.heap.size,8,none⟩=some (.int .i64 level)∧w'.cell? ⟨wr.heap.size,9,none⟩=some (.int .i64 held)∧w'.cell? ⟨wr.heap.size,10,none⟩=some (.slice a n c)∧Below w.heap.size w w') hHeld ?_
       clear hHeld hB hsd hbw hlog xk0 x12 wb0 wb1 wb2 wb3 wb4 wb5 wb6 wb7 wb8 wb9 wb10
       rintro w71 ⟨hsd,hbw,hlog,xk0,x12,wb0,wb1,wb2,wb3,wb4,wb5,wb6,wb7,wb8,wb9,wb10,hB⟩
       have lb_xk:=lbc xk0
       have lb_wb:=lbc wb0
       have lb_wb1:=lbc wb10
       go_wp2_with fail
       go_roundw
       case rel=>exact⟨k+1,by go_num,by omega,hbw⟩
       case measure=>(simp[intOf];first|exact hms2|omega)
      ·rw[decide_eq_false he] at hkey
       subst hr
       subst ho
       subst hh
       have HE:=Go.Lib.hid he
       clear he
       generalize ktx key=KY at *
       go_wp2_with fail
       refine wp_abs (S0:=fun X=>(Sd w1 X (w3.heap.size) p.b (roomOf room) (j+1) p3 nx3 (F3.map (·.x)) (.slice a3 F3.length c3) F3)∧Below Wa.heap.size Wa X∧LogAt X a n c LG∧X.cell? ⟨xn,0,none⟩=some (.string KE)∧X.cell? ⟨xb,xo+j*14+12,none⟩=some (.int .i64 enow)∧X.cell? ⟨wr.heap.size,0,none⟩=some (.string KY)∧X.cell? ⟨wr.heap.size,1,none⟩=some (.int .i64 kk)∧X.cell? ⟨wr.heap.size,2,none⟩=some (.int .i64 l)∧X.cell? ⟨wr.heap.size,3,none⟩=some (.int .i64 d)∧X.cell? ⟨wr.heap.size,4,none⟩=some (.int .i64 b)∧X.cell? ⟨wr.heap.size,5,none⟩=some (.int .i64 cc)∧X.cell? ⟨wr.heap.size,6,none⟩=some (.bool true)∧X.cell? ⟨wr.heap.size,7,none⟩=some (.int .i64 at_)∧X.cell? ⟨wr.heap.size,8,none⟩=some (.int .i64 level)∧X.cell? ⟨wr.heap.size,9,none⟩=some (.int .i64 0)∧X.cell? ⟨wr.heap.size,10,none⟩=some (.slice a n c)) ⟨HSDB.out.to (bl_alloc (bl_refl _) _),bl_alloc hB _,log_bl HLG4.out (bl_alloc (bl_refl _) _),bl_cell (bl_alloc (bl_refl _) _) xkb,bl_cell (bl_alloc (bl_refl _) _) x12,by go_simp,by go_simp,by go_simp,by go_simp,by go_simp,by go_simp,by go_simp,by go_simp,by go_simp,by go_simp,by go_simp⟩ ?_
       clear rc0 rc1 rc2 rc3 rc4 rc5 rc6 rc7 rc8 rc9 rc10 xkb x12
       rintro Wd ⟨hsd,hbw,hlog,xk0,x12,wb0,wb1,wb2,wb3,wb4,wb5,wb6,wb7,wb8,wb9,wb10⟩
       clear hB
       have hB:=bl_then HB1.out hsd.bl
       refine wp_region_held_drew (S:=fun w'=>Sd w1 w' (w3.heap.size) p.b (roomOf room) (j+1) p3 nx3 (F3.map (·.x)) (.slice a3 F3.length c3) F3∧Below Wa.heap.size Wa w'∧LogAt w' a n c LG∧w'.cell? ⟨xn,0,none⟩=some (.string KE)∧w'.cell? ⟨xb,xo+j*14+12,none⟩=some (.int .i64 enow)∧w'.cell? ⟨wr.heap.size,0,none⟩=some (.string KY)∧w'.cell? ⟨wr.heap.size,1,none⟩=some (.int .i64 kk)∧w'.cell? ⟨wr.heap.size,2,none⟩=some (.int .i64 l)∧w'.cell? ⟨wr.heap.size,3,none⟩=some (.int .i64 d)∧w'.cell? ⟨wr.heap.size,4,none⟩=some (.int .i64 b)∧w'.cell? ⟨wr.heap.size,5,none⟩=some (.int .i64 cc)∧w'.cell? ⟨wr.heap.size,6,none⟩=some (.bool true)∧w'.cell? ⟨wr.heap.size,7,none⟩=some (.int .i64 at_)∧w'.cell? ⟨wr.heap.size,8,none⟩=some (.int .i64 level)∧w'.cell? ⟨wr.heap.size,9,none⟩=some (.int .i64 0)∧w'.cell? ⟨wr.heap.size,10,none⟩=some (.slice a n c)∧Below w.heap.size w w') (by kernel_rfl) ?_ (fun hHeld=>?_)
       ·exact⟨(hsd.to (bl_drew (bl_refl _))),(bl_drew hbw),(log_bl hlog (bl_drew (bl_refl _))),xk0,x12,wb0,wb1,wb2,wb3,wb4,wb5,wb6,wb7,wb8,wb9,wb10,bl_drew hB⟩
       try simp only[Act.put,List.setIfInBounds_toArray,List.set_cons_zero,List.set_cons_succ]
       refine tkx 0 ?_
       refine tkx 1 ?_
       refine tkx 2 ?_
       refine tkx 3 ?_
       refine tkx 4 ?_
       refine tkx 5 ?_
       first|refine tqx 6 ?_|refine tkx 6 ?_
       first|refine tqx 7 ?_|refine tkx 7 ?_
       first|refine tqx 8 ?_|refine tkx 8 ?_
       first|refine tqx 9 ?_|refine tkx 9 ?_
       first|refine tqx 10 ?_|refine tkx 10 ?_
       first|refine tqx 11 ?_|refine tkx 11 ?_
       first|(refine tqx 12 ?_)|(refine callC (i:=12) rfl (fun K hK=>?_);obtain⟨h_hsd,h_hbw,h_hlog,h_xk0,h_x12,h_wb0,h_wb1,h_wb2,h_wb3,h_wb4,h_wb5,h_wb6,h_wb7,h_wb8,h_wb9,h_wb10,h_B⟩:=(id hHeld);go_simp;refine(HFR.out _ h_hlog).mono ?_;rintro e w9 ⟨rfl,hb⟩;go_wp2_with fail;refine hK.out _ _ ?_ (fun hHeld2=>?_);(focus((try dsimp only);exact⟨Sd.to h_hsd hb,bl_then h_hbw hb,log_bl h_hlog hb,bl_cell hb h_xk0,bl_cell hb h_x12,bl_cell hb h_wb0,bl_cell hb h_wb1,bl_cell hb h_wb2,bl_cell hb h_wb3,bl_cell hb h_wb4,bl_cell hb h_wb5,bl_cell hb h_wb6,bl_cell hb h_wb7,bl_cell hb h_wb8,bl_cell hb h_wb9,bl_cell hb h_wb10,bl_then h_B hb⟩));clear hHeld hK K;have hHeld:=hHeld2;clear hHeld2 h_hsd h_hbw h_hlog h_xk0 h_x12 h_wb0 h_wb1 h_wb2 h_wb3 h_wb4 h_wb5 h_wb6 h_wb7 h_wb8 h_wb9 h_wb10 h_B;try simp only[Act.put,List.setIfInBounds_toArray,List.set_cons_zero,List.set_cons_succ])
       refine tkx 13 ?_
       refine tkx 14 ?_
       first|refine tqx 15 ?_|refine tkx 15 ?_
       first|refine tqx 16 ?_|refine tkx 16 ?_
       first|refine tqx 17 ?_|refine tkx 17 ?_
       first|refine tqx 18 ?_|refine tkx 18 ?_
       first|refine tqx 19 ?_|refine tkx 19 ?_
       first|refine tqx 20 ?_|refine tkx 20 ?_
       first|refine tqx 21 ?_|refine tkx 21 ?_
       first|refine tqx 22 ?_|refine tkx 22 ?_
       first|refine tqx 23 ?_|refine tkx 23 ?_
       refine tkx 24 ?_
       refine wpAnyH_done (by kernel_rfl) ?_ _
       refine then_abs (F:=fun w'=>Sd w1 w' (w3.heap.size) p.b (roomOf room) (j+1) p3 nx3 (F3.map (·.x)) (.slice a3 F3.length c3) F3∧Below Wa.heap.size Wa w'∧LogAt w' a n c LG∧w'.cell? ⟨xn,0,none⟩=some (.string KE)∧w'.cell? ⟨xb,xo+j*14+12,none⟩=some (.int .i64 enow)∧w'.cell? ⟨wr.heap.size,0,none⟩=some (.string KY)∧w'.cell? ⟨wr.heap.size,1,none⟩=some (.int .i64 kk)∧w'.cell? ⟨wr.heap.size,2,none⟩=some (.int .i64 l)∧w'.cell? ⟨wr.heap.size,3,none⟩=some (.int .i64 d)∧w'.cell? ⟨wr.heap.size,4,none⟩=some (.int .i64 b)∧w'.cell? ⟨wr.heap.size,5,none⟩=some (.int .i64 cc)∧w'.cell? ⟨wr.heap.size,6,none⟩=some (.bool true)∧w'.cell? ⟨wr.heap.size,7,none⟩=some (.int .i64 at_)∧w'.cell? ⟨wr.heap.size,8,none⟩=some (.int .i64 level)∧w'.cell? ⟨wr.heap.size,9,none⟩=some (.int .i64 0)∧w'.cell? ⟨wr.heap.size,10,none⟩=some (.slice a n c)∧Below w.heap.size w w') hHeld ?_
       clear hHeld hB hsd hbw hlog xk0 x12 wb0 wb1 wb2 wb3 wb4 wb5 wb6 wb7 wb8 wb9 wb10
       rintro w81 ⟨hsd,hbw,hlog,xk0,x12,wb0,wb1,wb2,wb3,wb4,wb5,wb6,wb7,wb8,wb9,wb10,hB⟩
       have lb_xk:=lbc xk0
       have lb_wb:=lbc wb0
       have lb_wb1:=lbc wb10
       go_wp2_with fail
       go_roundw
       case rel=>exact⟨k+1,by go_num,by omega,hbw⟩
       case measure=>(simp[intOf];first|exact hms2|omega)
      ·rw[decide_eq_false he] at hkey
       subst hr
       subst ho
       have hhd:=decide_eq_false hh
       have HE:=Go.Lib.hid he
       clear he
       generalize ktx key=KY at *
       go_wp2_with fail
       refine wp_abs (S0:=fun X=>(Sd w1 X (w3.heap.size) p.b (roomOf room) (j+1) p3 nx3 (F3.map (·.x)) (.slice a3 F3.length c3) F3)∧Below Wa.heap.size Wa X∧LogAt X a n c LG∧X.cell? ⟨xn,0,none⟩=some (.string KE)∧X.cell? ⟨xb,xo+j*14+12,none⟩=some (.int .i64 enow)∧X.cell? ⟨wr.heap.size,0,none⟩=some (.string KY)∧X.cell? ⟨wr.heap.size,1,none⟩=some (.int .i64 kk)∧X.cell? ⟨wr.heap.size,2,none⟩=some (.int .i64 l)∧X.cell? ⟨wr.heap.size,3,none⟩=some (.int .i64 d)∧X.cell? ⟨wr.heap.size,4,none⟩=some (.int .i64 b)∧X.cell? ⟨wr.heap.size,5,none⟩=some (.int .i64 cc)∧X.cell? ⟨wr.heap.size,6,none⟩=some (.bool true)∧X.cell? ⟨wr.heap.size,7,none⟩=some (.int .i64 at_)∧X.cell? ⟨wr.heap.size,8,none⟩=some (.int .i64 level)∧X.cell? ⟨wr.heap.size,9,none⟩=some (.int .i64 held)∧X.cell? ⟨wr.heap.size,10,none⟩=some (.slice a n c)) ⟨HSDB.out.to (bl_alloc (bl_refl _) _),bl_alloc hB _,log_bl HLG4.out (bl_alloc (bl_refl _) _),bl_cell (bl_alloc (bl_refl _) _) xkb,bl_cell (bl_alloc (bl_refl _) _) x12,by go_simp,by go_simp,by go_simp,by go_simp,by go_simp,by go_simp,by go_simp,by go_simp,by go_simp,by go_simp,by go_simp⟩ ?_
       clear rc0 rc1 rc2 rc3 rc4 rc5 rc6 rc7 rc8 rc9 rc10 xkb x12
       rintro Wd ⟨hsd,hbw,hlog,xk0,x12,wb0,wb1,wb2,wb3,wb4,wb5,wb6,wb7,wb8,wb9,wb10⟩
       clear hB
       have hB:=bl_then HB1.out hsd.bl
       refine wp_region_held_drew (S:=fun w'=>Sd w1 w' (w3.heap.size) p.b (roomOf room) (j+1) p3 nx3 (F3.map (·.x)) (.slice a3 F3.length c3) F3∧Below Wa.heap.size Wa w'∧LogAt w' a n c LG∧w'.cell? ⟨xn,0,none⟩=some (.string KE)∧w'.cell? ⟨xb,xo+j*14+12,none⟩=some (.int .i64 enow)∧w'.cell? ⟨wr.heap.size,0,none⟩=some (.string KY)∧w'.cell? ⟨wr.heap.size,1,none⟩=some (.int .i64 kk)∧w'.cell? ⟨wr.heap.size,2,none⟩=some (.int .i64 l)∧w'.cell? ⟨wr.heap.size,3,none⟩=some (.int .i64 d)∧w'.cell? ⟨wr.heap.size,4,none⟩=some (.int .i64 b)∧w'.cell? ⟨wr.heap.size,5,none⟩=some (.int .i64 cc)∧w'.cell? ⟨wr.heap.size,6,none⟩=some (.bool true)∧w'.cell? ⟨wr.heap.size,7,none⟩=some (.int .i64 at_)∧w'.cell? ⟨wr.heap.size,8,none⟩=some (.int .i64 level)∧w'.cell? ⟨wr.heap.size,9,none⟩=some (.int .i64 held)∧w'.cell? ⟨wr.heap.size,10,none⟩=some (.slice a n c)∧Below w.heap.size w w') (by kernel_rfl) ?_ (fun hHeld=>?_)
       ·exact⟨(hsd.to (bl_drew (bl_refl _))),(bl_drew hbw),(log_bl hlog (bl_drew (bl_refl _))),xk0,x12,wb0,wb1,wb2,wb3,wb4,wb5,wb6,wb7,wb8,wb9,wb10,bl_drew hB⟩
       try simp only[Act.put,List.setIfInBounds_toArray,List.set_cons_zero,List.set_cons_succ]
       refine tkx 0 ?_
       refine tkx 1 ?_
       refine tkx 2 ?_
       refine tkx 3 ?_
       refine tkx 4 ?_
       refine tkx 5 ?_
       first|refine tqx 6 ?_|refine tkx 6 ?_
       first|refine tqx 7 ?_|refine tkx 7 ?_
       first|refine tqx 8 ?_|refine tkx 8 ?_
       first|refine tqx 9 ?_|refine tkx 9 ?_
       first|refine tqx 10 ?_|refine tkx 10 ?_
       first|refine tqx 11 ?_|refine tkx 11 ?_
       first|(refine tqx 12 ?_)|(refine callC (i:=12) rfl (fun K hK=>?_);obtain⟨h_hsd,h_hbw,h_hlog,h_xk0,h_x12,h_wb0,h_wb1,h_wb2,h_wb3,h_wb4,h_wb5,h_wb6,h_wb7,h_wb8,h_wb9,h_wb10,h_B⟩:=(id hHeld);go_simp;refine(HFR.out _ h_hlog).mono ?_;rintro e w9 ⟨rfl,hb⟩;go_wp2_with fail;refine hK.out _ _ ?_ (fun hHeld2=>?_);(focus((try dsimp only);exact⟨Sd.to h_hsd hb,bl_then h_hbw hb,log_bl h_hlog hb,bl_cell hb h_xk0,bl_cell hb h_x12,bl_cell hb h_wb0,bl_cell hb h_wb1,bl_cell hb h_wb2,bl_cell hb h_wb3,bl_cell hb h_wb4,bl_cell hb h_wb5,bl_cell hb h_wb6,bl_cell hb h_wb7,bl_cell hb h_wb8,bl_cell hb h_wb9,bl_cell hb h_wb10,bl_then h_B hb⟩));clear hHeld hK K;have hHeld:=hHeld2;clear hHeld2 h_hsd h_hbw h_hlog h_xk0 h_x12 h_wb0 h_wb1 h_wb2 h_wb3 h_wb4 h_wb5 h_wb6 h_wb7 h_wb8 h_wb9 h_wb10 h_B;try simp only[Act.put,List.setIfInBounds_toArray,List.set_cons_zero,List.set_cons_succ])
       refine tkx 13 ?_
       refine tkx 14 ?_
       first|refine tqx 15 ?_|refine tkx 15 ?_
       first|refine tqx 16 ?_|refine tkx 16 ?_
       first|refine tqx 17 ?_|refine tkx 17 ?_
       first|refine tqx 18 ?_|refine tkx 18 ?_
       first|refine tqx 19 ?_|refine tkx 19 ?_
       first|refine tqx 20 ?_|refine tkx 20 ?_
       first|refine tqx 21 ?_|refine tkx 21 ?_
       (refine tk (i:=22) (v:=.bool false) rfl rfl hHeld ?_ (by intro w hSw;(try dsimp only at hSw);go_simp <;> simp[hh]))
       first|refine tqx 23 ?_|refine tkx 23 ?_
       refine tkx 24 ?_
       refine wpAnyH_done (by kernel_rfl) ?_ _
       refine then_abs (F:=fun w'=>Sd w1 w' (w3.heap.size) p.b (roomOf room) (j+1) p3 nx3 (F3.map (·.x)) (.slice a3 F3.length c3) F3∧Below Wa.heap.size Wa w'∧LogAt w' a n c LG∧w'.cell? ⟨xn,0,none⟩=some (.string KE)∧w'.cell? ⟨xb,xo+j*14+12,none⟩=some (.int .i64 enow)∧w'.cell? ⟨wr.heap.size,0,none⟩=some (.string KY)∧w'.cell? ⟨wr.heap.size,1,none⟩=some (.int .i64 kk)∧w'.cell? ⟨wr.heap.size,2,none⟩=some (.int .i64 l)∧w'.cell? ⟨wr.heap.size,3,none⟩=some (.int .i64 d)∧w'.cell? ⟨wr.heap.size,4,none⟩=some (.int .i64 b)∧w'.cell? ⟨wr.heap.size,5,none⟩=some (.int .i64 cc)∧w'.cell? ⟨wr.heap.size,6,none⟩=some (.bool true)∧w'.cell? ⟨wr.heap.size,7,none⟩=some (.int .i64 at_)∧w'.cell? ⟨wr.heap.size,8,none⟩=some (.int .i64 level)∧w'.cell? ⟨wr.heap.size,9,none⟩=some (.int .i64 held)∧w'.cell? ⟨wr.heap.size,10,none⟩=some (.slice a n c)∧Below w.heap.size w w') hHeld ?_
       clear hHeld hB hsd hbw hlog xk0 x12 wb0 wb1 wb2 wb3 wb4 wb5 wb6 wb7 wb8 wb9 wb10
       rintro w91 ⟨hsd,hbw,hlog,xk0,x12,wb0,wb1,wb2,wb3,wb4,wb5,wb6,wb7,wb8,wb9,wb10,hB⟩
       have lb_xk:=lbc xk0
       have lb_wb:=lbc wb0
       have lb_wb1:=lbc wb10
       go_wp2_with fail
       have hlq:(⟨lat,llev,lheld,LLG⟩:St)=⟨at_,level,held,LG⟩:=HKL.out HE.out (by trivial) (by simp[hh])
       injection hlq with e1 e2 e3 e4
       subst e1 e2 e3 e4
       refine wp_region_held_drew (S:=fun w'=>Sd w1 w' (w3.heap.size) p.b (roomOf room) (j+1) p3 nx3 (F3.map (·.x)) (.slice a3 F3.length c3) F3∧Below Wa.heap.size Wa w'∧LogAt w' a n c LLG∧w'.cell? ⟨xn,0,none⟩=some (.string KE)∧w'.cell? ⟨xb,xo+j*14+12,none⟩=some (.int .i64 enow)∧w'.cell? ⟨wr.heap.size,0,none⟩=some (.string KY)∧w'.cell? ⟨wr.heap.size,1,none⟩=some (.int .i64 kk)∧w'.cell? ⟨wr.heap.size,2,none⟩=some (.int .i64 l)∧w'.cell? ⟨wr.heap.size,3,none⟩=some (.int .i64 d)∧w'.cell? ⟨wr.heap.size,4,none⟩=some (.int .i64 b)∧w'.cell? ⟨wr.heap.size,5,none⟩=some (.int .i64 cc)∧w'.cell? ⟨wr.heap.size,6,none⟩=some (.bool true)∧w'.cell? ⟨wr.heap.size,7,none⟩=some (.int .i64 lat)∧w'.cell? ⟨wr.heap.size,8,none⟩=some (.int .i64 llev)∧w'.cell? ⟨wr.heap.size,9,none⟩=some (.int .i64 lheld)∧w'.cell? ⟨wr.heap.size,10,none⟩=some (.slice a n c)∧Below w.heap.size w w') (by kernel_rfl) ?_ (fun hHeld=>?_)
       ·exact⟨(hsd.to (bl_drew (bl_refl _))),(bl_drew hbw),(log_bl hlog (bl_drew (bl_refl _))),xk0,x12,wb0,wb1,wb2,wb3,wb4,wb5,wb6,wb7,wb8,wb9,wb10,bl_drew hB⟩
       try simp only[Act.put,List.setIfInBounds_toArray,List.set_cons_zero,List.set_cons_succ]
       refine tkx 0 ?_
       refine tkx 1 ?_
       refine tkx 2 ?_
       refine tkx 3 ?_
       refine tkx 4 ?_
       refine tkx 5 ?_
       refine tkx 6 ?_
       refine tkx 7 ?_
       refine tkx 8 ?_
       refine tkx 9 ?_
       refine tkx 11 ?_
       refine tkx 12 ?_
       (refine callC (i:=10) rfl (fun K hK=>?_);obtain⟨h_hsd,h_hbw,h_hlog,h_xk0,h_x12,h_wb0,h_wb1,h_wb2,h_wb3,h_wb4,h_wb5,h_wb6,h_wb7,h_wb8,h_wb9,h_wb10,h_B⟩:=(id hHeld);go_simp;refine(HLK.out _ h_hsd).mono ?_;rintro e w9 ⟨a7,n7,c7,rfl,hg7,hb⟩;have hn7:n=n7:=h_hlog.1.symm.trans hg7.1;subst hn7;go_wp2_with fail;refine hK.out _ _ ?_ (fun hHeld2=>?_);(focus((try dsimp only);exact⟨Sd.to h_hsd hb,bl_then h_hbw hb,log_bl h_hlog hb,bl_cell hb h_xk0,bl_cell hb h_x12,bl_cell hb h_wb0,bl_cell hb h_wb1,bl_cell hb h_wb2,bl_cell hb h_wb3,bl_cell hb h_wb4,bl_cell hb h_wb5,bl_cell hb h_wb6,bl_cell hb h_wb7,bl_cell hb h_wb8,bl_cell hb h_wb9,bl_cell hb h_wb10,bl_then h_B hb⟩));clear hHeld hK K;have hHeld:=hHeld2;clear hHeld2 h_hsd h_hbw h_hlog h_xk0 h_x12 h_wb0 h_wb1 h_wb2 h_wb3 h_wb4 h_wb5 h_wb6 h_wb7 h_wb8 h_wb9 h_wb10 h_B;try simp only[Act.put,List.setIfInBounds_toArray,List.set_cons_zero,List.set_cons_succ])
       (refine callC (i:=13) rfl (fun K hK=>?_);obtain⟨h_hsd,h_hbw,h_hlog,h_xk0,h_x12,h_wb0,h_wb1,h_wb2,h_wb3,h_wb4,h_wb5,h_wb6,h_wb7,h_wb8,h_wb9,h_wb10,h_B⟩:=(id hHeld);go_simp;refine(HSS.out _ _ _ _ _ _ hg7 h_hlog).mono ?_;rintro e w9 ⟨rfl,hb⟩;go_wp2_with fail;refine hK.out _ _ ?_ (fun hHeld2=>?_);(focus((try dsimp only);exact⟨Sd.to h_hsd hb,bl_then h_hbw hb,log_bl h_hlog hb,bl_cell hb h_xk0,bl_cell hb h_x12,bl_cell hb h_wb0,bl_cell hb h_wb1,bl_cell hb h_wb2,bl_cell hb h_wb3,bl_cell hb h_wb4,bl_cell hb h_wb5,bl_cell hb h_wb6,bl_cell hb h_wb7,bl_cell hb h_wb8,bl_cell hb h_wb9,bl_cell hb h_wb10,bl_then h_B hb⟩));clear hHeld hK K;have hHeld:=hHeld2;clear hHeld2 h_hsd h_hbw h_hlog h_xk0 h_x12 h_wb0 h_wb1 h_wb2 h_wb3 h_wb4 h_wb5 h_wb6 h_wb7 h_wb8 h_wb9 h_wb10 h_B;try simp only[Act.put,List.setIfInBounds_toArray,List.set_cons_zero,List.set_cons_succ])
       refine tkx 14 ?_
       refine wpAnyH_done (by kernel_rfl) ?_ _
       refine then_abs (F:=fun w'=>Sd w1 w' (w3.heap.size) p.b (roomOf room) (j+1) p3 nx3 (F3.map (·.x)) (.slice a3 F3.length c3) F3∧Below Wa.heap.size Wa w'∧LogAt w' a n c LLG∧w'.cell? ⟨xn,0,none⟩=some (.string KE)∧w'.cell? ⟨xb,xo+j*14+12,none⟩=some (.int .i64 enow)∧w'.cell? ⟨wr.heap.size,0,none⟩=some (.string KY)∧w'.cell? ⟨wr.heap.size,1,none⟩=some (.int .i64 kk)∧w'.cell? ⟨wr.heap.size,2,none⟩=some (.int .i64 l)∧w'.cell? ⟨wr.heap.size,3,none⟩=some (.int .i64 d)∧w'.cell? ⟨wr.heap.size,4,none⟩=some (.int .i64 b)∧w'.cell? ⟨wr.heap.size,5,none⟩=some (.int .i64 cc)∧w'.cell? ⟨wr.heap.size,6,none⟩=some (.bool true)∧w'.cell? ⟨wr.heap.size,7,none⟩=some (.int .i64 lat)∧w'.cell? ⟨wr.heap.size,8,none⟩=some (.int .i64 llev)∧w'.cell? ⟨wr.heap.size,9,none⟩=some (.int .i64 lheld)∧w'.cell? ⟨wr.heap.size,10,none⟩=some (.slice a n c)∧Below w.heap.size w w') hHeld ?_
       clear hHeld hB hsd hbw hlog xk0 x12 wb0 wb1 wb2 wb3 wb4 wb5 wb6 wb7 wb8 wb9 wb10
       rintro w92 ⟨hsd,hbw,hlog,xk0,x12,wb0,wb1,wb2,wb3,wb4,wb5,wb6,wb7,wb8,wb9,wb10,hB⟩
       replace lb_xk:=lbc xk0
       replace lb_wb:=lbc wb0
       replace lb_wb1:=lbc wb10
       go_wp2_with fail
       go_roundw
       case rel=>exact⟨k+1,by go_num,by omega,hbw⟩
       case measure=>(simp[intOf];first|exact hms2|omega)
      ·rw[decide_eq_false he] at hkey
       subst hr
       subst ho
       have HE:=Go.Lib.hid he
       clear he
       generalize ktx key=KY at *
       go_wp2_with fail
       refine wp_abs (S0:=fun X=>(Sd w1 X (w3.heap.size) p.b (roomOf room) (j+1) p3 nx3 (F3.map (·.x)) (.slice a3 F3.length c3) F3)∧Below Wa.heap.size Wa X∧LogAt X a n c LG∧X.cell? ⟨xn,0,none⟩=some (.string KE)∧X.cell? ⟨xb,xo+j*14+12,none⟩=some (.int .i64 enow)∧X.cell? ⟨wr.heap.size,0,none⟩=some (.string KY)∧X.cell? ⟨wr.heap.size,1,none⟩=some (.int .i64 kk)∧X.cell? ⟨wr.heap.size,2,none⟩=some (.int .i64 l)∧X.cell? ⟨wr.heap.size,3,none⟩=some (.int .i64 d)∧X.cell? ⟨wr.heap.size,4,none⟩=some (.int .i64 b)∧X.cell? ⟨wr.heap.size,5,none⟩=some (.int .i64 cc)∧X.cell? ⟨wr.heap.size,6,none⟩=some (.bool false)∧X.cell? ⟨wr.heap.size,7,none⟩=some (.int .i64 at_)∧X.cell? ⟨wr.heap.size,8,none⟩=some (.int .i64 level)∧X.cell? ⟨wr.heap.size,9,none⟩=some (.int .i64 held)∧X.cell? ⟨wr.heap.size,10,none⟩=some (.slice a n c)) ⟨HSDB.out.to (bl_alloc (bl_refl _) _),bl_alloc hB _,log_bl HLG4.out (bl_alloc (bl_refl _) _),bl_cell (bl_alloc (bl_refl _) _) xkb,bl_cell (bl_alloc (bl_refl _) _) x12,by go_simp,by go_simp,by go_simp,by go_simp,by go_simp,by go_simp,by go_simp,by go_simp,by go_simp,by go_simp,by go_simp⟩ ?_
       clear rc0 rc1 rc2 rc3 rc4 rc5 rc6 rc7 rc8 rc9 rc10 xkb x12
       rintro Wd ⟨hsd,hbw,hlog,xk0,x12,wb0,wb1,wb2,wb3,wb4,wb5,wb6,wb7,wb8,wb9,wb10⟩
       clear hB
       have hB:=bl_then HB1.out hsd.bl
       refine wp_region_held_drew (S:=fun w'=>Sd w1 w' (w3.heap.size) p.b (roomOf room) (j+1) p3 nx3 (F3.map (·.x)) (.slice a3 F3.length c3) F3∧Below Wa.heap.size Wa w'∧LogAt w' a n c LG∧w'.cell? ⟨xn,0,none⟩=some (.string KE)∧w'.cell? ⟨xb,xo+j*14+12,none⟩=some (.int .i64 enow)∧w'.cell? ⟨wr.heap.size,0,none⟩=some (.string KY)∧w'.cell? ⟨wr.heap.size,1,none⟩=some (.int .i64 kk)∧w'.cell? ⟨wr.heap.size,2,none⟩=some (.int .i64 l)∧w'.cell? ⟨wr.heap.size,3,none⟩=some (.int .i64 d)∧w'.cell? ⟨wr.heap.size,4,none⟩=some (.int .i64 b)∧w'.cell? ⟨wr.heap.size,5,none⟩=some (.int .i64 cc)∧w'.cell? ⟨wr.heap.size,6,none⟩=some (.bool false)∧w'.cell? ⟨wr.heap.size,7,none⟩=some (.int .i64 at_)∧w'.cell? ⟨wr.heap.size,8,none⟩=some (.int .i64 level)∧w'.cell? ⟨wr.heap.size,9,none⟩=some (.int .i64 held)∧w'.cell? ⟨wr.heap.size,10,none⟩=some (.slice a n c)∧Below w.heap.size w w') (by kernel_rfl) ?_ (fun hHeld=>?_)
       ·exact⟨(hsd.to (bl_drew (bl_refl _))),(bl_drew hbw),(log_bl hlog (bl_drew (bl_refl _))),xk0,x12,wb0,wb1,wb2,wb3,wb4,wb5,wb6,wb7,wb8,wb9,wb10,bl_drew hB⟩
       try simp only[Act.put,List.setIfInBounds_toArray,List.set_cons_zero,List.set_cons_succ]
       refine tkx 0 ?_
       refine tkx 1 ?_
       refine tkx 2 ?_
       refine tkx 3 ?_
       refine tkx 4 ?_
       refine tkx 5 ?_
       first|refine tqx 6 ?_|refine tkx 6 ?_
       first|refine tqx 7 ?_|refine tkx 7 ?_
       first|refine tqx 8 ?_|refine tkx 8 ?_
       first|refine tqx 9 ?_|refine tkx 9 ?_
       first|refine tqx 10 ?_|refine tkx 10 ?_
       first|refine tqx 11 ?_|refine tkx 11 ?_
       first|(refine tqx 12 ?_)|(refine callC (i:=12) rfl (fun K hK=>?_);obtain⟨h_hsd,h_hbw,h_hlog,h_xk0,h_x12,h_wb0,h_wb1,h_wb2,h_wb3,h_wb4,h_wb5,h_wb6,h_wb7,h_wb8,h_wb9,h_wb10,h_B⟩:=(id hHeld);go_simp;refine(HFR.out _ h_hlog).mono ?_;rintro e w9 ⟨rfl,hb⟩;go_wp2_with fail;refine hK.out _ _ ?_ (fun hHeld2=>?_);(focus((try dsimp only);exact⟨Sd.to h_hsd hb,bl_then h_hbw hb,log_bl h_hlog hb,bl_cell hb h_xk0,bl_cell hb h_x12,bl_cell hb h_wb0,bl_cell hb h_wb1,bl_cell hb h_wb2,bl_cell hb h_wb3,bl_cell hb h_wb4,bl_cell hb h_wb5,bl_cell hb h_wb6,bl_cell hb h_wb7,bl_cell hb h_wb8,bl_cell hb h_wb9,bl_cell hb h_wb10,bl_then h_B hb⟩));clear hHeld hK K;have hHeld:=hHeld2;clear hHeld2 h_hsd h_hbw h_hlog h_xk0 h_x12 h_wb0 h_wb1 h_wb2 h_wb3 h_wb4 h_wb5 h_wb6 h_wb7 h_wb8 h_wb9 h_wb10 h_B;try simp only[Act.put,List.setIfInBounds_toArray,List.set_cons_zero,List.set_cons_succ])
       refine tkx 13 ?_
       refine tkx 14 ?_
       first|refine tqx 15 ?_|refine tkx 15 ?_
       first|refine tqx 16 ?_|refine tkx 16 ?_
       first|refine tqx 17 ?_|refine tkx 17 ?_
       first|refine tqx 18 ?_|refine tkx 18 ?_
       first|refine tqx 19 ?_|refine tkx 19 ?_
       first|refine tqx 20 ?_|refine tkx 20 ?_
       first|refine tqx 21 ?_|refine tkx 21 ?_
       first|refine tqx 22 ?_|refine tkx 22 ?_
       first|refine tqx 23 ?_|refine tkx 23 ?_
       refine tkx 24 ?_
       refine wpAnyH_done (by kernel_rfl) ?_ _
       refine then_abs (F:=fun w'=>Sd w1 w' (w3.heap.size) p.b (roomOf room) (j+1) p3 nx3 (F3.map (·.x)) (.slice a3 F3.length c3) F3∧Below Wa.heap.size Wa w'∧LogAt w' a n c LG∧w'.cell? ⟨xn,0,none⟩=some (.string KE)∧w'.cell? ⟨xb,xo+j*14+12,none⟩=some (.int .i64 enow)∧w'.cell? ⟨wr.heap.size,0,none⟩=some (.string KY)∧w'.cell? ⟨wr.heap.size,1,none⟩=some (.int .i64 kk)∧w'.cell? ⟨wr.heap.size,2,none⟩=some (.int .i64 l)∧w'.cell? ⟨wr.heap.size,3,none⟩=some (.int .i64 d)∧w'.cell? ⟨wr.heap.size,4,none⟩=some (.int .i64 b)∧w'.cell? ⟨wr.heap.size,5,none⟩=some (.int .i64 cc)∧w'.cell? ⟨wr.heap.size,6,none⟩=some (.bool false)∧w'.cell? ⟨wr.heap.size,7,none⟩=some (.int .i64 at_)∧w'.cell? ⟨wr.heap.size,8,none⟩=some (.int .i64 level)∧w'.cell? ⟨wr.heap.size,9,none⟩=some (.int .i64 held)∧w'.cell? ⟨wr.heap.size,10,none⟩=some (.slice a n c)∧Below w.heap.size w w') hHeld ?_
       clear hHeld hB hsd hbw hlog xk0 x12 wb0 wb1 wb2 wb3 wb4 wb5 wb6 wb7 wb8 wb9 wb10
       rintro w101 ⟨hsd,hbw,hlog,xk0,x12,wb0,wb1,wb2,wb3,wb4,wb5,wb6,wb7,wb8,wb9,wb10,hB⟩
       have lb_xk:=lbc xk0
       have lb_wb:=lbc wb0
       have lb_wb1:=lbc wb10
       go_wp2_with fail
       have hlq:(⟨lat,llev,lheld,LLG⟩:St)=⟨at_,level,held,LG⟩:=HKL.out HE.out (by trivial) (by simp)
       injection hlq with e1 e2 e3 e4
       subst e1 e2 e3 e4
       refine wp_region_held_drew (S:=fun w'=>Sd w1 w' (w3.heap.size) p.b (roomOf room) (j+1) p3 nx3 (F3.map (·.x)) (.slice a3 F3.length c3) F3∧Below Wa.heap.size Wa w'∧LogAt w' a n c LLG∧w'.cell? ⟨xn,0,none⟩=some (.string KE)∧w'.cell? ⟨xb,xo+j*14+12,none⟩=some (.int .i64 enow)∧w'.cell? ⟨wr.heap.size,0,none⟩=some (.string KY)∧w'.cell? ⟨wr.heap.size,1,none⟩=some (.int .i64 kk)∧w'.cell? ⟨wr.heap.size,2,none⟩=some (.int .i64 l)∧w'.cell? ⟨wr.heap.size,3,none⟩=some (.int .i64 d)∧w'.cell? ⟨wr.heap.size,4,none⟩=some (.int .i64 b)∧w'.cell? ⟨wr.heap.size,5,none⟩=some (.int .i64 cc)∧w'.cell? ⟨wr.heap.size,6,none⟩=some (.bool false)∧w'.cell? ⟨wr.heap.size,7,none⟩=some (.int .i64 lat)∧w'.cell? ⟨wr.heap.size,8,none⟩=some (.int .i64 llev)∧w'.cell? ⟨wr.heap.size,9,none⟩=some (.int .i64 lheld)∧w'.cell? ⟨wr.heap.size,10,none⟩=some (.slice a n c)∧Below w.heap.size w w') (by kernel_rfl) ?_ (fun hHeld=>?_)
       ·exact⟨(hsd.to (bl_drew (bl_refl _))),(bl_drew hbw),(log_bl hlog (bl_drew (bl_refl _))),xk0,x12,wb0,wb1,wb2,wb3,wb4,wb5,wb6,wb7,wb8,wb9,wb10,bl_drew hB⟩
       try simp only[Act.put,List.setIfInBounds_toArray,List.set_cons_zero,List.set_cons_succ]
       refine tkx 0 ?_
       refine tkx 1 ?_
       refine tkx 2 ?_
       refine tkx 3 ?_
       refine tkx 4 ?_
       refine tkx 5 ?_
       refine tkx 6 ?_
       refine tkx 7 ?_
       refine tkx 8 ?_
       refine tkx 9 ?_
       refine tkx 11 ?_
       refine tkx 12 ?_
       (refine callC (i:=10) rfl (fun K hK=>?_);obtain⟨h_hsd,h_hbw,h_hlog,h_xk0,h_x12,h_wb0,h_wb1,h_wb2,h_wb3,h_wb4,h_wb5,h_wb6,h_wb7,h_wb8,h_wb9,h_wb10,h_B⟩:=(id hHeld);go_simp;refine(HLK.out _ h_hsd).mono ?_;rintro e w9 ⟨a7,n7,c7,rfl,hg7,hb⟩;have hn7:n=n7:=h_hlog.1.symm.trans hg7.1;subst hn7;go_wp2_with fail;refine hK.out _ _ ?_ (fun hHeld2=>?_);(focus((try dsimp only);exact⟨Sd.to h_hsd hb,bl_then h_hbw hb,log_bl h_hlog hb,bl_cell hb h_xk0,bl_cell hb h_x12,bl_cell hb h_wb0,bl_cell hb h_wb1,bl_cell hb h_wb2,bl_cell hb h_wb3,bl_cell hb h_wb4,bl_cell hb h_wb5,bl_cell hb h_wb6,bl_cell hb h_wb7,bl_cell hb h_wb8,bl_cell hb h_wb9,bl_cell hb h_wb10,bl_then h_B hb⟩));clear hHeld hK K;have hHeld:=hHeld2;clear hHeld2 h_hsd h_hbw h_hlog h_xk0 h_x12 h_wb0 h_wb1 h_wb2 h_wb3 h_wb4 h_wb5 h_wb6 h_wb7 h_wb8 h_wb9 h_wb10 h_B;try simp only[Act.put,List.setIfInBounds_toArray,List.set_cons_zero,List.set_cons_succ])
       (refine callC (i:=13) rfl (fun K hK=>?_);obtain⟨h_hsd,h_hbw,h_hlog,h_xk0,h_x12,h_wb0,h_wb1,h_wb2,h_wb3,h_wb4,h_wb5,h_wb6,h_wb7,h_wb8,h_wb9,h_wb10,h_B⟩:=(id hHeld);go_simp;refine(HSS.out _ _ _ _ _ _ hg7 h_hlog).mono ?_;rintro e w9 ⟨rfl,hb⟩;go_wp2_with fail;refine hK.out _ _ ?_ (fun hHeld2=>?_);(focus((try dsimp only);exact⟨Sd.to h_hsd hb,bl_then h_hbw hb,log_bl h_hlog hb,bl_cell hb h_xk0,bl_cell hb h_x12,bl_cell hb h_wb0,bl_cell hb h_wb1,bl_cell hb h_wb2,bl_cell hb h_wb3,bl_cell hb h_wb4,bl_cell hb h_wb5,bl_cell hb h_wb6,bl_cell hb h_wb7,bl_cell hb h_wb8,bl_cell hb h_wb9,bl_cell hb h_wb10,bl_then h_B hb⟩));clear hHeld hK K;have hHeld:=hHeld2;clear hHeld2 h_hsd h_hbw h_hlog h_xk0 h_x12 h_wb0 h_wb1 h_wb2 h_wb3 h_wb4 h_wb5 h_wb6 h_wb7 h_wb8 h_wb9 h_wb10 h_B;try simp only[Act.put,List.setIfInBounds_toArray,List.set_cons_zero,List.set_cons_succ])
       refine tkx 14 ?_
       refine wpAnyH_done (by kernel_rfl) ?_ _
       refine then_abs (F:=fun w'=>Sd w1 w' (w3.heap.size) p.b (roomOf room) (j+1) p3 nx3 (F3.map (·.x)) (.slice a3 F3.length c3) F3∧Below Wa.heap.size Wa w'∧LogAt w' a n c LLG∧w'.cell? ⟨xn,0,none⟩=some (.string KE)∧w'.cell? ⟨xb,xo+j*14+12,none⟩=some (.int .i64 enow)∧w'.cell? ⟨wr.heap.size,0,none⟩=some (.string KY)∧w'.cell? ⟨wr.heap.size,1,none⟩=some (.int .i64 kk)∧w'.cell? ⟨wr.heap.size,2,none⟩=some (.int .i64 l)∧w'.cell? ⟨wr.heap.size,3,none⟩=some (.int .i64 d)∧w'.cell? ⟨wr.heap.size,4,none⟩=some (.int .i64 b)∧w'.cell? ⟨wr.heap.size,5,none⟩=some (.int .i64 cc)∧w'.cell? ⟨wr.heap.size,6,none⟩=some (.bool false)∧w'.cell? ⟨wr.heap.size,7,none⟩=some (.int .i64 lat)∧w'.cell? ⟨wr.heap.size,8,none⟩=some (.int .i64 llev)∧w'.cell? ⟨wr.heap.size,9,none⟩=some (.int .i64 lheld)∧w'.cell? ⟨wr.heap.size,10,none⟩=some (.slice a n c)∧Below w.heap.size w w') hHeld ?_
       clear hHeld hB hsd hbw hlog xk0 x12 wb0 wb1 wb2 wb3 wb4 wb5 wb6 wb7 wb8 wb9 wb10
       rintro w102 ⟨hsd,hbw,hlog,xk0,x12,wb0,wb1,wb2,wb3,wb4,wb5,wb6,wb7,wb8,wb9,wb10,hB⟩
       replace lb_xk:=lbc xk0
       replace lb_wb:=lbc wb0
       replace lb_wb1:=lbc wb10
       go_wp2_with fail
       go_roundw
       case rel=>exact⟨k+1,by go_num,by omega,hbw⟩
       case measure=>(simp[intOf];first|exact hms2|omega)
     ·have hkk:k=N:=by omega
      subst hkk
      have hkN2:¬ (k:Int)<(k:Int):=by omega
      go_wp2_with fail
      go_roundw
      case rel=>exact⟨j+1,by go_num,hj1,⟨p3,nx3,.slice a3 F3.length c3,F3,HSDA.out.to hB⟩⟩
      case measure=>(simp[intOf];first|exact hms|omega)
  ·have hk1:¬ (j:Int)<(m:Int):=by omega
   go_wp2_with fail
   refine(HKN.out _).mono ?_
   rintro e w9 ⟨rfl,hx⟩
   have hB9:=bl_then (bl_then HB1.out hsd.bl) hx
   clear hx
   go_wp2_with fail
   go_ret
   first|exact⟨rfl,hB9⟩|exact hB9
theorem ckeep_row (room:Int) (la:Option Addr) (m lc:Nat) (ds:Nat→CD) (w:World) (hr0:0≤room) (hr1:room≤255) (hA:CDosIn w la m ds):Calls Tryz.prog 9 #[.int .u8 room,.slice la m lc] w fun e w'=>e=.returned (.bool true)∧Below w.heap.size w w':=by
 by_cases hm:(40:Int)<m
 ·exact ckeep_long room la m lc ds w hr0 hr1 hA hm
 ·exact ckeep_run room la m lc ds w hr0 hr1 hA hm
theorem ckeep_walk (room:Int) (la:Option Addr) (m lc:Nat) (ds:Nat→CD) (w:World) (hr0:0≤room) (hr1:room≤255) (hA:CDosIn w la m ds):Calls Tryz.prog 9 #[.int .u8 room,.slice la m lc] w fun e w'=>e=.returned (.bool true)∧Below w.heap.size w w':=ckeep_row room la m lc ds w hr0 hr1 hA
end Go.Proofs.YtmhikkbdhboodaaGreat

namespace Go.Proofs.YtmhikkbdhboodaaGreat.cellsKeep
open Go.ChangeShapes Go.WideShapes Go.ChangeAt Go.RowKit
open Go.ChangeMaps (open_string shut_string)
set_option linter.unusedVariables false
set_option linter.unusedSimpArgs false

theorem own:ownKnob Tryz.prog.godebug=none:=by kernel_rfl
theorem laidOut:laidOutB Tryz.prog=true:=by kernel_rfl

set_option maxHeartbeats 1000000 in
set_option maxRecDepth 100000 in
theorem lifted (os:Os) (started:os.Started) (H:Type) (enc:TypeId × Value→H) :
  ReturnsInHanded {} Tryz.checked os 9 .any (Rows.cellsKeepSpec.pre6 enc Tryz.prog Tryz.f9 Rows.cellsKeepRow.domain false) (Rows.cellsKeepSpec.post enc Tryz.prog Tryz.f9 false true false false):=by
 refine returnsInHanded_of_change (C:=Tryz.checked) own started (by kernel_rfl) Tryz.func9
  (ChangeSpec.witness6 (enc:=enc) (C:=Tryz.checked) false ⟨#[],#[.int .u8 0,.slice none 0 0],[]⟩ 8 (by kernel_rfl) (by kernel_rfl) (by kernel_rfl) (by kernel_rfl)) ?_
 intro W base args ds gs before hval0 hW hcnd _
 have hval:∀ (j:Nat) t v,Tryz.f9.params[j]?=some t→args[j]?=some v→Value.okWide Tryz.prog W .any base t v:=hval0
 have hW':=hW
 obtain⟨p,q,hA0,hV,rfl,hfz,hnd⟩:=hW
 have hA:DataW.TrodAll enc Tryz.prog W 0 (fun _=>true) true Tryz.f9.params.toList args.toList ds p:=hA0
 rw[Tryz.params9] at hA hval
 obtain⟨v0,vs0,d0,ds0',p0,q0,hargs,rfl,rfl,h0,r0⟩:=trodAll_cons hA
 obtain⟨v1,vs1,d1,ds1',p1,q1,rfl,rfl,rfl,h1,r1⟩:=trodAll_cons r0
 obtain⟨rfl,rfl,rfl⟩:=trodAll_nil r1
 obtain rfl:args = #[v0,v1]:=by cases args;simp_all
 obtain⟨rfl,rfl⟩:=trodVars_none hV
 obtain⟨a0,rfl,rfl,rfl,w0⟩:=open_int Tryz.underlying5 (hval 0 5 v0 rfl rfl) h0
 have b0l:0≤a0:=by have h:=w0;simp only[Lit.wf,Bool.and_eq_true,decide_eq_true_eq] at h;exact h.1
 have b0h:a0≤255:=by have h:=w0;simp only[Lit.wf,Bool.and_eq_true,decide_eq_true_eq] at h;exact h.2
 obtain⟨a1,len1,cap1,rfl⟩:=okWide_slice Tryz.underlying49 (hval 1 49 v1 rfl rfl)
 have k1:=h1
 have lt1:∀ x ∈ p1,x.block<W.heap.size:=by obtain⟨m,hm⟩:=k1;exact DataW.trod_lt m _ _ _ hm
 obtain⟨ds1,w1⟩:∃ ds,CDosIn W a1 len1 ds:=by obtain⟨fuel,hf⟩:=h1;exact open_cds (by simpa [Value.cells] using hf)
 clear hA0 hval0
 refine(ckeep_walk a0 a1 len1 cap1 ds1 W b0l b0h w1).mono fun e W' ⟨he,bel⟩=>?_
 subst he
 exact⟨_,rfl,_,_,_,[],_,[],hW',trodAll_mk1 (shut_bool Tryz.underlying4 _),(trodAll_cons_mk (shut_int Tryz.underlying5 w0) (trodAll_cons_mk (Below.trod laidOut (by kernel_rfl) (of_decide_eq_true (by kernel_rfl)) k1 bel lt1) trodAll_mk0)),rfl,bel.frame _,fun h=>by cases h⟩

theorem over:Rows.cellsKeepRow.holds Tryz.pinned (OpenSpec.ofChange Rows.cellsKeepSpec) :=
 OpenClaim.holds_of_wide 9 Tryz.f9 rfl rfl rfl rfl rfl rfl rfl ⟨rfl,rfl,rfl,rfl,rfl⟩ rfl rfl rfl rfl rfl (by kernel_rfl) Tryz.func9 (by kernel_rfl)
  (of_decide_eq_true (by kernel_rfl)) (by unfold Func.isWrapper;first|(rw[if_pos (by decide +kernel)];kernel_rfl)|(rw[if_neg (by decide +kernel)];exact⟨rfl,rfl⟩))
  (fun os started H enc _=>lifted os started H enc)

/-- The statement. -/
theorem proved:Rows.CellsKeepSaid:=over
end Go.Proofs.YtmhikkbdhboodaaGreat.cellsKeep
