/-
  The statement CellsSweeps of this seat: for every input the law returns true, and each argument reads afterwards as it read before. No condition.
-/
import Derived.Test.YtmhikkbdhboodaaGreatZcX
import Derived.Test.YtmhikkbdhboodaaGreatRows
import Derived.WalkKit
import Derived.ProofKit
import Derived.OpenShut
import Derived.ShutString
import Derived.ChangeOld
import Derived.Below
namespace Go.Proofs.YtmhikkbdhboodaaGreat
open Go.RowKit Go.Maps
set_option linter.unusedVariables false
set_option linter.unusedSimpArgs false

set_option maxHeartbeats 8000000 in
set_option maxRecDepth 100000 in
theorem csweeps_long (la:Option Addr) (m lc:Nat) (ds:Nat→CD) (now:Int) (w:World) (hA:CDosIn w la m ds) (hm:(40:Int)<m):Calls Tryz.prog 6 #[.slice la m lc,.int .i64 now] w fun e w'=>e=.returned (.bool true)∧Below w.heap.size w w':=by
 have h41:40<m:=by omega
 have HKN:=Go.Lib.hid cknown
 clear hA
 go_enter Tryz.func6,Tryz.ntmps6
 go_wp2_with fail
 refine(HKN.out _).mono ?_
 rintro e w1 ⟨rfl,hb⟩
 have hsz1:w.heap.size+0≤w1.heap.size:=szl hb
 have hB:Below w.heap.size w w1:=hb
 clear hb
 go_wp2_with fail
 go_ret
 exact⟨rfl,hB⟩
set_option maxHeartbeats 8000000 in
set_option maxRecDepth 100000 in
theorem csweeps_run (la:Option Addr) (m lc:Nat) (ds:Nat→CD) (now:Int) (w:World) (hA:CDosIn w la m ds) (hm:¬ (40:Int)<m):Calls Tryz.prog 6 #[.slice la m lc,.int .i64 now] w fun e w'=>e=.returned (.bool true)∧Below w.heap.size w w':=by
 have HKN:=Go.Lib.hid cknown
 have HA:=Go.Lib.hid hA
 have HLG:=Go.Lib.hid (fun W hW=>clong_any la m lc ds W (cds_bl hA hW))
 have h41:¬ 40<m:=by omega
 clear hA
 go_enter Tryz.func6,Tryz.ntmps6
 go_wp2_with fail
 refine(HLG.out _ (bl_refl _)).mono ?_
 rintro e w1 ⟨lq,rfl,hb⟩
 have hsz1:w.heap.size+0≤w1.heap.size:=szl hb
 have hB:Below w.heap.size w w1:=hb
 clear hb
 by_cases hq:600<lq
 ·go_wp2_with fail
  refine(HKN.out _).mono ?_
  rintro e w2 ⟨rfl,hb⟩
  have hsz2:w1.heap.size+0≤w2.heap.size:=szl hb
  replace hB:Below w.heap.size w w2:=bl_then hB hb
  clear hb
  go_wp2_with fail
  go_ret
  exact⟨rfl,hB⟩
 go_wp2_with fail
 have HB1:=Go.Lib.hid hB
 clear hB
 refine(csnew_any 100 _).mono ?_
 rintro e w2 ⟨p,rfl,hc,hb,hF⟩
 have HC:=Go.Lib.hid hc
 have HB2:=Go.Lib.hid hb
 have HF:=Go.Lib.hid hF
 clear hc hb hF
 go_wp2_with fail
 refine(rnew_any 100 _).mono ?_
 rintro e w3 ⟨rfl,hb3⟩
 have HB3:=Go.Lib.hid hb3
 clear hb3
 unfold TV
 go_wp2_with fail
 go_loopw [7] (fun s7 wr=>∃ j:Nat,s7=.int .i64 j∧j≤m∧Hid (StI w1 wr w3.heap.size p.b (roomOf (100)) j)) (fun s7 _=>m - (intOf s7).toNat)
 case atStart=>exact⟨0,rfl,Nat.zero_le _,Go.Lib.hid ⟨p,0,.slice none 0 0,[],sd_start HC.out HB2.out HF.out HB3.out⟩⟩
 case round =>
  obtain⟨j,rfl,hj,H⟩:=hrel
  obtain⟨p2,nx,v,Js,hsd⟩:=H.out
  clear H HC HB2 HF HB3
  by_cases hjn:j<m
  ·obtain ⟨hks,hlg,xb,xo,hla,y0,y1,y2,y3,y4,y5,y6,y7,y8,y9,y10,y11,y12,y13⟩:=(cds_bl HA.out HB1.out).2 j hjn
   subst hla
   have hap:=cells_apart hsd.cells
   have hlen:=hsd.len
   have hm40:(m:Int)≤40:=by omega
   have hj41:j≤40:=by omega
   have k0:(0:Int)≤(j:Int):=by omega
   have k1:(j:Int)<(m:Int):=by omega
   have hms:m - (j+1)<m - j:=by omega
   have hj1:j+1≤m:=hjn
   have wj:IntKind.i64.wrap ((j:Int)+1)=(j:Int)+1:=IntWalk.i64_in _ (by omega)
   obtain⟨ra,rc,rfl⟩:=cs_form hsd.row.1
   obtain⟨Z,hZ⟩:∃ Z,Z=cStep (roomOf 100) (Js.map (·.x)) (ds j):=⟨_,rfl⟩
   have hdd:=fun W (h:Sd w1 W (w3.heap.size) p.b (roomOf 100) (j) p2 nx (Js.map (·.x)) (.slice ra Js.length rc) Js)=>sd_did (d:=ds j) h hlg hks (by omega)
   have hst1:=fun p3 nx3 W (h:Sd w1 W (w3.heap.size) p.b (roomOf 100) (j+1) p3 nx3 ((cStep (roomOf 100) (Js.map (·.x)) (ds j)).1) (.slice ra Js.length rc) Js)=>sd_step1 (d:=ds j) h rfl hlen hap hlg hks
   have hst2:=fun p3 nx3 X (h:Sd w1 X (w3.heap.size) p.b (roomOf 100) (j+1) p3 nx3 ((cStep (roomOf 100) (Js.map (·.x)) (ds j)).1) (.slice ra Js.length rc) Js) W (hb:Below X.heap.size X W) rn hr hr2=>sd_step2 (d:=ds j) h hb (rn:=rn) hr hr2 rfl hlen hap hlg hks
   simp only[← hZ] at hdd hst1 hst2
   obtain⟨L2,rr⟩:=Z
   have HSD:=Go.Lib.hid hsd
   have HLG:=Go.Lib.hid hlg
   have HZ:=Go.Lib.hid hZ
   have HKS:=Go.Lib.hid hks
   clear hZ hsd hlg hap hks
   generalize hde:ds j=d at *
   have HDE:=Go.Lib.hid hde
   clear hde
   obtain⟨dk,⟨ekey,⟨ek,el,ed,eb,ec,eo⟩,⟨eat,elev,eheld,EL⟩⟩,ea,en,ecp,enow,ecost⟩:=d
   unfold TV CD.v at *
   dsimp only at *
   generalize hKE:ktx ekey=KE at *
   have HKE:=Go.Lib.hid hKE
   clear hKE
   have HY:=Go.Lib.hid (⟨y0,y1,y2,y3,y4,y5,y6,y7,y8,y9,y10,y11,y12,y13⟩:w1.cell? ⟨xb,xo+j*14,none⟩=some (.int .i64 dk)∧w1.cell? ⟨xb,xo+j*14+1,none⟩=some (.string KE)∧w1.cell? ⟨xb,xo+j*14+2,none⟩=some (.int .i64 ek)∧w1.cell? ⟨xb,xo+j*14+3,none⟩=some (.int .i64 el)∧w1.cell? ⟨xb,xo+j*14+4,none⟩=some (.int .i64 ed)∧w1.cell? ⟨xb,xo+j*14+5,none⟩=some (.int .i64 eb)∧w1.cell? ⟨xb,xo+j*14+6,none⟩=some (.int .i64 ec)∧w1.cell? ⟨xb,xo+j*14+7,none⟩=some (.bool eo)∧w1.cell? ⟨xb,xo+j*14+8,none⟩=some (.int .i64 eat)∧w1.cell? ⟨xb,xo+j*14+9,none⟩=some (.int .i64 elev)∧w1.cell? ⟨xb,xo+j*14+10,none⟩=some (.int .i64 eheld)∧w1.cell? ⟨xb,xo+j*14+11,none⟩=some (.slice ea en ecp)∧w1.cell? ⟨xb,xo+j*14+12,none⟩=some (.int .i64 enow)∧w1.cell? ⟨xb,xo+j*14+13,none⟩=some (.int .i64 ecost))
   clear y0 y1 y2 y3 y4 y5 y6 y7 y8 y9 y10 y11 y12 y13
   have HDD:=Go.Lib.hid hdd
   have HST1:=Go.Lib.hid hst1
   have HST2:=Go.Lib.hid hst2
   clear hdd hst1 hst2
   go_wp2_with fail
   obtain⟨y0,y1,y2,y3,y4,y5,y6,y7,y8,y9,y10,y11,y12,y13⟩:=HY.out
   have x0:=bl_cell HSD.out.bl y0
   have x1:=bl_cell HSD.out.bl y1
   have x2:=bl_cell HSD.out.bl y2
   have x3:=bl_cell HSD.out.bl y3
   have x4:=bl_cell HSD.out.bl y4
   have x5:=bl_cell HSD.out.bl y5
   have x6:=bl_cell HSD.out.bl y6
   have x7:=bl_cell HSD.out.bl y7
   have x8:=bl_cell HSD.out.bl y8
   have x9:=bl_cell HSD.out.bl y9
   have x10:=bl_cell HSD.out.bl y10
   have x11:=bl_cell HSD.out.bl y11
   have x12:=bl_cell HSD.out.bl y12
   have x13:=bl_cell HSD.out.bl y13
   clear y0 y1 y2 y3 y4 y5 y6 y7 y8 y9 y10 y11 y12 y13
   have x14:=HSD.out.t0
   have x15:=HSD.out.t1
   refine wp_region_held_drew (S:=fun X=>X.cell? ⟨xb,xo+j*14,none⟩=some (.int .i64 dk)∧X.cell? ⟨xb,xo+j*14+1,none⟩=some (.string KE)∧X.cell? ⟨xb,xo+j*14+2,none⟩=some (.int .i64 ek)∧X.cell? ⟨xb,xo+j*14+3,none⟩=some (.int .i64 el)∧X.cell? ⟨xb,xo+j*14+4,none⟩=some (.int .i64 ed)∧X.cell? ⟨xb,xo+j*14+5,none⟩=some (.int .i64 eb)∧X.cell? ⟨xb,xo+j*14+6,none⟩=some (.int .i64 ec)∧X.cell? ⟨xb,xo+j*14+7,none⟩=some (.bool eo)∧X.cell? ⟨xb,xo+j*14+8,none⟩=some (.int .i64 eat)∧X.cell? ⟨xb,xo+j*14+9,none⟩=some (.int .i64 elev)∧X.cell? ⟨xb,xo+j*14+10,none⟩=some (.int .i64 eheld)∧X.cell? ⟨xb,xo+j*14+11,none⟩=some (.slice ea en ecp)∧X.cell? ⟨xb,xo+j*14+12,none⟩=some (.int .i64 enow)∧X.cell? ⟨xb,xo+j*14+13,none⟩=some (.int .i64 ecost)∧X.cell? ⟨w3.heap.size,0,none⟩=some (.int .i64 ((roomOf 100:Nat):Int))∧X.cell? ⟨w3.heap.size,1,none⟩=some (.slice ra Js.length rc)) (by kernel_rfl) ?_ (fun hHeld=>?_)
   ·exact⟨x0,x1,x2,x3,x4,x5,x6,x7,x8,x9,x10,x11,x12,x13,x14,x15⟩
   try simp only[Act.put,List.setIfInBounds_toArray,List.set_cons_zero,List.set_cons_succ]
   refine wpAnyH_abs (F:=fun X=>Sd w1 X (w3.heap.size) p.b (roomOf 100) (j) p2 nx (Js.map (·.x)) (.slice ra Js.length rc) Js) hHeld (HSD.out.to (bl_drew (bl_refl _))) ?_
   clear hHeld HSD x0 x1 x2 x3 x4 x5 x6 x7 x8 x9 x10 x11 x12 x13 x14 x15
   rintro X0 hHeld hsd
   refine tkx 0 ?_
   refine tkx 1 ?_
   refine tkx 2 ?_
   refine tkx 3 ?_
   refine tkx 4 ?_
   refine tkx 5 ?_
   refine callC (i:=6) rfl (fun K hK=>?_)
   clear hHeld
   go_simp
   refine(HDD.out _ hsd).mono ?_
   rintro e X6 ⟨rfl,p3,nx3,hsd3,hO3⟩
   obtain⟨y0,y1,y2,y3,y4,y5,y6,y7,y8,y9,y10,y11,y12,y13⟩:=HY.out
   have x0:=bl_cell hsd3.bl y0
   have x1:=bl_cell hsd3.bl y1
   have x2:=bl_cell hsd3.bl y2
   have x3:=bl_cell hsd3.bl y3
   have x4:=bl_cell hsd3.bl y4
   have x5:=bl_cell hsd3.bl y5
   have x6:=bl_cell hsd3.bl y6
   have x7:=bl_cell hsd3.bl y7
   have x8:=bl_cell hsd3.bl y8
   have x9:=bl_cell hsd3.bl y9
   have x10:=bl_cell hsd3.bl y10
   have x11:=bl_cell hsd3.bl y11
   have x12:=bl_cell hsd3.bl y12
   have x13:=bl_cell hsd3.bl y13
   clear y0 y1 y2 y3 y4 y5 y6 y7 y8 y9 y10 y11 y12 y13
   have x14:=hsd3.t0
   have x15:=hsd3.t1
   have HX:Hid ((fun X=>X.cell? ⟨xb,xo+j*14,none⟩=some (.int .i64 dk)∧X.cell? ⟨xb,xo+j*14+1,none⟩=some (.string KE)∧X.cell? ⟨xb,xo+j*14+2,none⟩=some (.int .i64 ek)∧X.cell? ⟨xb,xo+j*14+3,none⟩=some (.int .i64 el)∧X.cell? ⟨xb,xo+j*14+4,none⟩=some (.int .i64 ed)∧X.cell? ⟨xb,xo+j*14+5,none⟩=some (.int .i64 eb)∧X.cell? ⟨xb,xo+j*14+6,none⟩=some (.int .i64 ec)∧X.cell? ⟨xb,xo+j*14+7,none⟩=some (.bool eo)∧X.cell? ⟨xb,xo+j*14+8,none⟩=some (.int .i64 eat)∧X.cell? ⟨xb,xo+j*14+9,none⟩=some (.int .i64 elev)∧X.cell? ⟨xb,xo+j*14+10,none⟩=some (.int .i64 eheld)∧X.cell? ⟨xb,xo+j*14+11,none⟩=some (.slice ea en ecp)∧X.cell? ⟨xb,xo+j*14+12,none⟩=some (.int .i64 enow)∧X.cell? ⟨xb,xo+j*14+13,none⟩=some (.int .i64 ecost)∧X.cell? ⟨w3.heap.size,0,none⟩=some (.int .i64 ((roomOf 100:Nat):Int))∧X.cell? ⟨w3.heap.size,1,none⟩=some (.slice ra Js.length rc)) X6):=Go.Lib.hid ⟨x0,x1,x2,x3,x4,x5,x6,x7,x8,x9,x10,x11,x12,x13,x14,x15⟩
   have HSD3:=Go.Lib.hid hsd3
   clear hsd hsd3 hO3 x0 x1 x2 x3 x4 x5 x6 x7 x8 x9 x10 x11 x12 x13 x14 x15
   go_wp2_with fail
   refine hK.out _ _ HX.out (fun hHeld2=>?_)
   clear hK K
   have hHeld:=hHeld2
   clear hHeld2
   try simp only[Act.put,List.setIfInBounds_toArray,List.set_cons_zero,List.set_cons_succ]
   refine wpAnyH_done (by kernel_rfl) ?_ _
   clear hHeld HX
   go_wp2_with fail
   obtain⟨y0,y1,y2,y3,y4,y5,y6,y7,y8,y9,y10,y11,y12,y13⟩:=HY.out
   have x0:=bl_cell HSD3.out.bl y0
   have x1:=bl_cell HSD3.out.bl y1
   have x2:=bl_cell HSD3.out.bl y2
   have x3:=bl_cell HSD3.out.bl y3
   have x4:=bl_cell HSD3.out.bl y4
   have x5:=bl_cell HSD3.out.bl y5
   have x6:=bl_cell HSD3.out.bl y6
   have x7:=bl_cell HSD3.out.bl y7
   have x8:=bl_cell HSD3.out.bl y8
   have x9:=bl_cell HSD3.out.bl y9
   have x10:=bl_cell HSD3.out.bl y10
   have x11:=bl_cell HSD3.out.bl y11
   have x12:=bl_cell HSD3.out.bl y12
   have x13:=bl_cell HSD3.out.bl y13
   clear y0 y1 y2 y3 y4 y5 y6 y7 y8 y9 y10 y11 y12 y13
   have x14:=HSD3.out.t0
   have x15:=HSD3.out.t1
   refine wp_region_held_drew (S:=fun X=>X.cell? ⟨xb,xo+j*14,none⟩=some (.int .i64 dk)∧X.cell? ⟨xb,xo+j*14+1,none⟩=some (.string KE)∧X.cell? ⟨xb,xo+j*14+2,none⟩=some (.int .i64 ek)∧X.cell? ⟨xb,xo+j*14+3,none⟩=some (.int .i64 el)∧X.cell? ⟨xb,xo+j*14+4,none⟩=some (.int .i64 ed)∧X.cell? ⟨xb,xo+j*14+5,none⟩=some (.int .i64 eb)∧X.cell? ⟨xb,xo+j*14+6,none⟩=some (.int .i64 ec)∧X.cell? ⟨xb,xo+j*14+7,none⟩=some (.bool eo)∧X.cell? ⟨xb,xo+j*14+8,none⟩=some (.int .i64 eat)∧X.cell? ⟨xb,xo+j*14+9,none⟩=some (.int .i64 elev)∧X.cell? ⟨xb,xo+j*14+10,none⟩=some (.int .i64 eheld)∧X.cell? ⟨xb,xo+j*14+11,none⟩=some (.slice ea en ecp)∧X.cell? ⟨xb,xo+j*14+12,none⟩=some (.int .i64 enow)∧X.cell? ⟨xb,xo+j*14+13,none⟩=some (.int .i64 ecost)∧X.cell? ⟨w3.heap.size,0,none⟩=some (.int .i64 ((roomOf 100:Nat):Int))∧X.cell? ⟨w3.heap.size,1,none⟩=some (.slice ra Js.length rc)) (by kernel_rfl) ?_ (fun hHeld=>?_)
   ·exact⟨x0,x1,x2,x3,x4,x5,x6,x7,x8,x9,x10,x11,x12,x13,x14,x15⟩
   try simp only[Act.put,List.setIfInBounds_toArray,List.set_cons_zero,List.set_cons_succ]
   clear x0 x1 x2 x3 x4 x5 x6 x7 x8 x9 x10 x11 x12 x13 x14 x15
   refine wpAnyH_abs (F:=fun X=>Below X6.heap.size X6 X) hHeld (bl_drew (bl_refl _)) ?_
   clear hHeld
   rintro Y0 hHeld hbx
   have hlt0:=HSD3.out.tlt
   have hlt1:xb<X6.heap.size:=by obtain⟨y0,-⟩:=HY.out;have h1:=World.block_lt_of_cell? _ _ y0;have h2:=HSD3.out.bl.size;dsimp only at h1;omega
   refine tkx 0 ?_
   refine tkx 1 ?_
   refine tkx 2 ?_
   refine tkx 3 ?_
   refine tkx 4 ?_
   refine callC2 (i:=5) (j:=9) rfl rfl ?brA1 ?brB1
   case' brA1 =>
    intro K hK
    obtain⟨hx0,hx1,hx2,hx3,hx4,hx5,hx6,hx7,hx8,hx9,hx10,hx11,hx12,hx13,hx14,hx15⟩:=(id hHeld)
    clear hHeld
    go_simp
    refine(HST1.out _ _ _ (HSD3.out.to hbx)).mono ?_
    rintro e Y5 ⟨v3,F3,rfl,hsn,hb⟩
    obtain⟨a3,c3,rfl⟩:=cs_form hsn.row.1
    have HX:Hid ((fun X=>X.cell? ⟨xb,xo+j*14,none⟩=some (.int .i64 dk)∧X.cell? ⟨xb,xo+j*14+1,none⟩=some (.string KE)∧X.cell? ⟨xb,xo+j*14+2,none⟩=some (.int .i64 ek)∧X.cell? ⟨xb,xo+j*14+3,none⟩=some (.int .i64 el)∧X.cell? ⟨xb,xo+j*14+4,none⟩=some (.int .i64 ed)∧X.cell? ⟨xb,xo+j*14+5,none⟩=some (.int .i64 eb)∧X.cell? ⟨xb,xo+j*14+6,none⟩=some (.int .i64 ec)∧X.cell? ⟨xb,xo+j*14+7,none⟩=some (.bool eo)∧X.cell? ⟨xb,xo+j*14+8,none⟩=some (.int .i64 eat)∧X.cell? ⟨xb,xo+j*14+9,none⟩=some (.int .i64 elev)∧X.cell? ⟨xb,xo+j*14+10,none⟩=some (.int .i64 eheld)∧X.cell? ⟨xb,xo+j*14+11,none⟩=some (.slice ea en ecp)∧X.cell? ⟨xb,xo+j*14+12,none⟩=some (.int .i64 enow)∧X.cell? ⟨xb,xo+j*14+13,none⟩=some (.int .i64 ecost)∧X.cell? ⟨w3.heap.size,0,none⟩=some (.int .i64 ((roomOf 100:Nat):Int))∧X.cell? ⟨w3.heap.size,1,none⟩=some (.slice ra Js.length rc)) Y5):=Go.Lib.hid ⟨bl_cell hb hx0,bl_cell hb hx1,bl_cell hb hx2,bl_cell hb hx3,bl_cell hb hx4,bl_cell hb hx5,bl_cell hb hx6,bl_cell hb hx7,bl_cell hb hx8,bl_cell hb hx9,bl_cell hb hx10,bl_cell hb hx11,bl_cell hb hx12,bl_cell hb hx13,bl_cell hb hx14,bl_cell hb hx15⟩
    replace hbx:=bl_then hbx hb
    clear hb hx0 hx1 hx2 hx3 hx4 hx5 hx6 hx7 hx8 hx9 hx10 hx11 hx12 hx13 hx14 hx15
    have HSN:=Go.Lib.hid hsn
    have HBX:=Go.Lib.hid hbx
    clear hsn hbx
    go_wp2_with fail
    refine hK.out _ _ HX.out (fun hHeld2=>?_)
    clear hK K HX
    have hHeld:=hHeld2
    clear hHeld2
    have hsn:=HSN.out
    have hbx:=HBX.out
    clear HSN HBX
    try simp only[Act.put,List.setIfInBounds_toArray,List.set_cons_zero,List.set_cons_succ]
    refine tkx 6 ?_
    refine tkx 7 ?_
    refine tkx 8 ?_
    refine callC (i:=9) rfl (fun K hK=>?_)
    obtain⟨hx0,hx1,hx2,hx3,hx4,hx5,hx6,hx7,hx8,hx9,hx10,hx11,hx12,hx13,hx14,hx15⟩:=(id hHeld)
    clear hHeld
    go_simp
    refine hK.out _ _ ⟨bl_cell (bl_alloc (bl_refl _) _) hx0,bl_cell (bl_alloc (bl_refl _) _) hx1,bl_cell (bl_alloc (bl_refl _) _) hx2,bl_cell (bl_alloc (bl_refl _) _) hx3,bl_cell (bl_alloc (bl_refl _) _) hx4,bl_cell (bl_alloc (bl_refl _) _) hx5,bl_cell (bl_alloc (bl_refl _) _) hx6,bl_cell (bl_alloc (bl_refl _) _) hx7,bl_cell (bl_alloc (bl_refl _) _) hx8,bl_cell (bl_alloc (bl_refl _) _) hx9,bl_cell (bl_alloc (bl_refl _) _) hx10,bl_cell (bl_alloc (bl_refl _) _) hx11,bl_cell (bl_alloc (bl_refl _) _) hx12,bl_cell (bl_alloc (bl_refl _) _) hx13,bl_cell (bl_alloc (bl_refl _) _) hx14,bl_cell (bl_alloc (bl_refl _) _) hx15⟩ (fun hHeld2=>?_)
    clear hK K hx0 hx1 hx2 hx3 hx4 hx5 hx6 hx7 hx8 hx9 hx10 hx11 hx12 hx13 hx14 hx15
    have hHeld:=hHeld2
    clear hHeld2
    try simp only[Act.put,List.setIfInBounds_toArray,List.set_cons_zero,List.set_cons_succ]
    have hrn:X6.heap.size≤Y5.heap.size:=hbx.size
    refine wpAnyH_abs (F:=fun X=>Below X6.heap.size X6 X∧Sn X (A2 p3 (w3.heap.size) Y5.heap.size) L2 (.slice a3 F3.length c3) F3∧X.cell? ⟨Y5.heap.size,0,none⟩=some (.int .i64 0)∧X.cell? ⟨Y5.heap.size,1,none⟩=some (.slice none 0 0)∧FB X Y5.heap.size 2∧Y5.heap.size<X.heap.size) hHeld ⟨bl_alloc hbx _,(hsn.new (Nat.le_refl _)).to (bl_alloc (bl_refl _) _),by simp,by simp,fb_new #[_,_] _ rfl,by simp⟩ ?_
    clear hHeld hbx hsn
    generalize Y5.heap.size=rn at *
    rintro Y29 hHeld ⟨hbx,hsn,z0,z1,hFB,hrn2⟩
    refine callC (i:=10) rfl (fun K hK=>?_)
    obtain⟨hx0,hx1,hx2,hx3,hx4,hx5,hx6,hx7,hx8,hx9,hx10,hx11,hx12,hx13,hx14,hx15⟩:=(id hHeld)
    clear hHeld
    obtain⟨⟨-,f0⟩,⟨-,f1⟩⟩:=And.intro (hFB 0 (by omega)) (hFB 1 (by omega))
    go_simp
    refine hK.out _ _ ⟨far_set (far_set hx0 _ _ (by dsimp only;omega)) _ _ (by dsimp only;omega),far_set (far_set hx1 _ _ (by dsimp only;omega)) _ _ (by dsimp only;omega),far_set (far_set hx2 _ _ (by dsimp only;omega)) _ _ (by dsimp only;omega),far_set (far_set hx3 _ _ (by dsimp only;omega)) _ _ (by dsimp only;omega),far_set (far_set hx4 _ _ (by dsimp only;omega)) _ _ (by dsimp only;omega),far_set (far_set hx5 _ _ (by dsimp only;omega)) _ _ (by dsimp only;omega),far_set (far_set hx6 _ _ (by dsimp only;omega)) _ _ (by dsimp only;omega),far_set (far_set hx7 _ _ (by dsimp only;omega)) _ _ (by dsimp only;omega),far_set (far_set hx8 _ _ (by dsimp only;omega)) _ _ (by dsimp only;omega),far_set (far_set hx9 _ _ (by dsimp only;omega)) _ _ (by dsimp only;omega),far_set (far_set hx10 _ _ (by dsimp only;omega)) _ _ (by dsimp only;omega),far_set (far_set hx11 _ _ (by dsimp only;omega)) _ _ (by dsimp only;omega),far_set (far_set hx12 _ _ (by dsimp only;omega)) _ _ (by dsimp only;omega),far_set (far_set hx13 _ _ (by dsimp only;omega)) _ _ (by dsimp only;omega),far_set (far_set hx14 _ _ (by dsimp only;omega)) _ _ (by dsimp only;omega),far_set (far_set hx15 _ _ (by dsimp only;omega)) _ _ (by dsimp only;omega)⟩ (fun hHeld2=>?_)
    replace hbx:=bl_set (bl_set hbx (a:=⟨rn,0,none⟩) hrn (.int .i64 ((roomOf 100:Nat):Int))) (a:=⟨rn,1,none⟩) hrn (.slice a3 F3.length c3)
    replace hsn:=(hsn.set (rn:=rn) (.inr rfl) 0 (.int .i64 ((roomOf 100:Nat):Int))).set (rn:=rn) (.inr rfl) 1 (.slice a3 F3.length c3)
    obtain⟨z0,z1⟩:=set2b (v0:=.int .i64 ((roomOf 100:Nat):Int)) (v1:=.slice a3 F3.length c3) z0 z1
    clear hK K f0 f1 hx0 hx1 hx2 hx3 hx4 hx5 hx6 hx7 hx8 hx9 hx10 hx11 hx12 hx13 hx14 hx15
    have hHeld:=hHeld2
    clear hHeld2
    try simp only[Act.put,List.setIfInBounds_toArray,List.set_cons_zero,List.set_cons_succ]
    refine tkx 11 ?_
    refine wpAnyH_done (by kernel_rfl) ?_ _
    refine then_abs (F:=fun X=>Below X6.heap.size X6 X∧Sn X (A2 p3 (w3.heap.size) rn) L2 (.slice a3 F3.length c3) F3∧X.cell? ⟨rn,0,none⟩=some (.int .i64 ((roomOf 100:Nat):Int))∧X.cell? ⟨rn,1,none⟩=some (.slice a3 F3.length c3)) ⟨hbx,hsn,z0,z1⟩ ?_
    clear hHeld hbx hsn z0 z1 hFB
    rintro W9 ⟨hbx,hsn,u0,u1⟩
   case' brB1 =>
    intro K hK
    obtain⟨hx0,hx1,hx2,hx3,hx4,hx5,hx6,hx7,hx8,hx9,hx10,hx11,hx12,hx13,hx14,hx15⟩:=(id hHeld)
    clear hHeld
    go_simp
    refine hK.out _ _ ⟨bl_cell (bl_alloc (bl_refl _) _) hx0,bl_cell (bl_alloc (bl_refl _) _) hx1,bl_cell (bl_alloc (bl_refl _) _) hx2,bl_cell (bl_alloc (bl_refl _) _) hx3,bl_cell (bl_alloc (bl_refl _) _) hx4,bl_cell (bl_alloc (bl_refl _) _) hx5,bl_cell (bl_alloc (bl_refl _) _) hx6,bl_cell (bl_alloc (bl_refl _) _) hx7,bl_cell (bl_alloc (bl_refl _) _) hx8,bl_cell (bl_alloc (bl_refl _) _) hx9,bl_cell (bl_alloc (bl_refl _) _) hx10,bl_cell (bl_alloc (bl_refl _) _) hx11,bl_cell (bl_alloc (bl_refl _) _) hx12,bl_cell (bl_alloc (bl_refl _) _) hx13,bl_cell (bl_alloc (bl_refl _) _) hx14,bl_cell (bl_alloc (bl_refl _) _) hx15⟩ (fun hHeld2=>?_)
    clear hK K hx0 hx1 hx2 hx3 hx4 hx5 hx6 hx7 hx8 hx9 hx10 hx11 hx12 hx13 hx14 hx15
    have hHeld:=hHeld2
    clear hHeld2
    try simp only[Act.put,List.setIfInBounds_toArray,List.set_cons_zero,List.set_cons_succ]
    have hrn:X6.heap.size≤Y0.heap.size:=hbx.size
    refine wpAnyH_abs (F:=fun X=>Below X6.heap.size X6 X∧X.cell? ⟨Y0.heap.size,0,none⟩=some (.int .i64 0)∧X.cell? ⟨Y0.heap.size,1,none⟩=some (.slice none 0 0)∧FB X Y0.heap.size 2∧Y0.heap.size<X.heap.size) hHeld ⟨bl_alloc hbx _,by simp,by simp,fb_new #[_,_] _ rfl,by simp⟩ ?_
    clear hHeld hbx
    generalize Y0.heap.size=rn at *
    rintro Y25 hHeld ⟨hbx,z0,z1,hFB,hrn2⟩
    refine callC (i:=5) rfl (fun K hK=>?_)
    obtain⟨hx0,hx1,hx2,hx3,hx4,hx5,hx6,hx7,hx8,hx9,hx10,hx11,hx12,hx13,hx14,hx15⟩:=(id hHeld)
    clear hHeld
    go_simp
    refine(HST2.out _ _ _ HSD3.out _ hbx rn hrn hrn2).mono ?_
    rintro e Y6 ⟨v3,F3,rfl,hsn,hb⟩
    obtain⟨a3,c3,rfl⟩:=cs_form hsn.row.1
    have HX:Hid ((fun X=>X.cell? ⟨xb,xo+j*14,none⟩=some (.int .i64 dk)∧X.cell? ⟨xb,xo+j*14+1,none⟩=some (.string KE)∧X.cell? ⟨xb,xo+j*14+2,none⟩=some (.int .i64 ek)∧X.cell? ⟨xb,xo+j*14+3,none⟩=some (.int .i64 el)∧X.cell? ⟨xb,xo+j*14+4,none⟩=some (.int .i64 ed)∧X.cell? ⟨xb,xo+j*14+5,none⟩=some (.int .i64 eb)∧X.cell? ⟨xb,xo+j*14+6,none⟩=some (.int .i64 ec)∧X.cell? ⟨xb,xo+j*14+7,none⟩=some (.bool eo)∧X.cell? ⟨xb,xo+j*14+8,none⟩=some (.int .i64 eat)∧X.cell? ⟨xb,xo+j*14+9,none⟩=some (.int .i64 elev)∧X.cell? ⟨xb,xo+j*14+10,none⟩=some (.int .i64 eheld)∧X.cell? ⟨xb,xo+j*14+11,none⟩=some (.slice ea en ecp)∧X.cell? ⟨xb,xo+j*14+12,none⟩=some (.int .i64 enow)∧X.cell? ⟨xb,xo+j*14+13,none⟩=some (.int .i64 ecost)∧X.cell? ⟨w3.heap.size,0,none⟩=some (.int .i64 ((roomOf 100:Nat):Int))∧X.cell? ⟨w3.heap.size,1,none⟩=some (.slice ra Js.length rc)) Y6):=Go.Lib.hid ⟨bl_cell hb hx0,bl_cell hb hx1,bl_cell hb hx2,bl_cell hb hx3,bl_cell hb hx4,bl_cell hb hx5,bl_cell hb hx6,bl_cell hb hx7,bl_cell hb hx8,bl_cell hb hx9,bl_cell hb hx10,bl_cell hb hx11,bl_cell hb hx12,bl_cell hb hx13,bl_cell hb hx14,bl_cell hb hx15⟩
    replace hbx:=bl_then hbx hb
    replace z0:=bl_cell hb z0
    replace z1:=bl_cell hb z1
    replace hFB:=fb_bl hFB hb
    replace hrn2:=Nat.lt_of_lt_of_le hrn2 hb.size
    clear hb hx0 hx1 hx2 hx3 hx4 hx5 hx6 hx7 hx8 hx9 hx10 hx11 hx12 hx13 hx14 hx15
    have HSN:=Go.Lib.hid hsn
    have HBX:=Go.Lib.hid hbx
    clear hsn hbx
    go_wp2_with fail
    refine hK.out _ _ HX.out (fun hHeld2=>?_)
    clear hK K HX
    have hHeld:=hHeld2
    clear hHeld2
    have hsn:=HSN.out
    have hbx:=HBX.out
    clear HSN HBX
    try simp only[Act.put,List.setIfInBounds_toArray,List.set_cons_zero,List.set_cons_succ]
    refine tkx 6 ?_
    refine tkx 7 ?_
    refine tkx 8 ?_
    refine callC (i:=10) rfl (fun K hK=>?_)
    obtain⟨hx0,hx1,hx2,hx3,hx4,hx5,hx6,hx7,hx8,hx9,hx10,hx11,hx12,hx13,hx14,hx15⟩:=(id hHeld)
    clear hHeld
    obtain⟨⟨-,f0⟩,⟨-,f1⟩⟩:=And.intro (hFB 0 (by omega)) (hFB 1 (by omega))
    go_simp
    refine hK.out _ _ ⟨far_set (far_set hx0 _ _ (by dsimp only;omega)) _ _ (by dsimp only;omega),far_set (far_set hx1 _ _ (by dsimp only;omega)) _ _ (by dsimp only;omega),far_set (far_set hx2 _ _ (by dsimp only;omega)) _ _ (by dsimp only;omega),far_set (far_set hx3 _ _ (by dsimp only;omega)) _ _ (by dsimp only;omega),far_set (far_set hx4 _ _ (by dsimp only;omega)) _ _ (by dsimp only;omega),far_set (far_set hx5 _ _ (by dsimp only;omega)) _ _ (by dsimp only;omega),far_set (far_set hx6 _ _ (by dsimp only;omega)) _ _ (by dsimp only;omega),far_set (far_set hx7 _ _ (by dsimp only;omega)) _ _ (by dsimp only;omega),far_set (far_set hx8 _ _ (by dsimp only;omega)) _ _ (by dsimp only;omega),far_set (far_set hx9 _ _ (by dsimp only;omega)) _ _ (by dsimp only;omega),far_set (far_set hx10 _ _ (by dsimp only;omega)) _ _ (by dsimp only;omega),far_set (far_set hx11 _ _ (by dsimp only;omega)) _ _ (by dsimp only;omega),far_set (far_set hx12 _ _ (by dsimp only;omega)) _ _ (by dsimp only;omega),far_set (far_set hx13 _ _ (by dsimp only;omega)) _ _ (by dsimp only;omega),far_set (far_set hx14 _ _ (by dsimp only;omega)) _ _ (by dsimp only;omega),far_set (far_set hx15 _ _ (by dsimp only;omega)) _ _ (by dsimp only;omega)⟩ (fun hHeld2=>?_)
    replace hbx:=bl_set (bl_set hbx (a:=⟨rn,0,none⟩) hrn (.int .i64 ((roomOf 100:Nat):Int))) (a:=⟨rn,1,none⟩) hrn (.slice a3 F3.length c3)
    replace hsn:=(hsn.set (rn:=rn) (.inr rfl) 0 (.int .i64 ((roomOf 100:Nat):Int))).set (rn:=rn) (.inr rfl) 1 (.slice a3 F3.length c3)
    obtain⟨z0,z1⟩:=set2b (v0:=.int .i64 ((roomOf 100:Nat):Int)) (v1:=.slice a3 F3.length c3) z0 z1
    clear hK K f0 f1 hx0 hx1 hx2 hx3 hx4 hx5 hx6 hx7 hx8 hx9 hx10 hx11 hx12 hx13 hx14 hx15
    have hHeld:=hHeld2
    clear hHeld2
    try simp only[Act.put,List.setIfInBounds_toArray,List.set_cons_zero,List.set_cons_succ]
    refine tkx 11 ?_
    refine wpAnyH_done (by kernel_rfl) ?_ _
    refine then_abs (F:=fun X=>Below X6.heap.size X6 X∧Sn X (A2 p3 (w3.heap.size) rn) L2 (.slice a3 F3.length c3) F3∧X.cell? ⟨rn,0,none⟩=some (.int .i64 ((roomOf 100:Nat):Int))∧X.cell? ⟨rn,1,none⟩=some (.slice a3 F3.length c3)) ⟨hbx,hsn,z0,z1⟩ ?_
    clear hHeld hbx hsn z0 z1 hFB
    rintro W9 ⟨hbx,hsn,u0,u1⟩
   all_goals
    have hsd4:=HSD3.out.to hbx
    obtain⟨⟨-,tf0⟩,⟨-,tf1⟩⟩:=And.intro (hsd4.tR 0 (by omega)) (hsd4.tR 1 (by omega))
    have t0:=hsd4.t0
    have t1:=hsd4.t1
    have hsd5:=hsd4.put hsn (fun q hq => .inl hq)
    have HSD5:=Go.Lib.hid hsd5
    have HMAP:=Go.Lib.hid hsn.map
    clear hsd4 hsd5 hsn hbx HSD3
    go_wp2_with fail
    clear tf0 tf1 t0 t1 u0 u1
    go_roundw
    case rel=>exact⟨j+1,by go_num,hj1,⟨p3,nx3,.slice a3 F3.length c3,F3,HSD5.out⟩⟩
    case measure=>(simp[intOf];first|exact hms|omega)
  ·have hk1:¬ (j:Int)<(m:Int):=by omega
   have hj41:j≤40:=by omega
   go_wp2_with fail
   refine(sd_all hsd (by omega)).mono ?_
   rintro e w4 ⟨a5,N,c5,Ks,rfl,hN,hrk,hmk,-,hsk,hb⟩
   have hN4:N≤10000:=by have:=hsd.len;rw[List.length_map] at hN;omega
   have hsd4:=hsd.to hb
   have hNK:N=Ks.length:=by rw[hN,← hmk,List.length_map]
   have hap:=cells_apart hsd.cells
   have HSD4:=Go.Lib.hid hsd4
   have HROW:=Go.Lib.hid hsk.row
   have HOWN:=Go.Lib.hid hrk
   have HSK:=Go.Lib.hid hsk
   have HMK:=Go.Lib.hid hmk
   have HN:=Go.Lib.hid hNK
   have HAP:=Go.Lib.hid hap
   have HNJ:=Go.Lib.hid hN
   clear hsd hsd4 hrk hsk hmk hN hNK hap hb hjn hk1 hj
   go_wp2_with fail
   go_loopw [11,12] (fun s11 s12 wq=>∃ (k:Nat) (Fs:List LC),s12=.int .i64 k∧k≤N∧Hid (Fs=(Ks.take k).filter (fun i => !(cFresh now i.x))∧wq.ownsRow w4.heap.size 59 11 s11 Fs.length (lcells Fs)∧Below w4.heap.size w4 wq)) (fun _ s12 _=>N - (intOf s12).toNat)
   case atStart=>exact⟨0,[],rfl,Nat.zero_le _,⟨rfl,World.ownsRow_nil _ _ _ _,bl_refl _⟩⟩
   case round =>
    obtain⟨k,Fs,rfl,hk,H⟩:=hrel
    obtain⟨hFs,ow,hB⟩:=H.out
    clear H
    obtain⟨fa,fc,rfl⟩:=cs_form ow
    have hFl:Fs.length≤k:=by rw[hFs];refine Nat.le_trans (List.length_filter_le _ _) ?_;rw[List.length_take];omega
    have HFS:=Go.Lib.hid hFs
    have HOW:=Go.Lib.hid ow
    clear hFs ow
    by_cases hkN:k<N
    ·obtain ⟨i,hik⟩:∃ i,Ks[k]?=some i:=⟨Ks[k]'(by rw[← HN.out];omega),List.getElem?_eq_getElem _⟩
     obtain⟨g,cap,e,rc0,rc1,rc2,rc3,rc4,rc5,rc6,rc7,rc8,rc9,rc10⟩:=crow_at (crow_bl HROW.out hB) hik
     injection e with e1 e2 e3
     subst e1 e3
     have k0:(0:Int)≤(k:Int):=by omega
     have k1:(k:Int)<(N:Int):=by omega
     have HIK:=Go.Lib.hid hik
     clear hik e2
     have hfr:=fun W hW=>rfresh_any i.x i.a i.n i.c now W hW
     have hlog:=(crow_bl HROW.out hB).2 i (List.mem_of_getElem? HIK.out)
     have hfs2:=(split_nth HIK.out).2
     have HT2:=Go.Lib.hid hfs2
     obtain⟨RF,hRF⟩:∃ RF,RF=cFresh now i.x:=⟨_,rfl⟩
     rw[← hRF] at hfr
     have HRF:=Go.Lib.hid hRF
     clear hRF hfs2
     have HLC:Hid (lcell i=[.string (ktx i.x.key),.int .i64 i.x.pol.kind,.int .i64 i.x.pol.limit,.int .i64 i.x.pol.period,.int .i64 i.x.pol.burst,.int .i64 i.x.pol.cap,.bool i.x.pol.opn,.int .i64 i.x.st.at_,.int .i64 i.x.st.level,.int .i64 i.x.st.held,.slice i.a i.n i.c]):=Go.Lib.hid rfl
     obtain⟨⟨key,⟨kk,l,d,b,cc,o⟩,⟨at_,level,held,LG⟩⟩,a,n,c⟩:=i
     unfold Cl.v at *
     dsimp only at *
     generalize ktx key=KY at *
     have HLOG:=Go.Lib.hid hlog
     have HFR:=Go.Lib.hid hfr
     clear hlog hfr
     go_wp2_with fail
     refine(HFR.out _ HLOG.out).mono ?_
     rintro e w5 ⟨rfl,hb5⟩
     replace rc0:=bl_cell hb5 rc0
     replace rc1:=bl_cell hb5 rc1
     replace rc2:=bl_cell hb5 rc2
     replace rc3:=bl_cell hb5 rc3
     replace rc4:=bl_cell hb5 rc4
     replace rc5:=bl_cell hb5 rc5
     replace rc6:=bl_cell hb5 rc6
     replace rc7:=bl_cell hb5 rc7
     replace rc8:=bl_cell hb5 rc8
     replace rc9:=bl_cell hb5 rc9
     replace rc10:=bl_cell hb5 rc10
     have HOW5:=Go.Lib.hid (row_bl HOW.out hb5)
     have hB5:=bl_then hB hb5
     have hsz4:=hB.size
     have hsz5:=hb5.size
     clear hb5
     cases RF
     ·obtain ⟨i0,hi,hz0,hz1,hz2⟩:=info_parts infoC
      go_wp2_with (at_builtin;refine wpList_append_own _ rfl _ _ 53 rfl w4.heap.size 59 i0 _ 11 112 undC hi hz0 hz1 hz2 rfl (by decide) _ _ _ rfl (HOW5.out.alloc _) ⟨w5.heap.size,0,none⟩ 1 1 (lcell ⟨⟨key,⟨kk,l,d,b,cc,o⟩,⟨at_,level,held,LG⟩⟩,a,n,c⟩) rfl ?q1 ?q2 ?q3 ?q4 ?q5 ?q6 ?_)
      case q1=>rfl
      case q2 =>
       intro q u hq
       rw[HLC.out] at hq
       exact new_cells _ _ hq
      case q3=>exact lcell_one _
      case q4=>simp only[maxLen];omega
      case q5=>omega
      case q6=>simp;omega
      intro v6 w6 hown6 hgrow6 hnil6
      have HO6:=Go.Lib.hid hown6
      have HG6:=Go.Lib.hid hgrow6
      clear hown6 hgrow6 hnil6 hi hz0 hz1 hz2
      go_wp2_with fail
      go_roundw
      case rel =>
       refine⟨k+1,Fs ++ [⟨⟨key,⟨kk,l,d,b,cc,o⟩,⟨at_,level,held,LG⟩⟩,a,n,c⟩],by go_num,by omega,⟨?_,?_,?_⟩⟩
       ·rw[HT2.out,List.filter_append,← HFS.out];congr 1;simp[← HRF.out]
       ·rw[lcells_append,lcells_one,List.length_append];exact HO6.out
       ·exact(bl_alloc hB5 _).grown HG6.out (by simp;omega) (fun q hq=>(World.ownsRow.lt HOW5.out q hq).1)
      case measure=>simp[intOf];omega
     ·go_wp2_with fail
      go_roundw
      case rel =>
       refine⟨k+1,Fs,by go_num,by omega,⟨?_,HOW5.out,hB5⟩⟩
       rw[HT2.out,List.filter_append,← HFS.out];simp[← HRF.out]
      case measure=>simp[intOf];omega
    ·have hkk:k=N:=by omega
     subst hkk
     have hkN2:¬ (k:Int)<(k:Int):=by omega
     have hfm:Fs.map (·.x)=cKept (Js.map (·.x)) now:=by
      rw[HFS.out,HN.out,List.take_of_length_le (Nat.le_refl _),← HMK.out];unfold cKept;rw[List.filter_map];rfl
     have hfsub:∀ i ∈ Fs,i ∈ Ks:=fun i hi=>by rw[HFS.out] at hi;exact List.mem_of_mem_take (List.mem_filter.1 hi).1
     have hsn:Sn wr (CF p2) (cKept (Js.map (·.x)) now) (.slice fa Fs.length fc) Fs:=⟨⟨row_base HOW.out (Nat.zero_le _),fun i hi=>(crow_bl HROW.out hB).2 i (hfsub i hi)⟩,hfm,fun i hi=>HSK.out.lf i (hfsub i hi),fun q hq hx=>by have:=(World.ownsRow.lt HOW.out q hq).1;have:=cells_lt HSD4.out.cells q hx;omega⟩
     have hsw:=sd_sweep now (HSD4.out.to hB) (by omega)
     have hswq:cSweep (Js.map (·.x)) now=(cKept (Js.map (·.x)) now,(k:Int) - (Fs.length:Int)):=by unfold cSweep;rw[← HNJ.out,← hfm,List.length_map]
     rw[hswq] at hsw
     dsimp only at hsw
     have hFl2:Fs.length≤k:=hFl
     have hwr:wrap64 ((k:Int) - (Fs.length:Int))=(k:Int) - (Fs.length:Int):=by unfold wrap64;omega
     have HSW:=Go.Lib.hid hsw
     have HSN:=Go.Lib.hid hsn
     have HFM:=Go.Lib.hid hfm
     clear hsw hsn hfm hswq hfsub
     go_wp2_with fail
     refine HSW.out.mono ?_
     rintro e w6 ⟨rfl,p3,nx3,hsd6,hmv⟩
     have hsn6:=HSN.out.moved hmv
     have HSN6:=Go.Lib.hid hsn6
     have HSD6:=Go.Lib.hid hsd6
     clear hsd6 hsn6 hmv HSW HSN
     go_wp2_with fail
     refine(sd_all HSD6.out (by omega)).mono ?_
     rintro e w7 ⟨a7,N7,c7,Ks7,rfl,hN7,hrk7,hmk7,-,-,hb7⟩
     have hsn7:=HSN6.out.to hb7
     have hsd7:=HSD6.out.to hb7
     have hFl7:Fs.length≤10000:=by omega
     have hl7:Ks7.length=Fs.length:=by have:=congrArg List.length (hmk7.trans HFM.out.symm);rw[List.length_map,List.length_map] at this;exact this
     have hsm:=rsame_yes (.slice a7 N7 c7) (.slice fa Fs.length fc) w7 hrk7 hsn7.row (hmk7.trans HFM.out.symm) (by omega)
     have HSN7:=Go.Lib.hid hsn7
     have HSD7:=Go.Lib.hid hsd7
     have HSM:=Go.Lib.hid hsm
     clear hsn7 hsd7 hsm hrk7 hmk7 hb7 hN7
     go_wp2_with fail
     refine HSM.out.mono ?_
     rintro e w8 ⟨rfl,hb8⟩
     have hsd8:=HSD7.out.to hb8
     have hsw:=sd_sweep now hsd8 (by omega)
     rw[sweep_twice] at hsw
     dsimp only at hsw
     have HSW:=Go.Lib.hid hsw
     clear hsd8 hb8 hsw
     go_wp2_with fail
     refine HSW.out.mono ?_
     rintro e w9 ⟨rfl,p9,nx9,hsd9,-⟩
     have hle:=sd_len hsd9
     have hkl:(cKept (Js.map (·.x)) now).length=Fs.length:=by rw[← HFM.out,List.length_map]
     rw[hkl] at hle
     have HLE:=Go.Lib.hid hle
     have HSD9:=Go.Lib.hid hsd9
     clear hle hsd9 hkl
     go_wp2_with fail
     refine HLE.out.mono ?_
     rintro e w10 ⟨rfl,hb10⟩
     have hB10:=bl_then (bl_then HB1.out HSD9.out.bl) hb10
     have HB10:=Go.Lib.hid hB10
     clear hb10 hB10
     go_wp2_with fail
     refine(HKN.out _).mono ?_
     rintro e w11 ⟨rfl,hb11⟩
     have hB11:=bl_then HB10.out hb11
     clear hb11
     go_wp2_with fail
     go_ret
     first|exact⟨rfl,hB11⟩|exact hB11
theorem csweeps_row (la:Option Addr) (m lc:Nat) (ds:Nat→CD) (now:Int) (w:World) (hA:CDosIn w la m ds):Calls Tryz.prog 6 #[.slice la m lc,.int .i64 now] w fun e w'=>e=.returned (.bool true)∧Below w.heap.size w w':=by
 by_cases hm:(40:Int)<m
 ·exact csweeps_long la m lc ds now w hA hm
 ·exact csweeps_run la m lc ds now w hA hm
theorem csweeps_walk (la:Option Addr) (m lc:Nat) (ds:Nat→CD) (now:Int) (w:World) (hA:CDosIn w la m ds) (_ : -9223372036854775808≤now) (_:now≤9223372036854775807):Calls Tryz.prog 6 #[.slice la m lc,.int .i64 now] w fun e w'=>e=.returned (.bool true)∧Below w.heap.size w w':=csweeps_row la m lc ds now w hA
end Go.Proofs.YtmhikkbdhboodaaGreat

namespace Go.Proofs.YtmhikkbdhboodaaGreat.cellsSweeps
open Go.ChangeShapes Go.WideShapes Go.ChangeAt Go.RowKit
open Go.ChangeMaps (open_string shut_string)
set_option linter.unusedVariables false
set_option linter.unusedSimpArgs false

theorem own:ownKnob Tryz.prog.godebug=none:=by kernel_rfl
theorem laidOut:laidOutB Tryz.prog=true:=by kernel_rfl

set_option maxHeartbeats 1000000 in
set_option maxRecDepth 100000 in
theorem lifted (os:Os) (started:os.Started) (H:Type) (enc:TypeId × Value→H) :
  ReturnsInHanded {} Tryz.checked os 6 .any (Rows.cellsSweepsSpec.pre6 enc Tryz.prog Tryz.f6 Rows.cellsSweepsRow.domain false) (Rows.cellsSweepsSpec.post enc Tryz.prog Tryz.f6 false true false false):=by
 refine returnsInHanded_of_change (C:=Tryz.checked) own started (by kernel_rfl) Tryz.func6
  (ChangeSpec.witness6 (enc:=enc) (C:=Tryz.checked) false ⟨#[],#[.slice none 0 0,.int .i64 0],[]⟩ 8 (by kernel_rfl) (by kernel_rfl) (by kernel_rfl) (by kernel_rfl)) ?_
 intro W base args ds gs before hval0 hW hcnd _
 have hval:∀ (j:Nat) t v,Tryz.f6.params[j]?=some t→args[j]?=some v→Value.okWide Tryz.prog W .any base t v:=hval0
 have hW':=hW
 obtain⟨p,q,hA0,hV,rfl,hfz,hnd⟩:=hW
 have hA:DataW.TrodAll enc Tryz.prog W 0 (fun _=>true) true Tryz.f6.params.toList args.toList ds p:=hA0
 rw[Tryz.params6] at hA hval
 obtain⟨v0,vs0,d0,ds0',p0,q0,hargs,rfl,rfl,h0,r0⟩:=trodAll_cons hA
 obtain⟨v1,vs1,d1,ds1',p1,q1,rfl,rfl,rfl,h1,r1⟩:=trodAll_cons r0
 obtain⟨rfl,rfl,rfl⟩:=trodAll_nil r1
 obtain rfl:args = #[v0,v1]:=by cases args;simp_all
 obtain⟨rfl,rfl⟩:=trodVars_none hV
 obtain⟨a0,len0,cap0,rfl⟩:=okWide_slice Tryz.underlying49 (hval 0 49 v0 rfl rfl)
 have k0:=h0
 have lt0:∀ x ∈ p0,x.block<W.heap.size:=by obtain⟨m,hm⟩:=k0;exact DataW.trod_lt m _ _ _ hm
 obtain⟨ds0,w0⟩:∃ ds,CDosIn W a0 len0 ds:=by obtain⟨fuel,hf⟩:=h0;exact open_cds (by simpa [Value.cells] using hf)
 obtain⟨a1,rfl,rfl,rfl,w1⟩:=open_int Tryz.underlying3 (hval 1 3 v1 rfl rfl) h1
 have b1l : -9223372036854775808≤a1:=by have h:=w1;simp only[Lit.wf,Bool.and_eq_true,decide_eq_true_eq] at h;exact h.1
 have b1h:a1≤9223372036854775807:=by have h:=w1;simp only[Lit.wf,Bool.and_eq_true,decide_eq_true_eq] at h;exact h.2
 clear hA0 hval0
 refine(csweeps_walk a0 len0 cap0 ds0 a1 W w0 b1l b1h).mono fun e W' ⟨he,bel⟩=>?_
 subst he
 exact⟨_,rfl,_,_,_,[],_,[],hW',trodAll_mk1 (shut_bool Tryz.underlying4 _),(trodAll_cons_mk (Below.trod laidOut (by kernel_rfl) (of_decide_eq_true (by kernel_rfl)) k0 bel lt0) (trodAll_cons_mk (shut_int Tryz.underlying3 w1) trodAll_mk0)),rfl,bel.frame _,fun h=>by cases h⟩

theorem over:Rows.cellsSweepsRow.holds Tryz.pinned (OpenSpec.ofChange Rows.cellsSweepsSpec) :=
 OpenClaim.holds_of_wide 6 Tryz.f6 rfl rfl rfl rfl rfl rfl rfl ⟨rfl,rfl,rfl,rfl,rfl⟩ rfl rfl rfl rfl rfl (by kernel_rfl) Tryz.func6 (by kernel_rfl)
  (of_decide_eq_true (by kernel_rfl)) (by unfold Func.isWrapper;first|(rw[if_pos (by decide +kernel)];kernel_rfl)|(rw[if_neg (by decide +kernel)];exact⟨rfl,rfl⟩))
  (fun os started H enc _=>lifted os started H enc)

/-- The statement. -/
theorem proved:Rows.CellsSweepsSaid:=over
end Go.Proofs.YtmhikkbdhboodaaGreat.cellsSweeps
