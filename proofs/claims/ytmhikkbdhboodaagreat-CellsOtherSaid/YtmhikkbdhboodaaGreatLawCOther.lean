/-
  The statement CellsOther of this seat: for every input the law returns true, and each argument reads afterwards as it read before. No condition.
-/
import Derived.Test.YtmhikkbdhboodaaGreatZcX
import Derived.Test.YtmhikkbdhboodaaGreatRows
import Derived.WalkKit
import Derived.ProofKit
import Derived.OpenShut
import Derived.ShutString
import Derived.ChangeOld
import Derived.Below
namespace Go.Proofs.YtmhikkbdhboodaaGreat
open Go.RowKit Go.Maps
set_option linter.unusedVariables false
set_option linter.unusedSimpArgs false

set_option maxHeartbeats 8000000 in
set_option maxRecDepth 100000 in
theorem cother_long (la:Option Addr) (m lc:Nat) (ds:Nat→CD) (s:ByteArray) (q:Pol) (now:Int) (w:World) (hA:CDosIn w la m ds) (hs:s.size≤maxLen) (hm:(40:Int)<m):Calls Tryz.prog 11 #[.slice la m lc,.string s,q.v,.int .i64 now] w fun e w'=>e=.returned (.bool true)∧Below w.heap.size w w':=by
 have h41:40<m:=by omega
 have HKN:=Go.Lib.hid cknown
 clear hA
 unfold Pol.v
 go_enter Tryz.func11,Tryz.ntmps11
 go_wp2_with fail
 refine(HKN.out _).mono ?_
 rintro e w1 ⟨rfl,hb⟩
 have hx:Below w.heap.size w w1:=bl_then (bl_alloc (bl_refl _) _) hb
 have hsz1:w.heap.size+1≤w1.heap.size:=szl hb
 obtain⟨pb0,pb1,pb2,pb3,pb4,pb5⟩:=b6 (w.heap.size) (q.kind) (q.limit) (q.period) (q.burst) (q.cap) (q.opn) hb
 have hB:Below w.heap.size w w1:=hx
 have lb_pb:=lbc pb0
 clear hb hx
 go_wp2_with fail
 go_ret
 exact⟨rfl,hB⟩
set_option maxHeartbeats 8000000 in
set_option maxRecDepth 100000 in
theorem cother_run (la:Option Addr) (m lc:Nat) (ds:Nat→CD) (s:ByteArray) (q:Pol) (now:Int) (w:World) (hA:CDosIn w la m ds) (hs:s.size≤maxLen) (hm:¬ (40:Int)<m):Calls Tryz.prog 11 #[.slice la m lc,.string s,q.v,.int .i64 now] w fun e w'=>e=.returned (.bool true)∧Below w.heap.size w w':=by
 have HKN:=Go.Lib.hid cknown
 have HA:=Go.Lib.hid hA
 have HLG:=Go.Lib.hid (fun W hW=>clong_any la m lc ds W (cds_bl hA hW))
 have h41:¬ 40<m:=by omega
 clear hA
 unfold Pol.v
 go_enter Tryz.func11,Tryz.ntmps11
 go_wp2_with fail
 refine(HLG.out _ (bl_alloc (bl_refl _) _)).mono ?_
 rintro e w1 ⟨lq,rfl,hb⟩
 have hx:Below w.heap.size w w1:=bl_then (bl_alloc (bl_refl _) _) hb
 have hsz1:w.heap.size+1≤w1.heap.size:=szl hb
 obtain⟨pb0,pb1,pb2,pb3,pb4,pb5⟩:=b6 (w.heap.size) (q.kind) (q.limit) (q.period) (q.burst) (q.cap) (q.opn) hb
 have hB:Below w.heap.size w w1:=hx
 have lb_pb:=lbc pb0
 clear hb hx
 by_cases hq:600<lq
 ·go_wp2_with fail
  refine(HKN.out _).mono ?_
  rintro e w2 ⟨rfl,hb⟩
  have hsz2:w1.heap.size+0≤w2.heap.size:=szl hb
  replace pb0:=bl_cell hb pb0
  replace pb1:=bl_cell hb pb1
  replace pb2:=bl_cell hb pb2
  replace pb3:=bl_cell hb pb3
  replace pb4:=bl_cell hb pb4
  replace pb5:=bl_cell hb pb5
  replace hB:Below w.heap.size w w2:=bl_then hB hb
  replace lb_pb:=lbc pb0
  clear hb
  go_wp2_with fail
  go_ret
  exact⟨rfl,hB⟩
 by_cases hg0:100<s.size
 ·have hgi0:(100:Int)<(s.size:Nat):=by omega
  go_wp2_with fail
  refine(HKN.out _).mono ?_
  rintro e w2 ⟨rfl,hb⟩
  have hsz2:w1.heap.size+0≤w2.heap.size:=szl hb
  replace pb0:=bl_cell hb pb0
  replace pb1:=bl_cell hb pb1
  replace pb2:=bl_cell hb pb2
  replace pb3:=bl_cell hb pb3
  replace pb4:=bl_cell hb pb4
  replace pb5:=bl_cell hb pb5
  replace hB:Below w.heap.size w w2:=bl_then hB hb
  replace lb_pb:=lbc pb0
  clear hb
  go_wp2_with fail
  go_ret
  exact⟨rfl,hB⟩
 have hgi0:¬ (100:Int)<(s.size:Nat):=by omega
 go_wp2_with fail
 have HB1:=Go.Lib.hid hB
 clear hB
 refine(csnew_any 100 _).mono ?_
 rintro e w2 ⟨p,rfl,hc,hb,hF⟩
 have HC:=Go.Lib.hid hc
 have HB2:=Go.Lib.hid hb
 have HF:=Go.Lib.hid hF
 have qpb0:=bl_cell hb pb0
 have qpb1:=bl_cell hb pb1
 have qpb2:=bl_cell hb pb2
 have qpb3:=bl_cell hb pb3
 have qpb4:=bl_cell hb pb4
 have qpb5:=bl_cell hb pb5
 clear hc hb hF
 go_wp2_with fail
 refine(rnew_any 100 _).mono ?_
 rintro e w3 ⟨rfl,hb3⟩
 have HB3:=Go.Lib.hid hb3
 clear hb3 qpb0 qpb1 qpb2 qpb3 qpb4 qpb5
 unfold TV
 go_wp2_with fail
 go_loopw [11] (fun s11 wr=>∃ j:Nat,s11=.int .i64 j∧j≤m∧Hid (StI w1 wr w3.heap.size p.b (roomOf (100)) j)) (fun s11 _=>m - (intOf s11).toNat)
 case atStart=>exact⟨0,rfl,Nat.zero_le _,Go.Lib.hid ⟨p,0,.slice none 0 0,[],sd_start HC.out HB2.out HF.out HB3.out⟩⟩
 case round =>
  obtain⟨j,rfl,hj,H⟩:=hrel
  obtain⟨p2,nx,v,Js,hsd⟩:=H.out
  clear H HC HB2 HF HB3
  by_cases hjn:j<m
  ·obtain ⟨hks,hlg,xb,xo,hla,y0,y1,y2,y3,y4,y5,y6,y7,y8,y9,y10,y11,y12,y13⟩:=(cds_bl HA.out HB1.out).2 j hjn
   subst hla
   have hap:=cells_apart hsd.cells
   have hlen:=hsd.len
   have hm40:(m:Int)≤40:=by omega
   have hj41:j≤40:=by omega
   have k0:(0:Int)≤(j:Int):=by omega
   have k1:(j:Int)<(m:Int):=by omega
   have hms:m - (j+1)<m - j:=by omega
   have hj1:j+1≤m:=hjn
   have wj:IntKind.i64.wrap ((j:Int)+1)=(j:Int)+1:=IntWalk.i64_in _ (by omega)
   obtain⟨ra,rc,rfl⟩:=cs_form hsd.row.1
   obtain⟨Z,hZ⟩:∃ Z,Z=cStep (roomOf 100) (Js.map (·.x)) (ds j):=⟨_,rfl⟩
   have hdd:=fun W (h:Sd w1 W (w3.heap.size) p.b (roomOf 100) (j) p2 nx (Js.map (·.x)) (.slice ra Js.length rc) Js)=>sd_did (d:=ds j) h hlg hks (by omega)
   have hst1:=fun p3 nx3 W (h:Sd w1 W (w3.heap.size) p.b (roomOf 100) (j+1) p3 nx3 ((cStep (roomOf 100) (Js.map (·.x)) (ds j)).1) (.slice ra Js.length rc) Js)=>sd_step1 (d:=ds j) h rfl hlen hap hlg hks
   have hst2:=fun p3 nx3 X (h:Sd w1 X (w3.heap.size) p.b (roomOf 100) (j+1) p3 nx3 ((cStep (roomOf 100) (Js.map (·.x)) (ds j)).1) (.slice ra Js.length rc) Js) W (hb:Below X.heap.size X W) rn hr hr2=>sd_step2 (d:=ds j) h hb (rn:=rn) hr hr2 rfl hlen hap hlg hks
   simp only[← hZ] at hdd hst1 hst2
   obtain⟨L2,rr⟩:=Z
   have HSD:=Go.Lib.hid hsd
   have HLG:=Go.Lib.hid hlg
   have HZ:=Go.Lib.hid hZ
   have HKS:=Go.Lib.hid hks
   clear hZ hsd hlg hap hks
   generalize hde:ds j=d at *
   have HDE:=Go.Lib.hid hde
   clear hde
   obtain⟨dk,⟨ekey,⟨ek,el,ed,eb,ec,eo⟩,⟨eat,elev,eheld,EL⟩⟩,ea,en,ecp,enow,ecost⟩:=d
   unfold TV CD.v at *
   dsimp only at *
   generalize hKE:ktx ekey=KE at *
   have HKE:=Go.Lib.hid hKE
   clear hKE
   have HY:=Go.Lib.hid (⟨y0,y1,y2,y3,y4,y5,y6,y7,y8,y9,y10,y11,y12,y13⟩:w1.cell? ⟨xb,xo+j*14,none⟩=some (.int .i64 dk)∧w1.cell? ⟨xb,xo+j*14+1,none⟩=some (.string KE)∧w1.cell? ⟨xb,xo+j*14+2,none⟩=some (.int .i64 ek)∧w1.cell? ⟨xb,xo+j*14+3,none⟩=some (.int .i64 el)∧w1.cell? ⟨xb,xo+j*14+4,none⟩=some (.int .i64 ed)∧w1.cell? ⟨xb,xo+j*14+5,none⟩=some (.int .i64 eb)∧w1.cell? ⟨xb,xo+j*14+6,none⟩=some (.int .i64 ec)∧w1.cell? ⟨xb,xo+j*14+7,none⟩=some (.bool eo)∧w1.cell? ⟨xb,xo+j*14+8,none⟩=some (.int .i64 eat)∧w1.cell? ⟨xb,xo+j*14+9,none⟩=some (.int .i64 elev)∧w1.cell? ⟨xb,xo+j*14+10,none⟩=some (.int .i64 eheld)∧w1.cell? ⟨xb,xo+j*14+11,none⟩=some (.slice ea en ecp)∧w1.cell? ⟨xb,xo+j*14+12,none⟩=some (.int .i64 enow)∧w1.cell? ⟨xb,xo+j*14+13,none⟩=some (.int .i64 ecost))
   clear y0 y1 y2 y3 y4 y5 y6 y7 y8 y9 y10 y11 y12 y13
   have HDD:=Go.Lib.hid hdd
   have HST1:=Go.Lib.hid hst1
   have HST2:=Go.Lib.hid hst2
   clear hdd hst1 hst2
   go_wp2_with fail
   obtain⟨y0,y1,y2,y3,y4,y5,y6,y7,y8,y9,y10,y11,y12,y13⟩:=HY.out
   have x0:=bl_cell HSD.out.bl y0
   have x1:=bl_cell HSD.out.bl y1
   have x2:=bl_cell HSD.out.bl y2
   have x3:=bl_cell HSD.out.bl y3
   have x4:=bl_cell HSD.out.bl y4
   have x5:=bl_cell HSD.out.bl y5
   have x6:=bl_cell HSD.out.bl y6
   have x7:=bl_cell HSD.out.bl y7
   have x8:=bl_cell HSD.out.bl y8
   have x9:=bl_cell HSD.out.bl y9
   have x10:=bl_cell HSD.out.bl y10
   have x11:=bl_cell HSD.out.bl y11
   have x12:=bl_cell HSD.out.bl y12
   have x13:=bl_cell HSD.out.bl y13
   clear y0 y1 y2 y3 y4 y5 y6 y7 y8 y9 y10 y11 y12 y13
   have x14:=HSD.out.t0
   have x15:=HSD.out.t1
   refine wp_region_held_drew (S:=fun X=>X.cell? ⟨xb,xo+j*14,none⟩=some (.int .i64 dk)∧X.cell? ⟨xb,xo+j*14+1,none⟩=some (.string KE)∧X.cell? ⟨xb,xo+j*14+2,none⟩=some (.int .i64 ek)∧X.cell? ⟨xb,xo+j*14+3,none⟩=some (.int .i64 el)∧X.cell? ⟨xb,xo+j*14+4,none⟩=some (.int .i64 ed)∧X.cell? ⟨xb,xo+j*14+5,none⟩=some (.int .i64 eb)∧X.cell? ⟨xb,xo+j*14+6,none⟩=some (.int .i64 ec)∧X.cell? ⟨xb,xo+j*14+7,none⟩=some (.bool eo)∧X.cell? ⟨xb,xo+j*14+8,none⟩=some (.int .i64 eat)∧X.cell? ⟨xb,xo+j*14+9,none⟩=some (.int .i64 elev)∧X.cell? ⟨xb,xo+j*14+10,none⟩=some (.int .i64 eheld)∧X.cell? ⟨xb,xo+j*14+11,none⟩=some (.slice ea en ecp)∧X.cell? ⟨xb,xo+j*14+12,none⟩=some (.int .i64 enow)∧X.cell? ⟨xb,xo+j*14+13,none⟩=some (.int .i64 ecost)∧X.cell? ⟨w3.heap.size,0,none⟩=some (.int .i64 ((roomOf 100:Nat):Int))∧X.cell? ⟨w3.heap.size,1,none⟩=some (.slice ra Js.length rc)) (by kernel_rfl) ?_ (fun hHeld=>?_)
   ·exact⟨x0,x1,x2,x3,x4,x5,x6,x7,x8,x9,x10,x11,x12,x13,x14,x15⟩
   try simp only[Act.put,List.setIfInBounds_toArray,List.set_cons_zero,List.set_cons_succ]
   refine wpAnyH_abs (F:=fun X=>Sd w1 X (w3.heap.size) p.b (roomOf 100) (j) p2 nx (Js.map (·.x)) (.slice ra Js.length rc) Js) hHeld (HSD.out.to (bl_drew (bl_refl _))) ?_
   clear hHeld HSD x0 x1 x2 x3 x4 x5 x6 x7 x8 x9 x10 x11 x12 x13 x14 x15
   rintro X0 hHeld hsd
   refine tkx 0 ?_
   refine tkx 1 ?_
   refine tkx 2 ?_
   refine tkx 3 ?_
   refine tkx 4 ?_
   refine tkx 5 ?_
   refine callC (i:=6) rfl (fun K hK=>?_)
   clear hHeld
   go_simp
   refine(HDD.out _ hsd).mono ?_
   rintro e X6 ⟨rfl,p3,nx3,hsd3,hO3⟩
   obtain⟨y0,y1,y2,y3,y4,y5,y6,y7,y8,y9,y10,y11,y12,y13⟩:=HY.out
   have x0:=bl_cell hsd3.bl y0
   have x1:=bl_cell hsd3.bl y1
   have x2:=bl_cell hsd3.bl y2
   have x3:=bl_cell hsd3.bl y3
   have x4:=bl_cell hsd3.bl y4
   have x5:=bl_cell hsd3.bl y5
   have x6:=bl_cell hsd3.bl y6
   have x7:=bl_cell hsd3.bl y7
   have x8:=bl_cell hsd3.bl y8
   have x9:=bl_cell hsd3.bl y9
   have x10:=bl_cell hsd3.bl y10
   have x11:=bl_cell hsd3.bl y11
   have x12:=bl_cell hsd3.bl y12
   have x13:=bl_cell hsd3.bl y13
   clear y0 y1 y2 y3 y4 y5 y6 y7 y8 y9 y10 y11 y12 y13
   have x14:=hsd3.t0
   have x15:=hsd3.t1
   have HX:Hid ((fun X=>X.cell? ⟨xb,xo+j*14,none⟩=some (.int .i64 dk)∧X.cell? ⟨xb,xo+j*14+1,none⟩=some (.string KE)∧X.cell? ⟨xb,xo+j*14+2,none⟩=some (.int .i64 ek)∧X.cell? ⟨xb,xo+j*14+3,none⟩=some (.int .i64 el)∧X.cell? ⟨xb,xo+j*14+4,none⟩=some (.int .i64 ed)∧X.cell? ⟨xb,xo+j*14+5,none⟩=some (.int .i64 eb)∧X.cell? ⟨xb,xo+j*14+6,none⟩=some (.int .i64 ec)∧X.cell? ⟨xb,xo+j*14+7,none⟩=some (.bool eo)∧X.cell? ⟨xb,xo+j*14+8,none⟩=some (.int .i64 eat)∧X.cell? ⟨xb,xo+j*14+9,none⟩=some (.int .i64 elev)∧X.cell? ⟨xb,xo+j*14+10,none⟩=some (.int .i64 eheld)∧X.cell? ⟨xb,xo+j*14+11,none⟩=some (.slice ea en ecp)∧X.cell? ⟨xb,xo+j*14+12,none⟩=some (.int .i64 enow)∧X.cell? ⟨xb,xo+j*14+13,none⟩=some (.int .i64 ecost)∧X.cell? ⟨w3.heap.size,0,none⟩=some (.int .i64 ((roomOf 100:Nat):Int))∧X.cell? ⟨w3.heap.size,1,none⟩=some (.slice ra Js.length rc)) X6):=Go.Lib.hid ⟨x0,x1,x2,x3,x4,x5,x6,x7,x8,x9,x10,x11,x12,x13,x14,x15⟩
   have HSD3:=Go.Lib.hid hsd3
   clear hsd hsd3 hO3 x0 x1 x2 x3 x4 x5 x6 x7 x8 x9 x10 x11 x12 x13 x14 x15
   go_wp2_with fail
   refine hK.out _ _ HX.out (fun hHeld2=>?_)
   clear hK K
   have hHeld:=hHeld2
   clear hHeld2
   try simp only[Act.put,List.setIfInBounds_toArray,List.set_cons_zero,List.set_cons_succ]
   refine wpAnyH_done (by kernel_rfl) ?_ _
   clear hHeld HX
   go_wp2_with fail
   obtain⟨y0,y1,y2,y3,y4,y5,y6,y7,y8,y9,y10,y11,y12,y13⟩:=HY.out
   have x0:=bl_cell HSD3.out.bl y0
   have x1:=bl_cell HSD3.out.bl y1
   have x2:=bl_cell HSD3.out.bl y2
   have x3:=bl_cell HSD3.out.bl y3
   have x4:=bl_cell HSD3.out.bl y4
   have x5:=bl_cell HSD3.out.bl y5
   have x6:=bl_cell HSD3.out.bl y6
   have x7:=bl_cell HSD3.out.bl y7
   have x8:=bl_cell HSD3.out.bl y8
   have x9:=bl_cell HSD3.out.bl y9
   have x10:=bl_cell HSD3.out.bl y10
   have x11:=bl_cell HSD3.out.bl y11
   have x12:=bl_cell HSD3.out.bl y12
   have x13:=bl_cell HSD3.out.bl y13
   clear y0 y1 y2 y3 y4 y5 y6 y7 y8 y9 y10 y11 y12 y13
   have x14:=HSD3.out.t0
   have x15:=HSD3.out.t1
   refine wp_region_held_drew (S:=fun X=>X.cell? ⟨xb,xo+j*14,none⟩=some (.int .i64 dk)∧X.cell? ⟨xb,xo+j*14+1,none⟩=some (.string KE)∧X.cell? ⟨xb,xo+j*14+2,none⟩=some (.int .i64 ek)∧X.cell? ⟨xb,xo+j*14+3,none⟩=some (.int .i64 el)∧X.cell? ⟨xb,xo+j*14+4,none⟩=some (.int .i64 ed)∧X.cell? ⟨xb,xo+j*14+5,none⟩=some (.int .i64 eb)∧X.cell? ⟨xb,xo+j*14+6,none⟩=some (.int .i64 ec)∧X.cell? ⟨xb,xo+j*14+7,none⟩=some (.bool eo)∧X.cell? ⟨xb,xo+j*14+8,none⟩=some (.int .i64 eat)∧X.cell? ⟨xb,xo+j*14+9,none⟩=some (.int .i64 elev)∧X.cell? ⟨xb,xo+j*14+10,none⟩=some (.int .i64 eheld)∧X.cell? ⟨xb,xo+j*14+11,none⟩=some (.slice ea en ecp)∧X.cell? ⟨xb,xo+j*14+12,none⟩=some (.int .i64 enow)∧X.cell? ⟨xb,xo+j*14+13,none⟩=some (.int .i64 ecost)∧X.cell? ⟨w3.heap.size,0,none⟩=some (.int .i64 ((roomOf 100:Nat):Int))∧X.cell? ⟨w3.heap.size,1,none⟩=some (.slice ra Js.length rc)) (by kernel_rfl) ?_ (fun hHeld=>?_)
   ·exact⟨x0,x1,x2,x3,x4,x5,x6,x7,x8,x9,x10,x11,x12,x13,x14,x15⟩
   try simp only[Act.put,List.setIfInBounds_toArray,List.set_cons_zero,List.set_cons_succ]
   clear x0 x1 x2 x3 x4 x5 x6 x7 x8 x9 x10 x11 x12 x13 x14 x15
   refine wpAnyH_abs (F:=fun X=>Below X6.heap.size X6 X) hHeld (bl_drew (bl_refl _)) ?_
   clear hHeld
   rintro Y0 hHeld hbx
   have hlt0:=HSD3.out.tlt
   have hlt1:xb<X6.heap.size:=by obtain⟨y0,-⟩:=HY.out;have h1:=World.block_lt_of_cell? _ _ y0;have h2:=HSD3.out.bl.size;dsimp only at h1;omega
   refine tkx 0 ?_
   refine tkx 1 ?_
   refine tkx 2 ?_
   refine tkx 3 ?_
   refine tkx 4 ?_
   refine callC2 (i:=5) (j:=9) rfl rfl ?brA1 ?brB1
   case' brA1 =>
    intro K hK
    obtain⟨hx0,hx1,hx2,hx3,hx4,hx5,hx6,hx7,hx8,hx9,hx10,hx11,hx12,hx13,hx14,hx15⟩:=(id hHeld)
    clear hHeld
    go_simp
    refine(HST1.out _ _ _ (HSD3.out.to hbx)).mono ?_
    rintro e Y5 ⟨v3,F3,rfl,hsn,hb⟩
    obtain⟨a3,c3,rfl⟩:=cs_form hsn.row.1
    have HX:Hid ((fun X=>X.cell? ⟨xb,xo+j*14,none⟩=some (.int .i64 dk)∧X.cell? ⟨xb,xo+j*14+1,none⟩=some (.string KE)∧X.cell? ⟨xb,xo+j*14+2,none⟩=some (.int .i64 ek)∧X.cell? ⟨xb,xo+j*14+3,none⟩=some (.int .i64 el)∧X.cell? ⟨xb,xo+j*14+4,none⟩=some (.int .i64 ed)∧X.cell? ⟨xb,xo+j*14+5,none⟩=some (.int .i64 eb)∧X.cell? ⟨xb,xo+j*14+6,none⟩=some (.int .i64 ec)∧X.cell? ⟨xb,xo+j*14+7,none⟩=some (.bool eo)∧X.cell? ⟨xb,xo+j*14+8,none⟩=some (.int .i64 eat)∧X.cell? ⟨xb,xo+j*14+9,none⟩=some (.int .i64 elev)∧X.cell? ⟨xb,xo+j*14+10,none⟩=some (.int .i64 eheld)∧X.cell? ⟨xb,xo+j*14+11,none⟩=some (.slice ea en ecp)∧X.cell? ⟨xb,xo+j*14+12,none⟩=some (.int .i64 enow)∧X.cell? ⟨xb,xo+j*14+13,none⟩=some (.int .i64 ecost)∧X.cell? ⟨w3.heap.size,0,none⟩=some (.int .i64 ((roomOf 100:Nat):Int))∧X.cell? ⟨w3.heap.size,1,none⟩=some (.slice ra Js.length rc)) Y5):=Go.Lib.hid ⟨bl_cell hb hx0,bl_cell hb hx1,bl_cell hb hx2,bl_cell hb hx3,bl_cell hb hx4,bl_cell hb hx5,bl_cell hb hx6,bl_cell hb hx7,bl_cell hb hx8,bl_cell hb hx9,bl_cell hb hx10,bl_cell hb hx11,bl_cell hb hx12,bl_cell hb hx13,bl_cell hb hx14,bl_cell hb hx15⟩
    replace hbx:=bl_then hbx hb
    clear hb hx0 hx1 hx2 hx3 hx4 hx5 hx6 hx7 hx8 hx9 hx10 hx11 hx12 hx13 hx14 hx15
    have HSN:=Go.Lib.hid hsn
    have HBX:=Go.Lib.hid hbx
    clear hsn hbx
    go_wp2_with fail
    refine hK.out _ _ HX.out (fun hHeld2=>?_)
    clear hK K HX
    have hHeld:=hHeld2
    clear hHeld2
    have hsn:=HSN.out
    have hbx:=HBX.out
    clear HSN HBX
    try simp only[Act.put,List.setIfInBounds_toArray,List.set_cons_zero,List.set_cons_succ]
    refine tkx 6 ?_
    refine tkx 7 ?_
    refine tkx 8 ?_
    refine callC (i:=9) rfl (fun K hK=>?_)
    obtain⟨hx0,hx1,hx2,hx3,hx4,hx5,hx6,hx7,hx8,hx9,hx10,hx11,hx12,hx13,hx14,hx15⟩:=(id hHeld)
    clear hHeld
    go_simp
    refine hK.out _ _ ⟨bl_cell (bl_alloc (bl_refl _) _) hx0,bl_cell (bl_alloc (bl_refl _) _) hx1,bl_cell (bl_alloc (bl_refl _) _) hx2,bl_cell (bl_alloc (bl_refl _) _) hx3,bl_cell (bl_alloc (bl_refl _) _) hx4,bl_cell (bl_alloc (bl_refl _) _) hx5,bl_cell (bl_alloc (bl_refl _) _) hx6,bl_cell (bl_alloc (bl_refl _) _) hx7,bl_cell (bl_alloc (bl_refl _) _) hx8,bl_cell (bl_alloc (bl_refl _) _) hx9,bl_cell (bl_alloc (bl_refl _) _) hx10,bl_cell (bl_alloc (bl_refl _) _) hx11,bl_cell (bl_alloc (bl_refl _) _) hx12,bl_cell (bl_alloc (bl_refl _) _) hx13,bl_cell (bl_alloc (bl_refl _) _) hx14,bl_cell (bl_alloc (bl_refl _) _) hx15⟩ (fun hHeld2=>?_)
    clear hK K hx0 hx1 hx2 hx3 hx4 hx5 hx6 hx7 hx8 hx9 hx10 hx11 hx12 hx13 hx14 hx15
    have hHeld:=hHeld2
    clear hHeld2
    try simp only[Act.put,List.setIfInBounds_toArray,List.set_cons_zero,List.set_cons_succ]
    have hrn:X6.heap.size≤Y5.heap.size:=hbx.size
    refine wpAnyH_abs (F:=fun X=>Below X6.heap.size X6 X∧Sn X (A2 p3 (w3.heap.size) Y5.heap.size) L2 (.slice a3 F3.length c3) F3∧X.cell? ⟨Y5.heap.size,0,none⟩=some (.int .i64 0)∧X.cell? ⟨Y5.heap.size,1,none⟩=some (.slice none 0 0)∧FB X Y5.heap.size 2∧Y5.heap.size<X.heap.size) hHeld ⟨bl_alloc hbx _,(hsn.new (Nat.le_refl _)).to (bl_alloc (bl_refl _) _),by simp,by simp,fb_new #[_,_] _ rfl,by simp⟩ ?_
    clear hHeld hbx hsn
    generalize Y5.heap.size=rn at *
    rintro Y29 hHeld ⟨hbx,hsn,z0,z1,hFB,hrn2⟩
    refine callC (i:=10) rfl (fun K hK=>?_)
    obtain⟨hx0,hx1,hx2,hx3,hx4,hx5,hx6,hx7,hx8,hx9,hx10,hx11,hx12,hx13,hx14,hx15⟩:=(id hHeld)
    clear hHeld
    obtain⟨⟨-,f0⟩,⟨-,f1⟩⟩:=And.intro (hFB 0 (by omega)) (hFB 1 (by omega))
    go_simp
    refine hK.out _ _ ⟨far_set (far_set hx0 _ _ (by dsimp only;omega)) _ _ (by dsimp only;omega),far_set (far_set hx1 _ _ (by dsimp only;omega)) _ _ (by dsimp only;omega),far_set (far_set hx2 _ _ (by dsimp only;omega)) _ _ (by dsimp only;omega),far_set (far_set hx3 _ _ (by dsimp only;omega)) _ _ (by dsimp only;omega),far_set (far_set hx4 _ _ (by dsimp only;omega)) _ _ (by dsimp only;omega),far_set (far_set hx5 _ _ (by dsimp only;omega)) _ _ (by dsimp only;omega),far_set (far_set hx6 _ _ (by dsimp only;omega)) _ _ (by dsimp only;omega),far_set (far_set hx7 _ _ (by dsimp only;omega)) _ _ (by dsimp only;omega),far_set (far_set hx8 _ _ (by dsimp only;omega)) _ _ (by dsimp only;omega),far_set (far_set hx9 _ _ (by dsimp only;omega)) _ _ (by dsimp only;omega),far_set (far_set hx10 _ _ (by dsimp only;omega)) _ _ (by dsimp only;omega),far_set (far_set hx11 _ _ (by dsimp only;omega)) _ _ (by dsimp only;omega),far_set (far_set hx12 _ _ (by dsimp only;omega)) _ _ (by dsimp only;omega),far_set (far_set hx13 _ _ (by dsimp only;omega)) _ _ (by dsimp only;omega),far_set (far_set hx14 _ _ (by dsimp only;omega)) _ _ (by dsimp only;omega),far_set (far_set hx15 _ _ (by dsimp only;omega)) _ _ (by dsimp only;omega)⟩ (fun hHeld2=>?_)
    replace hbx:=bl_set (bl_set hbx (a:=⟨rn,0,none⟩) hrn (.int .i64 ((roomOf 100:Nat):Int))) (a:=⟨rn,1,none⟩) hrn (.slice a3 F3.length c3)
    replace hsn:=(hsn.set (rn:=rn) (.inr rfl) 0 (.int .i64 ((roomOf 100:Nat):Int))).set (rn:=rn) (.inr rfl) 1 (.slice a3 F3.length c3)
    obtain⟨z0,z1⟩:=set2b (v0:=.int .i64 ((roomOf 100:Nat):Int)) (v1:=.slice a3 F3.length c3) z0 z1
    clear hK K f0 f1 hx0 hx1 hx2 hx3 hx4 hx5 hx6 hx7 hx8 hx9 hx10 hx11 hx12 hx13 hx14 hx15
    have hHeld:=hHeld2
    clear hHeld2
    try simp only[Act.put,List.setIfInBounds_toArray,List.set_cons_zero,List.set_cons_succ]
    refine tkx 11 ?_
    refine wpAnyH_done (by kernel_rfl) ?_ _
    refine then_abs (F:=fun X=>Below X6.heap.size X6 X∧Sn X (A2 p3 (w3.heap.size) rn) L2 (.slice a3 F3.length c3) F3∧X.cell? ⟨rn,0,none⟩=some (.int .i64 ((roomOf 100:Nat):Int))∧X.cell? ⟨rn,1,none⟩=some (.slice a3 F3.length c3)) ⟨hbx,hsn,z0,z1⟩ ?_
    clear hHeld hbx hsn z0 z1 hFB
    rintro W9 ⟨hbx,hsn,u0,u1⟩
   case' brB1 =>
    intro K hK
    obtain⟨hx0,hx1,hx2,hx3,hx4,hx5,hx6,hx7,hx8,hx9,hx10,hx11,hx12,hx13,hx14,hx15⟩:=(id hHeld)
    clear hHeld
    go_simp
    refine hK.out _ _ ⟨bl_cell (bl_alloc (bl_refl _) _) hx0,bl_cell (bl_alloc (bl_refl _) _) hx1,bl_cell (bl_alloc (bl_refl _) _) hx2,bl_cell (bl_alloc (bl_refl _) _) hx3,bl_cell (bl_alloc (bl_refl _) _) hx4,bl_cell (bl_alloc (bl_refl _) _) hx5,bl_cell (bl_alloc (bl_refl _) _) hx6,bl_cell (bl_alloc (bl_refl _) _) hx7,bl_cell (bl_alloc (bl_refl _) _) hx8,bl_cell (bl_alloc (bl_refl _) _) hx9,bl_cell (bl_alloc (bl_refl _) _) hx10,bl_cell (bl_alloc (bl_refl _) _) hx11,bl_cell (bl_alloc (bl_refl _) _) hx12,bl_cell (bl_alloc (bl_refl _) _) hx13,bl_cell (bl_alloc (bl_refl _) _) hx14,bl_cell (bl_alloc (bl_refl _) _) hx15⟩ (fun hHeld2=>?_)
    clear hK K hx0 hx1 hx2 hx3 hx4 hx5 hx6 hx7 hx8 hx9 hx10 hx11 hx12 hx13 hx14 hx15
    have hHeld:=hHeld2
    clear hHeld2
    try simp only[Act.put,List.setIfInBounds_toArray,List.set_cons_zero,List.set_cons_succ]
    have hrn:X6.heap.size≤Y0.heap.size:=hbx.size
    refine wpAnyH_abs (F:=fun X=>Below X6.heap.size X6 X∧X.cell? ⟨Y0.heap.size,0,none⟩=some (.int .i64 0)∧X.cell? ⟨Y0.heap.size,1,none⟩=some (.slice none 0 0)∧FB X Y0.heap.size 2∧Y0.heap.size<X.heap.size) hHeld ⟨bl_alloc hbx _,by simp,by simp,fb_new #[_,_] _ rfl,by simp⟩ ?_
    clear hHeld hbx
    generalize Y0.heap.size=rn at *
    rintro Y25 hHeld ⟨hbx,z0,z1,hFB,hrn2⟩
    refine callC (i:=5) rfl (fun K hK=>?_)
    obtain⟨hx0,hx1,hx2,hx3,hx4,hx5,hx6,hx7,hx8,hx9,hx10,hx11,hx12,hx13,hx14,hx15⟩:=(id hHeld)
    clear hHeld
    go_simp
    refine(HST2.out _ _ _ HSD3.out _ hbx rn hrn hrn2).mono ?_
    rintro e Y6 ⟨v3,F3,rfl,hsn,hb⟩
    obtain⟨a3,c3,rfl⟩:=cs_form hsn.row.1
    have HX:Hid ((fun X=>X.cell? ⟨xb,xo+j*14,none⟩=some (.int .i64 dk)∧X.cell? ⟨xb,xo+j*14+1,none⟩=some (.string KE)∧X.cell? ⟨xb,xo+j*14+2,none⟩=some (.int .i64 ek)∧X.cell? ⟨xb,xo+j*14+3,none⟩=some (.int .i64 el)∧X.cell? ⟨xb,xo+j*14+4,none⟩=some (.int .i64 ed)∧X.cell? ⟨xb,xo+j*14+5,none⟩=some (.int .i64 eb)∧X.cell? ⟨xb,xo+j*14+6,none⟩=some (.int .i64 ec)∧X.cell? ⟨xb,xo+j*14+7,none⟩=some (.bool eo)∧X.cell? ⟨xb,xo+j*14+8,none⟩=some (.int .i64 eat)∧X.cell? ⟨xb,xo+j*14+9,none⟩=some (.int .i64 elev)∧X.cell? ⟨xb,xo+j*14+10,none⟩=some (.int .i64 eheld)∧X.cell? ⟨xb,xo+j*14+11,none⟩=some (.slice ea en ecp)∧X.cell? ⟨xb,xo+j*14+12,none⟩=some (.int .i64 enow)∧X.cell? ⟨xb,xo+j*14+13,none⟩=some (.int .i64 ecost)∧X.cell? ⟨w3.heap.size,0,none⟩=some (.int .i64 ((roomOf 100:Nat):Int))∧X.cell? ⟨w3.heap.size,1,none⟩=some (.slice ra Js.length rc)) Y6):=Go.Lib.hid ⟨bl_cell hb hx0,bl_cell hb hx1,bl_cell hb hx2,bl_cell hb hx3,bl_cell hb hx4,bl_cell hb hx5,bl_cell hb hx6,bl_cell hb hx7,bl_cell hb hx8,bl_cell hb hx9,bl_cell hb hx10,bl_cell hb hx11,bl_cell hb hx12,bl_cell hb hx13,bl_cell hb hx14,bl_cell hb hx15⟩
    replace hbx:=bl_then hbx hb
    replace z0:=bl_cell hb z0
    replace z1:=bl_cell hb z1
    replace hFB:=fb_bl hFB hb
    replace hrn2:=Nat.lt_of_lt_of_le hrn2 hb.size
    clear hb hx0 hx1 hx2 hx3 hx4 hx5 hx6 hx7 hx8 hx9 hx10 hx11 hx12 hx13 hx14 hx15
    have HSN:=Go.Lib.hid hsn
    have HBX:=Go.Lib.hid hbx
    clear hsn hbx
    go_wp2_with fail
    refine hK.out _ _ HX.out (fun hHeld2=>?_)
    clear hK K HX
    have hHeld:=hHeld2
    clear hHeld2
    have hsn:=HSN.out
    have hbx:=HBX.out
    clear HSN HBX
    try simp only[Act.put,List.setIfInBounds_toArray,List.set_cons_zero,List.set_cons_succ]
    refine tkx 6 ?_
    refine tkx 7 ?_
    refine tkx 8 ?_
    refine callC (i:=10) rfl (fun K hK=>?_)
    obtain⟨hx0,hx1,hx2,hx3,hx4,hx5,hx6,hx7,hx8,hx9,hx10,hx11,hx12,hx13,hx14,hx15⟩:=(id hHeld)
    clear hHeld
    obtain⟨⟨-,f0⟩,⟨-,f1⟩⟩:=And.intro (hFB 0 (by omega)) (hFB 1 (by omega))
    go_simp
    refine hK.out _ _ ⟨far_set (far_set hx0 _ _ (by dsimp only;omega)) _ _ (by dsimp only;omega),far_set (far_set hx1 _ _ (by dsimp only;omega)) _ _ (by dsimp only;omega),far_set (far_set hx2 _ _ (by dsimp only;omega)) _ _ (by dsimp only;omega),far_set (far_set hx3 _ _ (by dsimp only;omega)) _ _ (by dsimp only;omega),far_set (far_set hx4 _ _ (by dsimp only;omega)) _ _ (by dsimp only;omega),far_set (far_set hx5 _ _ (by dsimp only;omega)) _ _ (by dsimp only;omega),far_set (far_set hx6 _ _ (by dsimp only;omega)) _ _ (by dsimp only;omega),far_set (far_set hx7 _ _ (by dsimp only;omega)) _ _ (by dsimp only;omega),far_set (far_set hx8 _ _ (by dsimp only;omega)) _ _ (by dsimp only;omega),far_set (far_set hx9 _ _ (by dsimp only;omega)) _ _ (by dsimp only;omega),far_set (far_set hx10 _ _ (by dsimp only;omega)) _ _ (by dsimp only;omega),far_set (far_set hx11 _ _ (by dsimp only;omega)) _ _ (by dsimp only;omega),far_set (far_set hx12 _ _ (by dsimp only;omega)) _ _ (by dsimp only;omega),far_set (far_set hx13 _ _ (by dsimp only;omega)) _ _ (by dsimp only;omega),far_set (far_set hx14 _ _ (by dsimp only;omega)) _ _ (by dsimp only;omega),far_set (far_set hx15 _ _ (by dsimp only;omega)) _ _ (by dsimp only;omega)⟩ (fun hHeld2=>?_)
    replace hbx:=bl_set (bl_set hbx (a:=⟨rn,0,none⟩) hrn (.int .i64 ((roomOf 100:Nat):Int))) (a:=⟨rn,1,none⟩) hrn (.slice a3 F3.length c3)
    replace hsn:=(hsn.set (rn:=rn) (.inr rfl) 0 (.int .i64 ((roomOf 100:Nat):Int))).set (rn:=rn) (.inr rfl) 1 (.slice a3 F3.length c3)
    obtain⟨z0,z1⟩:=set2b (v0:=.int .i64 ((roomOf 100:Nat):Int)) (v1:=.slice a3 F3.length c3) z0 z1
    clear hK K f0 f1 hx0 hx1 hx2 hx3 hx4 hx5 hx6 hx7 hx8 hx9 hx10 hx11 hx12 hx13 hx14 hx15
    have hHeld:=hHeld2
    clear hHeld2
    try simp only[Act.put,List.setIfInBounds_toArray,List.set_cons_zero,List.set_cons_succ]
    refine tkx 11 ?_
    refine wpAnyH_done (by kernel_rfl) ?_ _
    refine then_abs (F:=fun X=>Below X6.heap.size X6 X∧Sn X (A2 p3 (w3.heap.size) rn) L2 (.slice a3 F3.length c3) F3∧X.cell? ⟨rn,0,none⟩=some (.int .i64 ((roomOf 100:Nat):Int))∧X.cell? ⟨rn,1,none⟩=some (.slice a3 F3.length c3)) ⟨hbx,hsn,z0,z1⟩ ?_
    clear hHeld hbx hsn z0 z1 hFB
    rintro W9 ⟨hbx,hsn,u0,u1⟩
   all_goals
    have hsd4:=HSD3.out.to hbx
    obtain⟨⟨-,tf0⟩,⟨-,tf1⟩⟩:=And.intro (hsd4.tR 0 (by omega)) (hsd4.tR 1 (by omega))
    have t0:=hsd4.t0
    have t1:=hsd4.t1
    have hsd5:=hsd4.put hsn (fun q hq => .inl hq)
    have HSD5:=Go.Lib.hid hsd5
    have HMAP:=Go.Lib.hid hsn.map
    clear hsd4 hsd5 hsn hbx HSD3
    go_wp2_with fail
    clear tf0 tf1 t0 t1 u0 u1
    go_roundw
    case rel=>exact⟨j+1,by go_num,hj1,⟨p3,nx3,.slice a3 F3.length c3,F3,HSD5.out⟩⟩
    case measure=>(simp[intOf];first|exact hms|omega)
  ·have hk1:¬ (j:Int)<(m:Int):=by omega
   have hj41:j≤40:=by omega
   go_wp2_with fail
   refine(sd_all hsd (by omega)).mono ?_
   rintro e w4 ⟨a5,N,c5,Ks,rfl,hN,hrk,hmk,-,hsk,hb⟩
   have hN4:N≤10000:=by have:=hsd.len;rw[List.length_map] at hN;omega
   have hsd4:=hsd.to hb
   have hNK:N=Ks.length:=by rw[hN,← hmk,List.length_map]
   have hap:=cells_apart hsd.cells
   have HSD4:=Go.Lib.hid hsd4
   have HROW:=Go.Lib.hid hsk.row
   have HOWN:=Go.Lib.hid hrk
   have HSK:=Go.Lib.hid hsk
   have HMK:=Go.Lib.hid hmk
   have HN:=Go.Lib.hid hNK
   have HAP:=Go.Lib.hid hap
   have HNJ:=Go.Lib.hid hN
   clear hsd hsd4 hrk hsk hmk hN hNK hap hb hjn hk1 hj
   obtain⟨LS,hLS⟩:∃ z,z=cLook (Js.map (·.x)) s.data.toList q now:=⟨_,rfl⟩
   have hlk:=sd_look s q now HSD4.out hs (by omega)
   rw[← hLS] at hlk
   have hkeep:∀ x:Cl,x ∈ Js.map (·.x)→x.key=s.data.toList→x.pol=q→x.st=LS:=fun x hx e1 e2=>by rw[hLS,← e1,← e2];exact(look_is HAP.out hx).symm
   have hnone:(∀ x ∈ Js.map (·.x),¬ (x.key=s.data.toList∧x.pol=q))→LS=newP q now:=fun h=>by rw[hLS];exact look_no h
   have HKEEP:=Go.Lib.hid hkeep
   have HNONE:=Go.Lib.hid hnone
   clear hkeep hnone hLS
   obtain⟨lat,llev,lheld,LLG⟩:=LS
   have heq:=fun(i:LC) W=>pol_eql i.x.pol q W
   have hnw:=fun W=>r8new_any q now W
   obtain⟨NW,hNW⟩:∃ z,z=newP q now:=⟨_,rfl⟩
   rw[← hNW] at hnw
   have HNW:=Go.Lib.hid hNW
   have hnl:=newP_log q now
   rw[← hNW] at hnl
   have HNL:=Go.Lib.hid hnl
   clear hNW hnl
   obtain⟨nat,nlev,nheld,nlog⟩:=NW
   obtain⟨PE,hPE⟩:∃ PE:Pol→Bool,PE=fun p=>polE p q:=⟨_,rfl⟩
   have HPE:=Go.Lib.hid hPE
   have hPE2:∀ p,polE p q=PE p:=fun p=>by rw[hPE]
   simp only[hPE2] at heq
   clear hPE2 hPE
   have HQ:Hid (q=q):=Go.Lib.hid rfl
   unfold St.v Pol.v at *
   dsimp only at *
   have qb0:=bl_cell HSD4.out.bl pb0
   have qb1:=bl_cell HSD4.out.bl pb1
   have qb2:=bl_cell HSD4.out.bl pb2
   have qb3:=bl_cell HSD4.out.bl pb3
   have qb4:=bl_cell HSD4.out.bl pb4
   have qb5:=bl_cell HSD4.out.bl pb5
   have HLK:=Go.Lib.hid hlk
   have HEQ:=Go.Lib.hid heq
   have HNWC:=Go.Lib.hid hnw
   clear hlk heq hnw
   go_wp2_with fail
   refine HLK.out.mono ?_
   rintro e w5 ⟨a6,n6,c6,rfl,hlg6,hb6⟩
   replace qb0:=bl_cell hb6 qb0
   replace qb1:=bl_cell hb6 qb1
   replace qb2:=bl_cell hb6 qb2
   replace qb3:=bl_cell hb6 qb3
   replace qb4:=bl_cell hb6 qb4
   replace qb5:=bl_cell hb6 qb5
   have HLG6:=Go.Lib.hid hlg6
   have HB6:=Go.Lib.hid hb6
   clear hlg6 hb6 HLK
   go_wp2_with fail
   refine wp_abs (S0:=fun X=>(Sd w1 X (w3.heap.size) p.b (roomOf 100) (j) p2 nx (Js.map (·.x)) (v) Js)∧CRow X 0 (.slice a5 N c5) Ks∧LogAt X a6 n6 c6 LLG∧X.cell? ⟨w.heap.size,0,none⟩=some (.int .i64 q.kind)∧X.cell? ⟨w.heap.size,1,none⟩=some (.int .i64 q.limit)∧X.cell? ⟨w.heap.size,2,none⟩=some (.int .i64 q.period)∧X.cell? ⟨w.heap.size,3,none⟩=some (.int .i64 q.burst)∧X.cell? ⟨w.heap.size,4,none⟩=some (.int .i64 q.cap)∧X.cell? ⟨w.heap.size,5,none⟩=some (.bool q.opn)∧S4 X (w5.heap.size) lat llev lheld a6 n6 c6 (w5.heap.size<X.heap.size)) ⟨HSD4.out.to (bl_then HB6.out (bl_alloc (bl_refl _) _)),crow_bl HROW.out (bl_then HB6.out (bl_alloc (bl_refl _) _)),log_bl HLG6.out (bl_alloc (bl_refl _) _),bl_cell (bl_alloc (bl_refl _) _) qb0,bl_cell (bl_alloc (bl_refl _) _) qb1,bl_cell (bl_alloc (bl_refl _) _) qb2,bl_cell (bl_alloc (bl_refl _) _) qb3,bl_cell (bl_alloc (bl_refl _) _) qb4,bl_cell (bl_alloc (bl_refl _) _) qb5,by go_simp,by go_simp,by go_simp,by go_simp,by simp⟩ ?_
   clear qb0 qb1 qb2 qb3 qb4 qb5
   rintro w6 ⟨hsd6,hrow6,hlg6,qb0,qb1,qb2,qb3,qb4,qb5,sb0,sb1,sb2,sb3,hs56⟩
   have HSD6:=Go.Lib.hid hsd6
   replace HROW:=Go.Lib.hid hrow6
   have HLG6':=Go.Lib.hid hlg6
   have HQB:Hid ((fun X:World=>X.cell? ⟨w.heap.size,0,none⟩=some (.int .i64 q.kind)∧X.cell? ⟨w.heap.size,1,none⟩=some (.int .i64 q.limit)∧X.cell? ⟨w.heap.size,2,none⟩=some (.int .i64 q.period)∧X.cell? ⟨w.heap.size,3,none⟩=some (.int .i64 q.burst)∧X.cell? ⟨w.heap.size,4,none⟩=some (.int .i64 q.cap)∧X.cell? ⟨w.heap.size,5,none⟩=some (.bool q.opn)) w6):=Go.Lib.hid ⟨qb0,qb1,qb2,qb3,qb4,qb5⟩
   have HSB:Hid ((fun X:World=>X3 X (w5.heap.size) lat llev lheld (X.cell? ⟨w5.heap.size,3,none⟩=some (.slice a6 n6 c6))) w6):=Go.Lib.hid ⟨sb0,sb1,sb2,sb3⟩
   clear hsd6 hrow6 hlg6 HSD4 HOWN HSK HLG6 HB6 qb0 qb1 qb2 qb3 qb4 qb5 sb0 sb1 sb2 sb3
   go_loopw [16,17] (fun s16 s17 wq=>∃ (k:Nat) (T:Bool),s17=.int .i64 k∧s16=.bool T∧k≤N∧Hid (T=(Ks.take k).any (fun i=>i.x.key == s.data.toList && PE i.x.pol)∧Below w6.heap.size w6 wq)) (fun _ s17 _=>N - (intOf s17).toNat)
   case atStart=>exact⟨0,false,rfl,rfl,Nat.zero_le _,⟨rfl,bl_refl _⟩⟩
   case round =>
    obtain⟨k,T,rfl,rfl,hk,H⟩:=hrel
    obtain⟨hT,hB⟩:=H.out
    clear H
    have HT:=Go.Lib.hid hT
    clear hT
    by_cases hkN:k<N
    ·obtain ⟨i,hik⟩:∃ i,Ks[k]?=some i:=⟨Ks[k]'(by rw[← HN.out];omega),List.getElem?_eq_getElem _⟩
     obtain⟨g,cap,e,rc0,rc1,rc2,rc3,rc4,rc5,rc6,rc7,rc8,rc9,rc10⟩:=crow_at (crow_bl HROW.out hB) hik
     injection e with e1 e2 e3
     subst e1 e3
     have k0:(0:Int)≤(k:Int):=by omega
     have k1:(k:Int)<(N:Int):=by omega
     have HIK:=Go.Lib.hid hik
     clear hik e2
     have heqi:=HEQ.out i
     have hkey:=ktx_eq i.x.key s
     have hT2:=(split_nth HIK.out).2
     have HT2:=Go.Lib.hid hT2
     clear hT2
     have hms2:N - (k+1)<N - k:=by omega
     have hst:i.x.key=s.data.toList→PE i.x.pol=true→i.x.st=⟨lat,llev,lheld,LLG⟩:=fun e1 e2=>HKEEP.out i.x (by rw[← HMK.out];exact List.mem_map.2 ⟨i,List.mem_of_getElem? HIK.out,rfl⟩) e1 (by rw[HPE.out] at e2;exact(polE_iff _ _).1 e2)
     have HST:=Go.Lib.hid hst
     have HLOG:=Go.Lib.hid ((crow_bl HROW.out hB).2 i (List.mem_of_getElem? HIK.out))
     clear hst
     obtain⟨P,hP⟩:∃ P,P=PE i.x.pol:=⟨_,rfl⟩
     rw[← hP] at heqi HST
     have HP:=Go.Lib.hid hP
     clear hP
     obtain⟨⟨key,⟨kk,l,d,b,cc,o⟩,⟨at_,level,held,LG⟩⟩,a,n,c⟩:=i
     unfold Cl.v at *
     dsimp only at *
     have hcase:(key=s.data.toList∧P=true)∨(key=s.data.toList∧P=false)∨¬ key=s.data.toList:=by by_cases hh:key=s.data.toList <;> cases P <;> simp[hh]
     obtain⟨qb0,qb1,qb2,qb3,qb4,qb5⟩:=HQB.out
     replace qb0:=bl_cell hB qb0
     replace qb1:=bl_cell hB qb1
     replace qb2:=bl_cell hB qb2
     replace qb3:=bl_cell hB qb3
     replace qb4:=bl_cell hB qb4
     replace qb5:=bl_cell hB qb5
     obtain⟨sb0,sb1,sb2,sb3⟩:=HSB.out
     replace sb0:=bl_cell hB sb0
     replace sb1:=bl_cell hB sb1
     replace sb2:=bl_cell hB sb2
     replace sb3:=bl_cell hB sb3
     rcases hcase with⟨he,hp⟩|⟨he,hp⟩|he
     ·rw[decide_eq_true he] at hkey
      subst hp
      have HE:=Go.Lib.hid he
      clear he
      generalize ktx key=KY at *
      go_wp2_with fail
      refine wp_region_held_drew (S:=fun w'=>w'.cell? ⟨g,k*11,none⟩=some (.string KY)∧w'.cell? ⟨g,k*11+1,none⟩=some (.int .i64 kk)∧w'.cell? ⟨g,k*11+2,none⟩=some (.int .i64 l)∧w'.cell? ⟨g,k*11+3,none⟩=some (.int .i64 d)∧w'.cell? ⟨g,k*11+4,none⟩=some (.int .i64 b)∧w'.cell? ⟨g,k*11+5,none⟩=some (.int .i64 cc)∧w'.cell? ⟨g,k*11+6,none⟩=some (.bool o)∧w'.cell? ⟨g,k*11+7,none⟩=some (.int .i64 at_)∧w'.cell? ⟨g,k*11+8,none⟩=some (.int .i64 level)∧w'.cell? ⟨g,k*11+9,none⟩=some (.int .i64 held)∧w'.cell? ⟨g,k*11+10,none⟩=some (.slice a n c)∧w'.cell? ⟨w.heap.size,0,none⟩=some (.int .i64 q.kind)∧w'.cell? ⟨w.heap.size,1,none⟩=some (.int .i64 q.limit)∧w'.cell? ⟨w.heap.size,2,none⟩=some (.int .i64 q.period)∧w'.cell? ⟨w.heap.size,3,none⟩=some (.int .i64 q.burst)∧w'.cell? ⟨w.heap.size,4,none⟩=some (.int .i64 q.cap)∧w'.cell? ⟨w.heap.size,5,none⟩=some (.bool q.opn)∧S4 w' (w5.heap.size) lat llev lheld a6 n6 c6 (Below w6.heap.size w6 w')) (by kernel_rfl) ?_ (fun hHeld=>?_)
      ·exact⟨rc0,rc1,rc2,rc3,rc4,rc5,rc6,rc7,rc8,rc9,rc10,qb0,qb1,qb2,qb3,qb4,qb5,sb0,sb1,sb2,sb3,bl_drew hB⟩
      try simp only[Act.put,List.setIfInBounds_toArray,List.set_cons_zero,List.set_cons_succ]
      refine tkx 0 ?_
      refine tkx 1 ?_
      refine tkx 2 ?_
      refine tkx 3 ?_
      refine tkx 4 ?_
      refine tkx 5 ?_
      refine tkx 6 ?_
      refine tkx 7 ?_
      first|refine tqx 8 ?_|refine tkx 8 ?_
      first|refine tqx 9 ?_|refine tkx 9 ?_
      first|refine tqx 10 ?_|refine tkx 10 ?_
      first|refine tqx 11 ?_|refine tkx 11 ?_
      first|refine tqx 12 ?_|refine tkx 12 ?_
      first|refine tqx 13 ?_|refine tkx 13 ?_
      first|refine tqx 14 ?_|refine tkx 14 ?_
      refine tkx 15 ?_
      refine wpAnyH_done (by kernel_rfl) ?_ _
      refine then_abs (F:=fun w'=>w'.cell? ⟨g,k*11,none⟩=some (.string KY)∧w'.cell? ⟨g,k*11+1,none⟩=some (.int .i64 kk)∧w'.cell? ⟨g,k*11+2,none⟩=some (.int .i64 l)∧w'.cell? ⟨g,k*11+3,none⟩=some (.int .i64 d)∧w'.cell? ⟨g,k*11+4,none⟩=some (.int .i64 b)∧w'.cell? ⟨g,k*11+5,none⟩=some (.int .i64 cc)∧w'.cell? ⟨g,k*11+6,none⟩=some (.bool o)∧w'.cell? ⟨g,k*11+7,none⟩=some (.int .i64 at_)∧w'.cell? ⟨g,k*11+8,none⟩=some (.int .i64 level)∧w'.cell? ⟨g,k*11+9,none⟩=some (.int .i64 held)∧w'.cell? ⟨g,k*11+10,none⟩=some (.slice a n c)∧w'.cell? ⟨w.heap.size,0,none⟩=some (.int .i64 q.kind)∧w'.cell? ⟨w.heap.size,1,none⟩=some (.int .i64 q.limit)∧w'.cell? ⟨w.heap.size,2,none⟩=some (.int .i64 q.period)∧w'.cell? ⟨w.heap.size,3,none⟩=some (.int .i64 q.burst)∧w'.cell? ⟨w.heap.size,4,none⟩=some (.int .i64 q.cap)∧w'.cell? ⟨w.heap.size,5,none⟩=some (.bool q.opn)∧S4 w' (w5.heap.size) lat llev lheld a6 n6 c6 (Below w6.heap.size w6 w')) hHeld ?_
      clear hHeld hB rc0 rc1 rc2 rc3 rc4 rc5 rc6 rc7 rc8 rc9 rc10 qb0 qb1 qb2 qb3 qb4 qb5 sb0 sb1 sb2 sb3
      rintro w41 ⟨rc0,rc1,rc2,rc3,rc4,rc5,rc6,rc7,rc8,rc9,rc10,qb0,qb1,qb2,qb3,qb4,qb5,sb0,sb1,sb2,sb3,hB⟩
      have lb_rc:=lbc rc0
      have lb_rc1:=lbc rc10
      have lb_qb:=lbc qb0
      have lb_sb:=lbc sb0
      go_wp2_with fail
      have hst:=HST.out HE.out trivial
      injection hst with e1 e2 e3 e4
      subst e1 e2 e3 e4
      have hlg6:=log_bl HLG6'.out hB
      have hlog:=log_bl ((HROW.out).2 _ (List.mem_of_getElem? HIK.out)) hB
      dsimp only at hlog
      have hnn:n6=n:=hlg6.1.symm.trans hlog.1
      subst hnn
      have hsm:=fun W h1 h2=>same_yes ⟨at_,level,held,LG⟩ a6 a n6 c6 c W h1 h2
      unfold St.v at hsm
      dsimp only at hsm
      have HSM:=Go.Lib.hid hsm
      clear hsm
      refine wp_region_held_drew (S:=fun w'=>w'.cell? ⟨g,k*11,none⟩=some (.string KY)∧w'.cell? ⟨g,k*11+1,none⟩=some (.int .i64 kk)∧w'.cell? ⟨g,k*11+2,none⟩=some (.int .i64 l)∧w'.cell? ⟨g,k*11+3,none⟩=some (.int .i64 d)∧w'.cell? ⟨g,k*11+4,none⟩=some (.int .i64 b)∧w'.cell? ⟨g,k*11+5,none⟩=some (.int .i64 cc)∧w'.cell? ⟨g,k*11+6,none⟩=some (.bool o)∧w'.cell? ⟨g,k*11+7,none⟩=some (.int .i64 at_)∧w'.cell? ⟨g,k*11+8,none⟩=some (.int .i64 level)∧w'.cell? ⟨g,k*11+9,none⟩=some (.int .i64 held)∧w'.cell? ⟨g,k*11+10,none⟩=some (.slice a n6 c)∧w'.cell? ⟨w.heap.size,0,none⟩=some (.int .i64 q.kind)∧w'.cell? ⟨w.heap.size,1,none⟩=some (.int .i64 q.limit)∧w'.cell? ⟨w.heap.size,2,none⟩=some (.int .i64 q.period)∧w'.cell? ⟨w.heap.size,3,none⟩=some (.int .i64 q.burst)∧w'.cell? ⟨w.heap.size,4,none⟩=some (.int .i64 q.cap)∧w'.cell? ⟨w.heap.size,5,none⟩=some (.bool q.opn)∧S4 w' (w5.heap.size) at_ level held a6 n6 c6 (LogAt w' a6 n6 c6 LG∧LogAt w' a n6 c LG∧Below w6.heap.size w6 w')) (by kernel_rfl) ?_ (fun hHeld=>?_)
      ·exact⟨rc0,rc1,rc2,rc3,rc4,rc5,rc6,rc7,rc8,rc9,rc10,qb0,qb1,qb2,qb3,qb4,qb5,sb0,sb1,sb2,sb3,(log_bl hlg6 (bl_drew (bl_refl _))),(log_bl hlog (bl_drew (bl_refl _))),bl_drew hB⟩
      try simp only[Act.put,List.setIfInBounds_toArray,List.set_cons_zero,List.set_cons_succ]
      refine tkx 0 ?_
      refine tkx 1 ?_
      refine tkx 2 ?_
      refine tkx 3 ?_
      refine tkx 4 ?_
      refine tkx 5 ?_
      (refine callC (i:=6) rfl (fun K hK=>?_);obtain⟨h_rc0,h_rc1,h_rc2,h_rc3,h_rc4,h_rc5,h_rc6,h_rc7,h_rc8,h_rc9,h_rc10,h_qb0,h_qb1,h_qb2,h_qb3,h_qb4,h_qb5,h_sb0,h_sb1,h_sb2,h_sb3,h_hlg6,h_hlog,h_B⟩:=(id hHeld);go_simp;refine(HSM.out _ h_hlg6 h_hlog).mono ?_;rintro e w9 ⟨rfl,hb⟩;go_wp2_with fail;refine hK.out _ _ ?_ (fun hHeld2=>?_);(focus((try dsimp only);exact⟨bl_cell hb h_rc0,bl_cell hb h_rc1,bl_cell hb h_rc2,bl_cell hb h_rc3,bl_cell hb h_rc4,bl_cell hb h_rc5,bl_cell hb h_rc6,bl_cell hb h_rc7,bl_cell hb h_rc8,bl_cell hb h_rc9,bl_cell hb h_rc10,bl_cell hb h_qb0,bl_cell hb h_qb1,bl_cell hb h_qb2,bl_cell hb h_qb3,bl_cell hb h_qb4,bl_cell hb h_qb5,bl_cell hb h_sb0,bl_cell hb h_sb1,bl_cell hb h_sb2,bl_cell hb h_sb3,log_bl h_hlg6 hb,log_bl h_hlog hb,bl_then h_B hb⟩));clear hHeld hK K;have hHeld:=hHeld2;clear hHeld2 h_rc0 h_rc1 h_rc2 h_rc3 h_rc4 h_rc5 h_rc6 h_rc7 h_rc8 h_rc9 h_rc10 h_qb0 h_qb1 h_qb2 h_qb3 h_qb4 h_qb5 h_sb0 h_sb1 h_sb2 h_sb3 h_hlg6 h_hlog h_B;try simp only[Act.put,List.setIfInBounds_toArray,List.set_cons_zero,List.set_cons_succ])
      refine tkx 7 ?_
      refine wpAnyH_done (by kernel_rfl) ?_ _
      refine then_abs (F:=fun w'=>w'.cell? ⟨g,k*11,none⟩=some (.string KY)∧w'.cell? ⟨g,k*11+1,none⟩=some (.int .i64 kk)∧w'.cell? ⟨g,k*11+2,none⟩=some (.int .i64 l)∧w'.cell? ⟨g,k*11+3,none⟩=some (.int .i64 d)∧w'.cell? ⟨g,k*11+4,none⟩=some (.int .i64 b)∧w'.cell? ⟨g,k*11+5,none⟩=some (.int .i64 cc)∧w'.cell? ⟨g,k*11+6,none⟩=some (.bool o)∧w'.cell? ⟨g,k*11+7,none⟩=some (.int .i64 at_)∧w'.cell? ⟨g,k*11+8,none⟩=some (.int .i64 level)∧w'.cell? ⟨g,k*11+9,none⟩=some (.int .i64 held)∧w'.cell? ⟨g,k*11+10,none⟩=some (.slice a n6 c)∧w'.cell? ⟨w.heap.size,0,none⟩=some (.int .i64 q.kind)∧w'.cell? ⟨w.heap.size,1,none⟩=some (.int .i64 q.limit)∧w'.cell? ⟨w.heap.size,2,none⟩=some (.int .i64 q.period)∧w'.cell? ⟨w.heap.size,3,none⟩=some (.int .i64 q.burst)∧w'.cell? ⟨w.heap.size,4,none⟩=some (.int .i64 q.cap)∧w'.cell? ⟨w.heap.size,5,none⟩=some (.bool q.opn)∧S4 w' (w5.heap.size) at_ level held a6 n6 c6 (LogAt w' a6 n6 c6 LG∧LogAt w' a n6 c LG∧Below w6.heap.size w6 w')) hHeld ?_
      clear hHeld hB rc0 rc1 rc2 rc3 rc4 rc5 rc6 rc7 rc8 rc9 rc10 qb0 qb1 qb2 qb3 qb4 qb5 sb0 sb1 sb2 sb3 hlg6 hlog
      rintro w42 ⟨rc0,rc1,rc2,rc3,rc4,rc5,rc6,rc7,rc8,rc9,rc10,qb0,qb1,qb2,qb3,qb4,qb5,sb0,sb1,sb2,sb3,hlg6,hlog,hB⟩
      replace lb_rc:=lbc rc0
      replace lb_rc1:=lbc rc10
      replace lb_qb:=lbc qb0
      replace lb_sb:=lbc sb0
      go_wp2_with fail
      go_roundw
      case rel=>exact⟨k+1,true,by go_num,rfl,by omega,⟨by rw[HT2.out,List.any_append];simp[HE.out,← HP.out],hB⟩⟩
      case measure=>(simp[intOf];first|exact hms2|omega)
     ·rw[decide_eq_true he] at hkey
      subst hp
      have HE:=Go.Lib.hid he
      clear he
      generalize ktx key=KY at *
      go_wp2_with fail
      refine wp_region_held_drew (S:=fun w'=>w'.cell? ⟨g,k*11,none⟩=some (.string KY)∧w'.cell? ⟨g,k*11+1,none⟩=some (.int .i64 kk)∧w'.cell? ⟨g,k*11+2,none⟩=some (.int .i64 l)∧w'.cell? ⟨g,k*11+3,none⟩=some (.int .i64 d)∧w'.cell? ⟨g,k*11+4,none⟩=some (.int .i64 b)∧w'.cell? ⟨g,k*11+5,none⟩=some (.int .i64 cc)∧w'.cell? ⟨g,k*11+6,none⟩=some (.bool o)∧w'.cell? ⟨g,k*11+7,none⟩=some (.int .i64 at_)∧w'.cell? ⟨g,k*11+8,none⟩=some (.int .i64 level)∧w'.cell? ⟨g,k*11+9,none⟩=some (.int .i64 held)∧w'.cell? ⟨g,k*11+10,none⟩=some (.slice a n c)∧w'.cell? ⟨w.heap.size,0,none⟩=some (.int .i64 q.kind)∧w'.cell? ⟨w.heap.size,1,none⟩=some (.int .i64 q.limit)∧w'.cell? ⟨w.heap.size,2,none⟩=some (.int .i64 q.period)∧w'.cell? ⟨w.heap.size,3,none⟩=some (.int .i64 q.burst)∧w'.cell? ⟨w.heap.size,4,none⟩=some (.int .i64 q.cap)∧w'.cell? ⟨w.heap.size,5,none⟩=some (.bool q.opn)∧S4 w' (w5.heap.size) lat llev lheld a6 n6 c6 (Below w6.heap.size w6 w')) (by kernel_rfl) ?_ (fun hHeld=>?_)
      ·exact⟨rc0,rc1,rc2,rc3,rc4,rc5,rc6,rc7,rc8,rc9,rc10,qb0,qb1,qb2,qb3,qb4,qb5,sb0,sb1,sb2,sb3,bl_drew hB⟩
      try simp only[Act.put,List.setIfInBounds_toArray,List.set_cons_zero,List.set_cons_succ]
      refine tkx 0 ?_
      refine tkx 1 ?_
      refine tkx 2 ?_
      refine tkx 3 ?_
      refine tkx 4 ?_
      refine tkx 5 ?_
      refine tkx 6 ?_
      refine tkx 7 ?_
      first|refine tqx 8 ?_|refine tkx 8 ?_
      first|refine tqx 9 ?_|refine tkx 9 ?_
      first|refine tqx 10 ?_|refine tkx 10 ?_
      first|refine tqx 11 ?_|refine tkx 11 ?_
      first|refine tqx 12 ?_|refine tkx 12 ?_
      first|refine tqx 13 ?_|refine tkx 13 ?_
      first|refine tqx 14 ?_|refine tkx 14 ?_
      refine tkx 15 ?_
      refine wpAnyH_done (by kernel_rfl) ?_ _
      refine then_abs (F:=fun w'=>w'.cell? ⟨g,k*11,none⟩=some (.string KY)∧w'.cell? ⟨g,k*11+1,none⟩=some (.int .i64 kk)∧w'.cell? ⟨g,k*11+2,none⟩=some (.int .i64 l)∧w'.cell? ⟨g,k*11+3,none⟩=some (.int .i64 d)∧w'.cell? ⟨g,k*11+4,none⟩=some (.int .i64 b)∧w'.cell? ⟨g,k*11+5,none⟩=some (.int .i64 cc)∧w'.cell? ⟨g,k*11+6,none⟩=some (.bool o)∧w'.cell? ⟨g,k*11+7,none⟩=some (.int .i64 at_)∧w'.cell? ⟨g,k*11+8,none⟩=some (.int .i64 level)∧w'.cell? ⟨g,k*11+9,none⟩=some (.int .i64 held)∧w'.cell? ⟨g,k*11+10,none⟩=some (.slice a n c)∧w'.cell? ⟨w.heap.size,0,none⟩=some (.int .i64 q.kind)∧w'.cell? ⟨w.heap.size,1,none⟩=some (.int .i64 q.limit)∧w'.cell? ⟨w.heap.size,2,none⟩=some (.int .i64 q.period)∧w'.cell? ⟨w.heap.size,3,none⟩=some (.int .i64 q.burst)∧w'.cell? ⟨w.heap.size,4,none⟩=some (.int .i64 q.cap)∧w'.cell? ⟨w.heap.size,5,none⟩=some (.bool q.opn)∧S4 w' (w5.heap.size) lat llev lheld a6 n6 c6 (Below w6.heap.size w6 w')) hHeld ?_
      clear hHeld hB rc0 rc1 rc2 rc3 rc4 rc5 rc6 rc7 rc8 rc9 rc10 qb0 qb1 qb2 qb3 qb4 qb5 sb0 sb1 sb2 sb3
      rintro w51 ⟨rc0,rc1,rc2,rc3,rc4,rc5,rc6,rc7,rc8,rc9,rc10,qb0,qb1,qb2,qb3,qb4,qb5,sb0,sb1,sb2,sb3,hB⟩
      have lb_rc:=lbc rc0
      have lb_rc1:=lbc rc10
      have lb_qb:=lbc qb0
      have lb_sb:=lbc sb0
      go_wp2_with fail
      go_roundw
      case rel=>exact⟨k+1,T,by go_num,rfl,by omega,⟨by rw[HT2.out,List.any_append,← HT.out];simp[← HP.out],hB⟩⟩
      case measure=>(simp[intOf];first|exact hms2|omega)
     ·rw[decide_eq_false he] at hkey
      have HE:=Go.Lib.hid he
      clear he
      generalize ktx key=KY at *
      go_wp2_with fail
      refine wp_region_held_drew (S:=fun w'=>w'.cell? ⟨g,k*11,none⟩=some (.string KY)∧w'.cell? ⟨g,k*11+1,none⟩=some (.int .i64 kk)∧w'.cell? ⟨g,k*11+2,none⟩=some (.int .i64 l)∧w'.cell? ⟨g,k*11+3,none⟩=some (.int .i64 d)∧w'.cell? ⟨g,k*11+4,none⟩=some (.int .i64 b)∧w'.cell? ⟨g,k*11+5,none⟩=some (.int .i64 cc)∧w'.cell? ⟨g,k*11+6,none⟩=some (.bool o)∧w'.cell? ⟨g,k*11+7,none⟩=some (.int .i64 at_)∧w'.cell? ⟨g,k*11+8,none⟩=some (.int .i64 level)∧w'.cell? ⟨g,k*11+9,none⟩=some (.int .i64 held)∧w'.cell? ⟨g,k*11+10,none⟩=some (.slice a n c)∧w'.cell? ⟨w.heap.size,0,none⟩=some (.int .i64 q.kind)∧w'.cell? ⟨w.heap.size,1,none⟩=some (.int .i64 q.limit)∧w'.cell? ⟨w.heap.size,2,none⟩=some (.int .i64 q.period)∧w'.cell? ⟨w.heap.size,3,none⟩=some (.int .i64 q.burst)∧w'.cell? ⟨w.heap.size,4,none⟩=some (.int .i64 q.cap)∧w'.cell? ⟨w.heap.size,5,none⟩=some (.bool q.opn)∧S4 w' (w5.heap.size) lat llev lheld a6 n6 c6 (Below w6.heap.size w6 w')) (by kernel_rfl) ?_ (fun hHeld=>?_)
      ·exact⟨rc0,rc1,rc2,rc3,rc4,rc5,rc6,rc7,rc8,rc9,rc10,qb0,qb1,qb2,qb3,qb4,qb5,sb0,sb1,sb2,sb3,bl_drew hB⟩
      try simp only[Act.put,List.setIfInBounds_toArray,List.set_cons_zero,List.set_cons_succ]
      refine tkx 0 ?_
      refine tkx 1 ?_
      refine tkx 2 ?_
      refine tkx 3 ?_
      refine tkx 4 ?_
      refine tkx 5 ?_
      refine tkx 6 ?_
      refine tkx 7 ?_
      first|refine tqx 8 ?_|refine tkx 8 ?_
      first|refine tqx 9 ?_|refine tkx 9 ?_
      first|refine tqx 10 ?_|refine tkx 10 ?_
      first|refine tqx 11 ?_|refine tkx 11 ?_
      first|refine tqx 12 ?_|refine tkx 12 ?_
      first|refine tqx 13 ?_|refine tkx 13 ?_
      first|refine tqx 14 ?_|refine tkx 14 ?_
      refine tkx 15 ?_
      refine wpAnyH_done (by kernel_rfl) ?_ _
      refine then_abs (F:=fun w'=>w'.cell? ⟨g,k*11,none⟩=some (.string KY)∧w'.cell? ⟨g,k*11+1,none⟩=some (.int .i64 kk)∧w'.cell? ⟨g,k*11+2,none⟩=some (.int .i64 l)∧w'.cell? ⟨g,k*11+3,none⟩=some (.int .i64 d)∧w'.cell? ⟨g,k*11+4,none⟩=some (.int .i64 b)∧w'.cell? ⟨g,k*11+5,none⟩=some (.int .i64 cc)∧w'.cell? ⟨g,k*11+6,none⟩=some (.bool o)∧w'.cell? ⟨g,k*11+7,none⟩=some (.int .i64 at_)∧w'.cell? ⟨g,k*11+8,none⟩=some (.int .i64 level)∧w'.cell? ⟨g,k*11+9,none⟩=some (.int .i64 held)∧w'.cell? ⟨g,k*11+10,none⟩=some (.slice a n c)∧w'.cell? ⟨w.heap.size,0,none⟩=some (.int .i64 q.kind)∧w'.cell? ⟨w.heap.size,1,none⟩=some (.int .i64 q.limit)∧w'.cell? ⟨w.heap.size,2,none⟩=some (.int .i64 q.period)∧w'.cell? ⟨w.heap.size,3,none⟩=some (.int .i64 q.burst)∧w'.cell? ⟨w.heap.size,4,none⟩=some (.int .i64 q.cap)∧w'.cell? ⟨w.heap.size,5,none⟩=some (.bool q.opn)∧S4 w' (w5.heap.size) lat llev lheld a6 n6 c6 (Below w6.heap.size w6 w')) hHeld ?_
      clear hHeld hB rc0 rc1 rc2 rc3 rc4 rc5 rc6 rc7 rc8 rc9 rc10 qb0 qb1 qb2 qb3 qb4 qb5 sb0 sb1 sb2 sb3
      rintro w61 ⟨rc0,rc1,rc2,rc3,rc4,rc5,rc6,rc7,rc8,rc9,rc10,qb0,qb1,qb2,qb3,qb4,qb5,sb0,sb1,sb2,sb3,hB⟩
      have lb_rc:=lbc rc0
      have lb_rc1:=lbc rc10
      have lb_qb:=lbc qb0
      have lb_sb:=lbc sb0
      go_wp2_with fail
      go_roundw
      case rel=>exact⟨k+1,T,by go_num,rfl,by omega,⟨by rw[HT2.out,List.any_append,← HT.out];simp[← HP.out,HE.out],hB⟩⟩
      case measure=>(simp[intOf];first|exact hms2|omega)
    ·have hkk:k=N:=by omega
     subst hkk
     have hkN2:¬ (k:Int)<(k:Int):=by omega
     go_wp2_with fail
     have hnone:T=false→(⟨lat,llev,lheld,LLG⟩:St)=⟨nat,nlev,nheld,nlog⟩:=fun hT=>by
      rw[HNW.out]
      refine HNONE.out fun x hx hh=>?_
      rw[← HMK.out] at hx
      obtain⟨i,hi,rfl⟩:=List.mem_map.1 hx
      have h1:=HT.out
      rw[hT,List.take_of_length_le (by rw[HN.out];exact Nat.le_refl _)] at h1
      have h2:=List.any_eq_false.1 h1.symm i hi
      rw[HPE.out] at h2
      exact h2 (by rw[Bool.and_eq_true,polE_iff];exact⟨by simpa using hh.1,hh.2⟩)
     have HNONE2:=Go.Lib.hid hnone
     clear hnone
     have hal:=fun W (h:Sd w1 W (w3.heap.size) p.b (roomOf 100) (j) p2 nx (Js.map (·.x)) (v) Js)=>sd_all h (by omega)
     simp only[List.length_map] at hal
     have hsm:=fun(v u:Value) (Ks2:List LC) W base (h:CRow W base v Ks2) (h2:CRow W 0 u Ks) he=>rsame_yes v u W h h2 he (by have:=congrArg List.length he;rw[List.length_map,List.length_map] at this;have:=HN.out;omega)
     have HAL:=Go.Lib.hid hal
     have HSM:=Go.Lib.hid hsm
     clear hal hsm
     have hsd:=HSD6.out.to hB
     have hrow:=crow_bl HROW.out hB
     have hlg:=log_bl HLG6'.out hB
     obtain⟨qb0,qb1,qb2,qb3,qb4,qb5⟩:=HQB.out
     replace qb0:=bl_cell hB qb0
     replace qb1:=bl_cell hB qb1
     replace qb2:=bl_cell hB qb2
     replace qb3:=bl_cell hB qb3
     replace qb4:=bl_cell hB qb4
     replace qb5:=bl_cell hB qb5
     obtain⟨sb0,sb1,sb2,sb3⟩:=HSB.out
     replace sb0:=bl_cell hB sb0
     replace sb1:=bl_cell hB sb1
     replace sb2:=bl_cell hB sb2
     replace sb3:=bl_cell hB sb3
     replace hB:=bl_then HB1.out hsd.bl
     cases T
     ·have hn:=HNONE2.out rfl
      injection hn with e1 e2 e3 e4
      subst e1 e2 e3 e4
      have hss:=fun a1 a2 n k1 k2 W h1 h2=>same_yes ⟨lat,llev,lheld,LLG⟩ a1 a2 n k1 k2 W h1 h2
      unfold St.v at hss
      dsimp only at hss
      have HSS:=Go.Lib.hid hss
      have hz:=HNL.out
      (try dsimp only at hz)
      have hn0:n6=0:=by have:=hlg.1;rw[hz] at this;exact this.symm
      subst hn0
      have HZ:=Go.Lib.hid hz
      clear hss hz
      refine wp_region_held_drew (S:=fun w'=>Sd w1 w' (w3.heap.size) p.b (roomOf 100) (j) p2 nx (Js.map (·.x)) (v) Js∧CRow w' 0 (.slice a5 k c5) Ks∧LogAt w' a6 0 c6 LLG∧w'.cell? ⟨w.heap.size,0,none⟩=some (.int .i64 q.kind)∧w'.cell? ⟨w.heap.size,1,none⟩=some (.int .i64 q.limit)∧w'.cell? ⟨w.heap.size,2,none⟩=some (.int .i64 q.period)∧w'.cell? ⟨w.heap.size,3,none⟩=some (.int .i64 q.burst)∧w'.cell? ⟨w.heap.size,4,none⟩=some (.int .i64 q.cap)∧w'.cell? ⟨w.heap.size,5,none⟩=some (.bool q.opn)∧S4 w' (w5.heap.size) lat llev lheld a6 0 c6 (Below w.heap.size w w')) (by kernel_rfl) ?_ (fun hHeld=>?_)
      ·exact⟨(hsd.to (bl_drew (bl_refl _))),(crow_bl hrow (bl_drew (bl_refl _))),(log_bl hlg (bl_drew (bl_refl _))),qb0,qb1,qb2,qb3,qb4,qb5,sb0,sb1,sb2,sb3,bl_drew hB⟩
      try simp only[Act.put,List.setIfInBounds_toArray,List.set_cons_zero,List.set_cons_succ]
      refine tkx 0 ?_
      refine tkx 1 ?_
      first|refine tqx 2 ?_|refine tkx 2 ?_
      first|refine tqx 3 ?_|refine tkx 3 ?_
      first|refine tqx 4 ?_|refine tkx 4 ?_
      first|(refine tqx 5 ?_)|(refine callC (i:=5) rfl (fun K hK=>?_);obtain⟨h_hsd,h_hrow,h_hlg,h_qb0,h_qb1,h_qb2,h_qb3,h_qb4,h_qb5,h_sb0,h_sb1,h_sb2,h_sb3,h_B⟩:=(id hHeld);go_simp;refine(HNWC.out _).mono ?_;rintro e w9 ⟨rfl,hb⟩;go_wp2_with fail;refine hK.out _ _ ?_ (fun hHeld2=>?_);(focus((try dsimp only);exact⟨Sd.to h_hsd hb,crow_bl h_hrow hb,log_bl h_hlg hb,bl_cell hb h_qb0,bl_cell hb h_qb1,bl_cell hb h_qb2,bl_cell hb h_qb3,bl_cell hb h_qb4,bl_cell hb h_qb5,bl_cell hb h_sb0,bl_cell hb h_sb1,bl_cell hb h_sb2,bl_cell hb h_sb3,bl_then h_B hb⟩));clear hHeld hK K;have hHeld:=hHeld2;clear hHeld2 h_hsd h_hrow h_hlg h_qb0 h_qb1 h_qb2 h_qb3 h_qb4 h_qb5 h_sb0 h_sb1 h_sb2 h_sb3 h_B;try simp only[Act.put,List.setIfInBounds_toArray,List.set_cons_zero,List.set_cons_succ])
      first|(refine tqx 6 ?_)|(refine callC (i:=6) rfl (fun K hK=>?_);obtain⟨h_hsd,h_hrow,h_hlg,h_qb0,h_qb1,h_qb2,h_qb3,h_qb4,h_qb5,h_sb0,h_sb1,h_sb2,h_sb3,h_B⟩:=(id hHeld);go_simp;refine(HSS.out _ _ _ _ _ _ h_hlg (by rw[HZ.out];exact log_nil _ _ _ (by omega))).mono ?_;rintro e w9 ⟨rfl,hb⟩;go_wp2_with fail;refine hK.out _ _ ?_ (fun hHeld2=>?_);(focus((try dsimp only);exact⟨Sd.to h_hsd hb,crow_bl h_hrow hb,log_bl h_hlg hb,bl_cell hb h_qb0,bl_cell hb h_qb1,bl_cell hb h_qb2,bl_cell hb h_qb3,bl_cell hb h_qb4,bl_cell hb h_qb5,bl_cell hb h_sb0,bl_cell hb h_sb1,bl_cell hb h_sb2,bl_cell hb h_sb3,bl_then h_B hb⟩));clear hHeld hK K;have hHeld:=hHeld2;clear hHeld2 h_hsd h_hrow h_hlg h_qb0 h_qb1 h_qb2 h_qb3 h_qb4 h_qb5 h_sb0 h_sb1 h_sb2 h_sb3 h_B;try simp only[Act.put,List.setIfInBounds_toArray,List.set_cons_zero,List.set_cons_succ])
      refine tkx 7 ?_
      refine tkx 8 ?_
      first|refine tqx 9 ?_|refine tkx 9 ?_
      first|refine tqx 11 ?_|refine tkx 11 ?_
      first|(refine tqx 10 ?_)|(refine callC (i:=10) rfl (fun K hK=>?_);obtain⟨h_hsd,h_hrow,h_hlg,h_qb0,h_qb1,h_qb2,h_qb3,h_qb4,h_qb5,h_sb0,h_sb1,h_sb2,h_sb3,h_B⟩:=(id hHeld);go_simp;refine(HAL.out _ h_hsd).mono ?_;rintro e w9 ⟨a7,n7,c7,Ks7,rfl,rfl,hrk,hmk,-,-,hb⟩;have HMK7:=Go.Lib.hid hmk;clear hmk;go_wp2_with fail;refine hK.out _ _ ?_ (fun hHeld2=>?_);(focus((try dsimp only);exact⟨Sd.to h_hsd hb,crow_bl h_hrow hb,log_bl h_hlg hb,bl_cell hb h_qb0,bl_cell hb h_qb1,bl_cell hb h_qb2,bl_cell hb h_qb3,bl_cell hb h_qb4,bl_cell hb h_qb5,bl_cell hb h_sb0,bl_cell hb h_sb1,bl_cell hb h_sb2,bl_cell hb h_sb3,bl_then h_B hb⟩));clear hHeld hK K;have hHeld:=hHeld2;clear hHeld2 h_hsd h_hrow h_hlg h_qb0 h_qb1 h_qb2 h_qb3 h_qb4 h_qb5 h_sb0 h_sb1 h_sb2 h_sb3 h_B;try simp only[Act.put,List.setIfInBounds_toArray,List.set_cons_zero,List.set_cons_succ])
      first|(refine tqx 12 ?_)|(refine callC (i:=12) rfl (fun K hK=>?_);obtain⟨h_hsd,h_hrow,h_hlg,h_qb0,h_qb1,h_qb2,h_qb3,h_qb4,h_qb5,h_sb0,h_sb1,h_sb2,h_sb3,h_B⟩:=(id hHeld);go_simp;refine(HSM.out _ _ _ _ _ hrk h_hrow (HMK7.out.trans HMK.out.symm)).mono ?_;rintro e w9 ⟨rfl,hb⟩;clear hrk;go_wp2_with fail;refine hK.out _ _ ?_ (fun hHeld2=>?_);(focus((try dsimp only);exact⟨Sd.to h_hsd hb,crow_bl h_hrow hb,log_bl h_hlg hb,bl_cell hb h_qb0,bl_cell hb h_qb1,bl_cell hb h_qb2,bl_cell hb h_qb3,bl_cell hb h_qb4,bl_cell hb h_qb5,bl_cell hb h_sb0,bl_cell hb h_sb1,bl_cell hb h_sb2,bl_cell hb h_sb3,bl_then h_B hb⟩));clear hHeld hK K;have hHeld:=hHeld2;clear hHeld2 h_hsd h_hrow h_hlg h_qb0 h_qb1 h_qb2 h_qb3 h_qb4 h_qb5 h_sb0 h_sb1 h_sb2 h_sb3 h_B;try simp only[Act.put,List.setIfInBounds_toArray,List.set_cons_zero,List.set_cons_succ])
      refine tkx 13 ?_
      refine tkx 14 ?_
      first|(refine tqx 15 ?_)|(refine callC (i:=15) rfl (fun K hK=>?_);obtain⟨h_hsd,h_hrow,h_hlg,h_qb0,h_qb1,h_qb2,h_qb3,h_qb4,h_qb5,h_sb0,h_sb1,h_sb2,h_sb3,h_B⟩:=(id hHeld);go_simp;refine(HKN.out _).mono ?_;rintro e w9 ⟨rfl,hb⟩;go_wp2_with fail;refine hK.out _ _ ?_ (fun hHeld2=>?_);(focus((try dsimp only);exact⟨Sd.to h_hsd hb,crow_bl h_hrow hb,log_bl h_hlg hb,bl_cell hb h_qb0,bl_cell hb h_qb1,bl_cell hb h_qb2,bl_cell hb h_qb3,bl_cell hb h_qb4,bl_cell hb h_qb5,bl_cell hb h_sb0,bl_cell hb h_sb1,bl_cell hb h_sb2,bl_cell hb h_sb3,bl_then h_B hb⟩));clear hHeld hK K;have hHeld:=hHeld2;clear hHeld2 h_hsd h_hrow h_hlg h_qb0 h_qb1 h_qb2 h_qb3 h_qb4 h_qb5 h_sb0 h_sb1 h_sb2 h_sb3 h_B;try simp only[Act.put,List.setIfInBounds_toArray,List.set_cons_zero,List.set_cons_succ])
      refine tkx 16 ?_
      refine tkx 17 ?_
      refine wpAnyH_done (by kernel_rfl) ?_ _
      refine then_abs (F:=fun w'=>Sd w1 w' (w3.heap.size) p.b (roomOf 100) (j) p2 nx (Js.map (·.x)) (v) Js∧CRow w' 0 (.slice a5 k c5) Ks∧LogAt w' a6 0 c6 LLG∧w'.cell? ⟨w.heap.size,0,none⟩=some (.int .i64 q.kind)∧w'.cell? ⟨w.heap.size,1,none⟩=some (.int .i64 q.limit)∧w'.cell? ⟨w.heap.size,2,none⟩=some (.int .i64 q.period)∧w'.cell? ⟨w.heap.size,3,none⟩=some (.int .i64 q.burst)∧w'.cell? ⟨w.heap.size,4,none⟩=some (.int .i64 q.cap)∧w'.cell? ⟨w.heap.size,5,none⟩=some (.bool q.opn)∧S4 w' (w5.heap.size) lat llev lheld a6 0 c6 (Below w.heap.size w w')) hHeld ?_
      clear hHeld hB hsd hrow hlg qb0 qb1 qb2 qb3 qb4 qb5 sb0 sb1 sb2 sb3
      rintro w81 ⟨hsd,hrow,hlg,qb0,qb1,qb2,qb3,qb4,qb5,sb0,sb1,sb2,sb3,hB⟩
      have lb_qb:=lbc qb0
      have lb_sb:=lbc sb0
      go_wp2_with fail
      go_ret
      first|exact⟨rfl,hB⟩|exact hB
     ·refine wp_region_held_drew (S:=fun w'=>Sd w1 w' (w3.heap.size) p.b (roomOf 100) (j) p2 nx (Js.map (·.x)) (v) Js∧CRow w' 0 (.slice a5 k c5) Ks∧LogAt w' a6 n6 c6 LLG∧w'.cell? ⟨w.heap.size,0,none⟩=some (.int .i64 q.kind)∧w'.cell? ⟨w.heap.size,1,none⟩=some (.int .i64 q.limit)∧w'.cell? ⟨w.heap.size,2,none⟩=some (.int .i64 q.period)∧w'.cell? ⟨w.heap.size,3,none⟩=some (.int .i64 q.burst)∧w'.cell? ⟨w.heap.size,4,none⟩=some (.int .i64 q.cap)∧w'.cell? ⟨w.heap.size,5,none⟩=some (.bool q.opn)∧S4 w' (w5.heap.size) lat llev lheld a6 n6 c6 (Below w.heap.size w w')) (by kernel_rfl) ?_ (fun hHeld=>?_)
      ·exact⟨(hsd.to (bl_drew (bl_refl _))),(crow_bl hrow (bl_drew (bl_refl _))),(log_bl hlg (bl_drew (bl_refl _))),qb0,qb1,qb2,qb3,qb4,qb5,sb0,sb1,sb2,sb3,bl_drew hB⟩
      try simp only[Act.put,List.setIfInBounds_toArray,List.set_cons_zero,List.set_cons_succ]
      refine tkx 0 ?_
      refine tkx 1 ?_
      first|refine tqx 2 ?_|refine tkx 2 ?_
      first|refine tqx 3 ?_|refine tkx 3 ?_
      first|refine tqx 4 ?_|refine tkx 4 ?_
      first|(refine tqx 5 ?_)|(refine callC (i:=5) rfl (fun K hK=>?_);obtain⟨h_hsd,h_hrow,h_hlg,h_qb0,h_qb1,h_qb2,h_qb3,h_qb4,h_qb5,h_sb0,h_sb1,h_sb2,h_sb3,h_B⟩:=(id hHeld);go_simp;refine(HNWC.out _).mono ?_;rintro e w9 ⟨rfl,hb⟩;go_wp2_with fail;refine hK.out _ _ ?_ (fun hHeld2=>?_);(focus((try dsimp only);exact⟨Sd.to h_hsd hb,crow_bl h_hrow hb,log_bl h_hlg hb,bl_cell hb h_qb0,bl_cell hb h_qb1,bl_cell hb h_qb2,bl_cell hb h_qb3,bl_cell hb h_qb4,bl_cell hb h_qb5,bl_cell hb h_sb0,bl_cell hb h_sb1,bl_cell hb h_sb2,bl_cell hb h_sb3,bl_then h_B hb⟩));clear hHeld hK K;have hHeld:=hHeld2;clear hHeld2 h_hsd h_hrow h_hlg h_qb0 h_qb1 h_qb2 h_qb3 h_qb4 h_qb5 h_sb0 h_sb1 h_sb2 h_sb3 h_B;try simp only[Act.put,List.setIfInBounds_toArray,List.set_cons_zero,List.set_cons_succ])
      first|(refine tqx 6 ?_)|(refine callC (i:=6) rfl (fun K hK=>?_);obtain⟨h_hsd,h_hrow,h_hlg,h_qb0,h_qb1,h_qb2,h_qb3,h_qb4,h_qb5,h_sb0,h_sb1,h_sb2,h_sb3,h_B⟩:=(id hHeld);go_simp;refine(HSS.out _ _ _ _ _ _ h_hlg (by rw[HZ.out];exact log_nil _ _ _ (by omega))).mono ?_;rintro e w9 ⟨rfl,hb⟩;go_wp2_with fail;refine hK.out _ _ ?_ (fun hHeld2=>?_);(focus((try dsimp only);exact⟨Sd.to h_hsd hb,crow_bl h_hrow hb,log_bl h_hlg hb,bl_cell hb h_qb0,bl_cell hb h_qb1,bl_cell hb h_qb2,bl_cell hb h_qb3,bl_cell hb h_qb4,bl_cell hb h_qb5,bl_cell hb h_sb0,bl_cell hb h_sb1,bl_cell hb h_sb2,bl_cell hb h_sb3,bl_then h_B hb⟩));clear hHeld hK K;have hHeld:=hHeld2;clear hHeld2 h_hsd h_hrow h_hlg h_qb0 h_qb1 h_qb2 h_qb3 h_qb4 h_qb5 h_sb0 h_sb1 h_sb2 h_sb3 h_B;try simp only[Act.put,List.setIfInBounds_toArray,List.set_cons_zero,List.set_cons_succ])
      refine tkx 7 ?_
      refine tkx 8 ?_
      first|refine tqx 9 ?_|refine tkx 9 ?_
      first|refine tqx 11 ?_|refine tkx 11 ?_
      first|(refine tqx 10 ?_)|(refine callC (i:=10) rfl (fun K hK=>?_);obtain⟨h_hsd,h_hrow,h_hlg,h_qb0,h_qb1,h_qb2,h_qb3,h_qb4,h_qb5,h_sb0,h_sb1,h_sb2,h_sb3,h_B⟩:=(id hHeld);go_simp;refine(HAL.out _ h_hsd).mono ?_;rintro e w9 ⟨a7,n7,c7,Ks7,rfl,rfl,hrk,hmk,-,-,hb⟩;have HMK7:=Go.Lib.hid hmk;clear hmk;go_wp2_with fail;refine hK.out _ _ ?_ (fun hHeld2=>?_);(focus((try dsimp only);exact⟨Sd.to h_hsd hb,crow_bl h_hrow hb,log_bl h_hlg hb,bl_cell hb h_qb0,bl_cell hb h_qb1,bl_cell hb h_qb2,bl_cell hb h_qb3,bl_cell hb h_qb4,bl_cell hb h_qb5,bl_cell hb h_sb0,bl_cell hb h_sb1,bl_cell hb h_sb2,bl_cell hb h_sb3,bl_then h_B hb⟩));clear hHeld hK K;have hHeld:=hHeld2;clear hHeld2 h_hsd h_hrow h_hlg h_qb0 h_qb1 h_qb2 h_qb3 h_qb4 h_qb5 h_sb0 h_sb1 h_sb2 h_sb3 h_B;try simp only[Act.put,List.setIfInBounds_toArray,List.set_cons_zero,List.set_cons_succ])
      first|(refine tqx 12 ?_)|(refine callC (i:=12) rfl (fun K hK=>?_);obtain⟨h_hsd,h_hrow,h_hlg,h_qb0,h_qb1,h_qb2,h_qb3,h_qb4,h_qb5,h_sb0,h_sb1,h_sb2,h_sb3,h_B⟩:=(id hHeld);go_simp;refine(HSM.out _ _ _ _ _ hrk h_hrow (HMK7.out.trans HMK.out.symm)).mono ?_;rintro e w9 ⟨rfl,hb⟩;clear hrk;go_wp2_with fail;refine hK.out _ _ ?_ (fun hHeld2=>?_);(focus((try dsimp only);exact⟨Sd.to h_hsd hb,crow_bl h_hrow hb,log_bl h_hlg hb,bl_cell hb h_qb0,bl_cell hb h_qb1,bl_cell hb h_qb2,bl_cell hb h_qb3,bl_cell hb h_qb4,bl_cell hb h_qb5,bl_cell hb h_sb0,bl_cell hb h_sb1,bl_cell hb h_sb2,bl_cell hb h_sb3,bl_then h_B hb⟩));clear hHeld hK K;have hHeld:=hHeld2;clear hHeld2 h_hsd h_hrow h_hlg h_qb0 h_qb1 h_qb2 h_qb3 h_qb4 h_qb5 h_sb0 h_sb1 h_sb2 h_sb3 h_B;try simp only[Act.put,List.setIfInBounds_toArray,List.set_cons_zero,List.set_cons_succ])
      refine tkx 13 ?_
      refine tkx 14 ?_
      first|(refine tqx 15 ?_)|(refine callC (i:=15) rfl (fun K hK=>?_);obtain⟨h_hsd,h_hrow,h_hlg,h_qb0,h_qb1,h_qb2,h_qb3,h_qb4,h_qb5,h_sb0,h_sb1,h_sb2,h_sb3,h_B⟩:=(id hHeld);go_simp;refine(HKN.out _).mono ?_;rintro e w9 ⟨rfl,hb⟩;go_wp2_with fail;refine hK.out _ _ ?_ (fun hHeld2=>?_);(focus((try dsimp only);exact⟨Sd.to h_hsd hb,crow_bl h_hrow hb,log_bl h_hlg hb,bl_cell hb h_qb0,bl_cell hb h_qb1,bl_cell hb h_qb2,bl_cell hb h_qb3,bl_cell hb h_qb4,bl_cell hb h_qb5,bl_cell hb h_sb0,bl_cell hb h_sb1,bl_cell hb h_sb2,bl_cell hb h_sb3,bl_then h_B hb⟩));clear hHeld hK K;have hHeld:=hHeld2;clear hHeld2 h_hsd h_hrow h_hlg h_qb0 h_qb1 h_qb2 h_qb3 h_qb4 h_qb5 h_sb0 h_sb1 h_sb2 h_sb3 h_B;try simp only[Act.put,List.setIfInBounds_toArray,List.set_cons_zero,List.set_cons_succ])
      refine tkx 16 ?_
      refine tkx 17 ?_
      refine wpAnyH_done (by kernel_rfl) ?_ _
      refine then_abs (F:=fun w'=>Sd w1 w' (w3.heap.size) p.b (roomOf 100) (j) p2 nx (Js.map (·.x)) (v) Js∧CRow w' 0 (.slice a5 k c5) Ks∧LogAt w' a6 n6 c6 LLG∧w'.cell? ⟨w.heap.size,0,none⟩=some (.int .i64 q.kind)∧w'.cell? ⟨w.heap.size,1,none⟩=some (.int .i64 q.limit)∧w'.cell? ⟨w.heap.size,2,none⟩=some (.int .i64 q.period)∧w'.cell? ⟨w.heap.size,3,none⟩=some (.int .i64 q.burst)∧w'.cell? ⟨w.heap.size,4,none⟩=some (.int .i64 q.cap)∧w'.cell? ⟨w.heap.size,5,none⟩=some (.bool q.opn)∧S4 w' (w5.heap.size) lat llev lheld a6 n6 c6 (Below w.heap.size w w')) hHeld ?_
      clear hHeld hB hsd hrow hlg qb0 qb1 qb2 qb3 qb4 qb5 sb0 sb1 sb2 sb3
      rintro w91 ⟨hsd,hrow,hlg,qb0,qb1,qb2,qb3,qb4,qb5,sb0,sb1,sb2,sb3,hB⟩
      have lb_qb:=lbc qb0
      have lb_sb:=lbc sb0
      go_wp2_with fail
      go_ret
      first|exact⟨rfl,hB⟩|exact hB
theorem cother_row (la:Option Addr) (m lc:Nat) (ds:Nat→CD) (s:ByteArray) (q:Pol) (now:Int) (w:World) (hA:CDosIn w la m ds) (hs:s.size≤maxLen):Calls Tryz.prog 11 #[.slice la m lc,.string s,q.v,.int .i64 now] w fun e w'=>e=.returned (.bool true)∧Below w.heap.size w w':=by
 by_cases hm:(40:Int)<m
 ·exact cother_long la m lc ds s q now w hA hs hm
 ·exact cother_run la m lc ds s q now w hA hs hm
theorem cother_walk (la:Option Addr) (m lc:Nat) (ds:Nat→CD) (s:ByteArray) (q:Pol) (now:Int) (w:World) (hA:CDosIn w la m ds) (hs:s.size≤maxLen) (_ : -9223372036854775808≤now) (_:now≤9223372036854775807):Calls Tryz.prog 11 #[.slice la m lc,.string s,q.v,.int .i64 now] w fun e w'=>e=.returned (.bool true)∧Below w.heap.size w w':=cother_row la m lc ds s q now w hA hs
end Go.Proofs.YtmhikkbdhboodaaGreat

namespace Go.Proofs.YtmhikkbdhboodaaGreat.cellsOther
open Go.ChangeShapes Go.WideShapes Go.ChangeAt Go.RowKit
open Go.ChangeMaps (open_string shut_string)
set_option linter.unusedVariables false
set_option linter.unusedSimpArgs false

theorem own:ownKnob Tryz.prog.godebug=none:=by kernel_rfl
theorem laidOut:laidOutB Tryz.prog=true:=by kernel_rfl

set_option maxHeartbeats 1000000 in
set_option maxRecDepth 100000 in
theorem lifted (os:Os) (started:os.Started) (H:Type) (enc:TypeId × Value→H) :
  ReturnsInHanded {} Tryz.checked os 11 .any (Rows.cellsOtherSpec.pre6 enc Tryz.prog Tryz.f11 Rows.cellsOtherRow.domain false) (Rows.cellsOtherSpec.post enc Tryz.prog Tryz.f11 false true false false):=by
 refine returnsInHanded_of_change (C:=Tryz.checked) own started (by kernel_rfl) Tryz.func11
  (ChangeSpec.witness6 (enc:=enc) (C:=Tryz.checked) false ⟨#[],#[.slice none 0 0,.string ByteArray.empty,.agg #[.int .i64 0,.int .i64 0,.int .i64 0,.int .i64 0,.int .i64 0,.bool false],.int .i64 0],[]⟩ 8 (by kernel_rfl) (by kernel_rfl) (by kernel_rfl) (by kernel_rfl)) ?_
 intro W base args ds gs before hval0 hW hcnd _
 have hval:∀ (j:Nat) t v,Tryz.f11.params[j]?=some t→args[j]?=some v→Value.okWide Tryz.prog W .any base t v:=hval0
 have hW':=hW
 obtain⟨p,q,hA0,hV,rfl,hfz,hnd⟩:=hW
 have hA:DataW.TrodAll enc Tryz.prog W 0 (fun _=>true) true Tryz.f11.params.toList args.toList ds p:=hA0
 rw[Tryz.params11] at hA hval
 obtain⟨v0,vs0,d0,ds0',p0,q0,hargs,rfl,rfl,h0,r0⟩:=trodAll_cons hA
 obtain⟨v1,vs1,d1,ds1',p1,q1,rfl,rfl,rfl,h1,r1⟩:=trodAll_cons r0
 obtain⟨v2,vs2,d2,ds2',p2,q2,rfl,rfl,rfl,h2,r2⟩:=trodAll_cons r1
 obtain⟨v3,vs3,d3,ds3',p3,q3,rfl,rfl,rfl,h3,r3⟩:=trodAll_cons r2
 obtain⟨rfl,rfl,rfl⟩:=trodAll_nil r3
 obtain rfl:args = #[v0,v1,v2,v3]:=by cases args;simp_all
 obtain⟨rfl,rfl⟩:=trodVars_none hV
 obtain⟨a0,len0,cap0,rfl⟩:=okWide_slice Tryz.underlying49 (hval 0 49 v0 rfl rfl)
 have k0:=h0
 have lt0:∀ x ∈ p0,x.block<W.heap.size:=by obtain⟨m,hm⟩:=k0;exact DataW.trod_lt m _ _ _ hm
 obtain⟨ds0,w0⟩:∃ ds,CDosIn W a0 len0 ds:=by obtain⟨fuel,hf⟩:=h0;exact open_cds (by simpa [Value.cells] using hf)
 obtain⟨a1,rfl,rfl,rfl,w1⟩:=open_string Tryz.underlying9 (hval 1 9 v1 rfl rfl) h1
 have k2:=h2
 have lt2:∀ x ∈ p2,x.block<W.heap.size:=by obtain⟨m,hm⟩:=k2;exact DataW.trod_lt m _ _ _ hm
 obtain⟨ds2,rfl⟩:=open_pol (hval 2 23 v2 rfl rfl) h2
 obtain⟨a3,rfl,rfl,rfl,w3⟩:=open_int Tryz.underlying3 (hval 3 3 v3 rfl rfl) h3
 have b3l : -9223372036854775808≤a3:=by have h:=w3;simp only[Lit.wf,Bool.and_eq_true,decide_eq_true_eq] at h;exact h.1
 have b3h:a3≤9223372036854775807:=by have h:=w3;simp only[Lit.wf,Bool.and_eq_true,decide_eq_true_eq] at h;exact h.2
 clear hA0 hval0
 refine(cother_walk a0 len0 cap0 ds0 a1 ds2 a3 W w0 w1 b3l b3h).mono fun e W' ⟨he,bel⟩=>?_
 subst he
 exact⟨_,rfl,_,_,_,[],_,[],hW',trodAll_mk1 (shut_bool Tryz.underlying4 _),(trodAll_cons_mk (Below.trod laidOut (by kernel_rfl) (of_decide_eq_true (by kernel_rfl)) k0 bel lt0) (trodAll_cons_mk (shut_string Tryz.underlying9 w1) (trodAll_cons_mk (Below.trod laidOut (by kernel_rfl) (of_decide_eq_true (by kernel_rfl)) k2 bel lt2) (trodAll_cons_mk (shut_int Tryz.underlying3 w3) trodAll_mk0)))),rfl,bel.frame _,fun h=>by cases h⟩

theorem over:Rows.cellsOtherRow.holds Tryz.pinned (OpenSpec.ofChange Rows.cellsOtherSpec) :=
 OpenClaim.holds_of_wide 11 Tryz.f11 rfl rfl rfl rfl rfl rfl rfl ⟨rfl,rfl,rfl,rfl,rfl⟩ rfl rfl rfl rfl rfl (by kernel_rfl) Tryz.func11 (by kernel_rfl)
  (of_decide_eq_true (by kernel_rfl)) (by unfold Func.isWrapper;first|(rw[if_pos (by decide +kernel)];kernel_rfl)|(rw[if_neg (by decide +kernel)];exact⟨rfl,rfl⟩))
  (fun os started H enc _=>lifted os started H enc)

/-- The statement. -/
theorem proved:Rows.CellsOtherSaid:=over
end Go.Proofs.YtmhikkbdhboodaaGreat.cellsOther
