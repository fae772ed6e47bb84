/-
  The statement CellsNewest of this seat: for every input the law returns true, and each argument reads afterwards as it read before. No condition.
-/
import Derived.Test.YtmhikkbdhboodaaGreatZcX
import Derived.Test.YtmhikkbdhboodaaGreatRows
import Derived.WalkKit
import Derived.ProofKit
import Derived.OpenShut
import Derived.ShutString
import Derived.ChangeOld
import Derived.Below
namespace Go.Proofs.YtmhikkbdhboodaaGreat
open Go.RowKit Go.Maps
set_option linter.unusedVariables false
set_option linter.unusedSimpArgs false

set_option maxHeartbeats 8000000 in
set_option maxRecDepth 100000 in
theorem cnewest_long (la:Option Addr) (m lc:Nat) (ds:Nat→CD) (x:Cl) (xa:Option Addr) (xn xc:Nat) (now:Int) (room:Int) (w:World) (hr0:0≤room) (hr1:room≤255) (hA:CDosIn w la m ds) (hX:CellIn w x xa xn xc) (hm:(40:Int)<m):Calls Tryz.prog 7 #[.slice la m lc,x.v xa xn xc,.int .i64 now,.int .u8 room] w fun e w'=>e=.returned (.bool true)∧Below w.heap.size w w':=by
 have h41:40<m:=by omega
 have HKN:=Go.Lib.hid cknown
 clear hA
 have hrw:IntKind.i64.wrap room=room:=IntWalk.i64_in _ (by omega)
 obtain⟨hxl,hxs⟩:=hX
 obtain⟨X,hXe⟩:∃ X:Cl,X=x:=⟨_,rfl⟩
 have hset:∀ (w0 W:World) (tb b0 rm k:Nat) (p:CsP) (nx:Nat) (L:List Cl) (v:Value) (Js:List LC) (h:Sd w0 W tb b0 rm k p nx L v Js) (hz:w.heap.size≤w0.heap.size) (hk:k<1000000) (hb:Below w.heap.size w W),Calls Tryz.prog 40 #[.pointer (some ⟨b0,0,none⟩),x.v xa xn xc,.int .i64 now] W fun e w'=>e=.returned (.int .i64 (cSet rm L X now).2)∧∃ p' nx',Sd w0 w' tb b0 rm (k+1) p' nx' (cSet rm L X now).1 v Js∧Moved p p' W w':=by
  intro w0 W tb b0 rm k p nx L v Js h hz hk hb
  subst hXe
  exact sd_set X xa xn xc now h (log_bl hxl hb) (fun ad e hn=>h.low _ (Nat.lt_of_lt_of_le (clog_lt hxl ad e hn) hz)) hxs hk
 have hrt:∀ (W:World) (hb:Below w.heap.size w W),Calls Tryz.prog 44 #[x.pol.v,x.st.v xa xn xc] W fun e w'=>e=.returned (.bool (rightP X.pol X.st))∧Below W.heap.size W w':=by
  intro W hb;subst hXe;exact r8right_any X.pol X.st xa xn xc W (log_bl hxl hb)
 have hfx:∀ (W:World) (hb:Below w.heap.size w W),Calls Tryz.prog 36 #[x.v xa xn xc,.int .i64 now] W fun e w'=>e=.returned (.bool (cFresh now X))∧Below W.heap.size W w':=by
  intro W hb;subst hXe;exact rfresh_any X xa xn xc now W (log_bl hxl hb)
 have hlx:∀ (w0 W:World) (tb b0 rm k:Nat) (p:CsP) (nx:Nat) (L:List Cl) (v:Value) (Js:List LC) (h:Sd w0 W tb b0 rm k p nx L v Js) (hk:k<1000000),Calls Tryz.prog 41 #[.pointer (some ⟨b0,0,none⟩),.string (ktx x.key),x.pol.v,.int .i64 now] W fun e w'=>∃ (a':Option Addr) (n' c':Nat),e=.returned ((cLook L X.key X.pol now).v a' n' c')∧LogAt w' a' n' c' (cLook L X.key X.pol now).log∧Below W.heap.size W w':=by
  intro w0 W tb b0 rm k p nx L v Js h hk;subst hXe
  have hh:=sd_look (ktx X.key) X.pol now h (by rw[ktx_size];exact hxs) hk
  rw[ktx_list] at hh
  exact hh
 have hsx:=fun a1 k1 W h1 h2=>same_yes x.st a1 xa xn k1 xc W h1 h2
 have hxk:(ktx x.key).data.toList=X.key:=by rw[hXe,ktx_list]
 have hxp:X.pol=x.pol:=by rw[hXe]
 have hxst:X.st=x.st:=by rw[hXe]
 have hxlg:LogAt w xa xn xc x.st.log:=hxl
 have HXE0:=Go.Lib.hid hXe
 clear hXe hxl hxs
 obtain⟨ckey,⟨ck,cl,cd,cb,cp,co⟩,⟨cat,clev,cheld,CLG⟩⟩:=x
 unfold Cl.v Pol.v St.v at *
 dsimp only at *
 have HXE:Hid (X=⟨ckey,⟨ck,cl,cd,cb,cp,co⟩,⟨cat,clev,cheld,CLG⟩⟩):=HXE0
 clear HXE0
 generalize hkx:ktx ckey=KX at *
 have HKX:=Go.Lib.hid hkx
 clear hkx
 have HXK:=Go.Lib.hid hxk
 have HXP:=Go.Lib.hid hxp
 have HXST:=Go.Lib.hid hxst
 have HXLG:=Go.Lib.hid hxlg
 clear hxk hxp hxst hxlg
 have HSET:=Go.Lib.hid hset
 have HRT:=Go.Lib.hid hrt
 have HFX:=Go.Lib.hid hfx
 have HLX:=Go.Lib.hid hlx
 have HSX:=Go.Lib.hid hsx
 clear hset hrt hfx hlx hsx
 go_enter Tryz.func7,Tryz.ntmps7
 go_wp2_with fail
 refine(HKN.out _).mono ?_
 rintro e w1 ⟨rfl,hb⟩
 have hx:Below w.heap.size w w1:=bl_then (bl_alloc (bl_refl _) _) hb
 have hsz1:w.heap.size+1≤w1.heap.size:=szl hb
 have bx0:=bl_cell (v:=.string KX) hb (show World.cell? _ ⟨w.heap.size,0,none⟩=_ by go_simp)
 have bx1:=bl_cell (v:=.int .i64 ck) hb (show World.cell? _ ⟨w.heap.size,1,none⟩=_ by go_simp)
 have bx2:=bl_cell (v:=.int .i64 cl) hb (show World.cell? _ ⟨w.heap.size,2,none⟩=_ by go_simp)
 have bx3:=bl_cell (v:=.int .i64 cd) hb (show World.cell? _ ⟨w.heap.size,3,none⟩=_ by go_simp)
 have bx4:=bl_cell (v:=.int .i64 cb) hb (show World.cell? _ ⟨w.heap.size,4,none⟩=_ by go_simp)
 have bx5:=bl_cell (v:=.int .i64 cp) hb (show World.cell? _ ⟨w.heap.size,5,none⟩=_ by go_simp)
 have bx6:=bl_cell (v:=.bool co) hb (show World.cell? _ ⟨w.heap.size,6,none⟩=_ by go_simp)
 have bx7:=bl_cell (v:=.int .i64 cat) hb (show World.cell? _ ⟨w.heap.size,7,none⟩=_ by go_simp)
 have bx8:=bl_cell (v:=.int .i64 clev) hb (show World.cell? _ ⟨w.heap.size,8,none⟩=_ by go_simp)
 have bx9:=bl_cell (v:=.int .i64 cheld) hb (show World.cell? _ ⟨w.heap.size,9,none⟩=_ by go_simp)
 have bx10:=bl_cell (v:=.slice xa xn xc) hb (show World.cell? _ ⟨w.heap.size,10,none⟩=_ by go_simp)
 have hB:Below w.heap.size w w1:=hx
 have lb_bx:=lbc bx0
 have lb_bx1:=lbc bx10
 clear hb hx
 go_wp2_with fail
 go_ret
 exact⟨rfl,hB⟩
set_option maxHeartbeats 8000000 in
set_option maxRecDepth 100000 in
theorem cnewest_run (la:Option Addr) (m lc:Nat) (ds:Nat→CD) (x:Cl) (xa:Option Addr) (xn xc:Nat) (now:Int) (room:Int) (w:World) (hr0:0≤room) (hr1:room≤255) (hA:CDosIn w la m ds) (hX:CellIn w x xa xn xc) (hm:¬ (40:Int)<m):Calls Tryz.prog 7 #[.slice la m lc,x.v xa xn xc,.int .i64 now,.int .u8 room] w fun e w'=>e=.returned (.bool true)∧Below w.heap.size w w':=by
 have HKN:=Go.Lib.hid cknown
 have HA:=Go.Lib.hid hA
 have HLG:=Go.Lib.hid (fun W hW=>clong_any la m lc ds W (cds_bl hA hW))
 have h41:¬ 40<m:=by omega
 clear hA
 have hrw:IntKind.i64.wrap room=room:=IntWalk.i64_in _ (by omega)
 obtain⟨hxl,hxs⟩:=hX
 obtain⟨X,hXe⟩:∃ X:Cl,X=x:=⟨_,rfl⟩
 have hset:∀ (w0 W:World) (tb b0 rm k:Nat) (p:CsP) (nx:Nat) (L:List Cl) (v:Value) (Js:List LC) (h:Sd w0 W tb b0 rm k p nx L v Js) (hz:w.heap.size≤w0.heap.size) (hk:k<1000000) (hb:Below w.heap.size w W),Calls Tryz.prog 40 #[.pointer (some ⟨b0,0,none⟩),x.v xa xn xc,.int .i64 now] W fun e w'=>e=.returned (.int .i64 (cSet rm L X now).2)∧∃ p' nx',Sd w0 w' tb b0 rm (k+1) p' nx' (cSet rm L X now).1 v Js∧Moved p p' W w':=by
  intro w0 W tb b0 rm k p nx L v Js h hz hk hb
  subst hXe
  exact sd_set X xa xn xc now h (log_bl hxl hb) (fun ad e hn=>h.low _ (Nat.lt_of_lt_of_le (clog_lt hxl ad e hn) hz)) hxs hk
 have hrt:∀ (W:World) (hb:Below w.heap.size w W),Calls Tryz.prog 44 #[x.pol.v,x.st.v xa xn xc] W fun e w'=>e=.returned (.bool (rightP X.pol X.st))∧Below W.heap.size W w':=by
  intro W hb;subst hXe;exact r8right_any X.pol X.st xa xn xc W (log_bl hxl hb)
 have hfx:∀ (W:World) (hb:Below w.heap.size w W),Calls Tryz.prog 36 #[x.v xa xn xc,.int .i64 now] W fun e w'=>e=.returned (.bool (cFresh now X))∧Below W.heap.size W w':=by
  intro W hb;subst hXe;exact rfresh_any X xa xn xc now W (log_bl hxl hb)
 have hlx:∀ (w0 W:World) (tb b0 rm k:Nat) (p:CsP) (nx:Nat) (L:List Cl) (v:Value) (Js:List LC) (h:Sd w0 W tb b0 rm k p nx L v Js) (hk:k<1000000),Calls Tryz.prog 41 #[.pointer (some ⟨b0,0,none⟩),.string (ktx x.key),x.pol.v,.int .i64 now] W fun e w'=>∃ (a':Option Addr) (n' c':Nat),e=.returned ((cLook L X.key X.pol now).v a' n' c')∧LogAt w' a' n' c' (cLook L X.key X.pol now).log∧Below W.heap.size W w':=by
  intro w0 W tb b0 rm k p nx L v Js h hk;subst hXe
  have hh:=sd_look (ktx X.key) X.pol now h (by rw[ktx_size];exact hxs) hk
  rw[ktx_list] at hh
  exact hh
 have hsx:=fun a1 k1 W h1 h2=>same_yes x.st a1 xa xn k1 xc W h1 h2
 have hxk:(ktx x.key).data.toList=X.key:=by rw[hXe,ktx_list]
 have hxp:X.pol=x.pol:=by rw[hXe]
 have hxst:X.st=x.st:=by rw[hXe]
 have hxlg:LogAt w xa xn xc x.st.log:=hxl
 have HXE0:=Go.Lib.hid hXe
 clear hXe hxl hxs
 obtain⟨ckey,⟨ck,cl,cd,cb,cp,co⟩,⟨cat,clev,cheld,CLG⟩⟩:=x
 unfold Cl.v Pol.v St.v at *
 dsimp only at *
 have HXE:Hid (X=⟨ckey,⟨ck,cl,cd,cb,cp,co⟩,⟨cat,clev,cheld,CLG⟩⟩):=HXE0
 clear HXE0
 generalize hkx:ktx ckey=KX at *
 have HKX:=Go.Lib.hid hkx
 clear hkx
 have HXK:=Go.Lib.hid hxk
 have HXP:=Go.Lib.hid hxp
 have HXST:=Go.Lib.hid hxst
 have HXLG:=Go.Lib.hid hxlg
 clear hxk hxp hxst hxlg
 have HSET:=Go.Lib.hid hset
 have HRT:=Go.Lib.hid hrt
 have HFX:=Go.Lib.hid hfx
 have HLX:=Go.Lib.hid hlx
 have HSX:=Go.Lib.hid hsx
 clear hset hrt hfx hlx hsx
 go_enter Tryz.func7,Tryz.ntmps7
 go_wp2_with fail
 refine(HLG.out _ (bl_alloc (bl_refl _) _)).mono ?_
 rintro e w1 ⟨lq,rfl,hb⟩
 have hx:Below w.heap.size w w1:=bl_then (bl_alloc (bl_refl _) _) hb
 have hsz1:w.heap.size+1≤w1.heap.size:=szl hb
 have bx0:=bl_cell (v:=.string KX) hb (show World.cell? _ ⟨w.heap.size,0,none⟩=_ by go_simp)
 have bx1:=bl_cell (v:=.int .i64 ck) hb (show World.cell? _ ⟨w.heap.size,1,none⟩=_ by go_simp)
 have bx2:=bl_cell (v:=.int .i64 cl) hb (show World.cell? _ ⟨w.heap.size,2,none⟩=_ by go_simp)
 have bx3:=bl_cell (v:=.int .i64 cd) hb (show World.cell? _ ⟨w.heap.size,3,none⟩=_ by go_simp)
 have bx4:=bl_cell (v:=.int .i64 cb) hb (show World.cell? _ ⟨w.heap.size,4,none⟩=_ by go_simp)
 have bx5:=bl_cell (v:=.int .i64 cp) hb (show World.cell? _ ⟨w.heap.size,5,none⟩=_ by go_simp)
 have bx6:=bl_cell (v:=.bool co) hb (show World.cell? _ ⟨w.heap.size,6,none⟩=_ by go_simp)
 have bx7:=bl_cell (v:=.int .i64 cat) hb (show World.cell? _ ⟨w.heap.size,7,none⟩=_ by go_simp)
 have bx8:=bl_cell (v:=.int .i64 clev) hb (show World.cell? _ ⟨w.heap.size,8,none⟩=_ by go_simp)
 have bx9:=bl_cell (v:=.int .i64 cheld) hb (show World.cell? _ ⟨w.heap.size,9,none⟩=_ by go_simp)
 have bx10:=bl_cell (v:=.slice xa xn xc) hb (show World.cell? _ ⟨w.heap.size,10,none⟩=_ by go_simp)
 have hB:Below w.heap.size w w1:=hx
 have lb_bx:=lbc bx0
 have lb_bx1:=lbc bx10
 clear hb hx
 by_cases hq:600<lq
 ·go_wp2_with fail
  refine(HKN.out _).mono ?_
  rintro e w2 ⟨rfl,hb⟩
  have hsz2:w1.heap.size+0≤w2.heap.size:=szl hb
  replace bx0:=bl_cell hb bx0
  replace bx1:=bl_cell hb bx1
  replace bx2:=bl_cell hb bx2
  replace bx3:=bl_cell hb bx3
  replace bx4:=bl_cell hb bx4
  replace bx5:=bl_cell hb bx5
  replace bx6:=bl_cell hb bx6
  replace bx7:=bl_cell hb bx7
  replace bx8:=bl_cell hb bx8
  replace bx9:=bl_cell hb bx9
  replace bx10:=bl_cell hb bx10
  replace hB:Below w.heap.size w w2:=bl_then hB hb
  replace lb_bx:=lbc bx0
  replace lb_bx1:=lbc bx10
  clear hb
  go_wp2_with fail
  go_ret
  exact⟨rfl,hB⟩
 by_cases hg0:100<xn
 ·have hgi0:(100:Int)<(xn:Nat):=by omega
  go_wp2_with fail
  refine(HKN.out _).mono ?_
  rintro e w2 ⟨rfl,hb⟩
  have hsz2:w1.heap.size+0≤w2.heap.size:=szl hb
  replace bx0:=bl_cell hb bx0
  replace bx1:=bl_cell hb bx1
  replace bx2:=bl_cell hb bx2
  replace bx3:=bl_cell hb bx3
  replace bx4:=bl_cell hb bx4
  replace bx5:=bl_cell hb bx5
  replace bx6:=bl_cell hb bx6
  replace bx7:=bl_cell hb bx7
  replace bx8:=bl_cell hb bx8
  replace bx9:=bl_cell hb bx9
  replace bx10:=bl_cell hb bx10
  replace hB:Below w.heap.size w w2:=bl_then hB hb
  replace lb_bx:=lbc bx0
  replace lb_bx1:=lbc bx10
  clear hb
  go_wp2_with fail
  go_ret
  exact⟨rfl,hB⟩
 have hgi0:¬ (100:Int)<(xn:Nat):=by omega
 by_cases hg1:100<KX.size
 ·have hgi1:(100:Int)<(KX.size:Nat):=by omega
  go_wp2_with fail
  refine(HKN.out _).mono ?_
  rintro e w2 ⟨rfl,hb⟩
  have hsz2:w1.heap.size+0≤w2.heap.size:=szl hb
  replace bx0:=bl_cell hb bx0
  replace bx1:=bl_cell hb bx1
  replace bx2:=bl_cell hb bx2
  replace bx3:=bl_cell hb bx3
  replace bx4:=bl_cell hb bx4
  replace bx5:=bl_cell hb bx5
  replace bx6:=bl_cell hb bx6
  replace bx7:=bl_cell hb bx7
  replace bx8:=bl_cell hb bx8
  replace bx9:=bl_cell hb bx9
  replace bx10:=bl_cell hb bx10
  replace hB:Below w.heap.size w w2:=bl_then hB hb
  replace lb_bx:=lbc bx0
  replace lb_bx1:=lbc bx10
  clear hb
  go_wp2_with fail
  go_ret
  exact⟨rfl,hB⟩
 have hgi1:¬ (100:Int)<(KX.size:Nat):=by omega
 go_wp2_with fail
 have HB1:=Go.Lib.hid hB
 clear hB
 refine(csnew_any (1+room % 20) _).mono ?_
 rintro e w2 ⟨p,rfl,hc,hb,hF⟩
 have HC:=Go.Lib.hid hc
 have HB2:=Go.Lib.hid hb
 have HF:=Go.Lib.hid hF
 have qbx0:=bl_cell hb bx0
 have qbx1:=bl_cell hb bx1
 have qbx2:=bl_cell hb bx2
 have qbx3:=bl_cell hb bx3
 have qbx4:=bl_cell hb bx4
 have qbx5:=bl_cell hb bx5
 have qbx6:=bl_cell hb bx6
 have qbx7:=bl_cell hb bx7
 have qbx8:=bl_cell hb bx8
 have qbx9:=bl_cell hb bx9
 have qbx10:=bl_cell hb bx10
 clear hc hb hF
 go_wp2_with fail
 refine(rnew_any (1+room % 20) _).mono ?_
 rintro e w3 ⟨rfl,hb3⟩
 have HB3:=Go.Lib.hid hb3
 clear hb3 qbx0 qbx1 qbx2 qbx3 qbx4 qbx5 qbx6 qbx7 qbx8 qbx9 qbx10
 unfold TV
 go_wp2_with fail
 go_loopw [11] (fun s11 wr=>∃ j:Nat,s11=.int .i64 j∧j≤m∧Hid (StI w1 wr w3.heap.size p.b (roomOf ((1+room % 20))) j)) (fun s11 _=>m - (intOf s11).toNat)
 case atStart=>exact⟨0,rfl,Nat.zero_le _,Go.Lib.hid ⟨p,0,.slice none 0 0,[],sd_start HC.out HB2.out HF.out HB3.out⟩⟩
 case round =>
  obtain⟨j,rfl,hj,H⟩:=hrel
  obtain⟨p2,nx,v,Js,hsd⟩:=H.out
  clear H HC HB2 HF HB3
  by_cases hjn:j<m
  ·obtain ⟨hks,hlg,xb,xo,hla,y0,y1,y2,y3,y4,y5,y6,y7,y8,y9,y10,y11,y12,y13⟩:=(cds_bl HA.out HB1.out).2 j hjn
   subst hla
   have hap:=cells_apart hsd.cells
   have hlen:=hsd.len
   have hm40:(m:Int)≤40:=by omega
   have hj41:j≤40:=by omega
   have k0:(0:Int)≤(j:Int):=by omega
   have k1:(j:Int)<(m:Int):=by omega
   have hms:m - (j+1)<m - j:=by omega
   have hj1:j+1≤m:=hjn
   have wj:IntKind.i64.wrap ((j:Int)+1)=(j:Int)+1:=IntWalk.i64_in _ (by omega)
   obtain⟨ra,rc,rfl⟩:=cs_form hsd.row.1
   obtain⟨Z,hZ⟩:∃ Z,Z=cStep (roomOf (1+room % 20)) (Js.map (·.x)) (ds j):=⟨_,rfl⟩
   have hdd:=fun W (h:Sd w1 W (w3.heap.size) p.b (roomOf (1+room % 20)) (j) p2 nx (Js.map (·.x)) (.slice ra Js.length rc) Js)=>sd_did (d:=ds j) h hlg hks (by omega)
   have hst1:=fun p3 nx3 W (h:Sd w1 W (w3.heap.size) p.b (roomOf (1+room % 20)) (j+1) p3 nx3 ((cStep (roomOf (1+room % 20)) (Js.map (·.x)) (ds j)).1) (.slice ra Js.length rc) Js)=>sd_step1 (d:=ds j) h rfl hlen hap hlg hks
   have hst2:=fun p3 nx3 X (h:Sd w1 X (w3.heap.size) p.b (roomOf (1+room % 20)) (j+1) p3 nx3 ((cStep (roomOf (1+room % 20)) (Js.map (·.x)) (ds j)).1) (.slice ra Js.length rc) Js) W (hb:Below X.heap.size X W) rn hr hr2=>sd_step2 (d:=ds j) h hb (rn:=rn) hr hr2 rfl hlen hap hlg hks
   simp only[← hZ] at hdd hst1 hst2
   obtain⟨L2,rr⟩:=Z
   have HSD:=Go.Lib.hid hsd
   have HLG:=Go.Lib.hid hlg
   have HZ:=Go.Lib.hid hZ
   have HKS:=Go.Lib.hid hks
   clear hZ hsd hlg hap hks
   generalize hde:ds j=d at *
   have HDE:=Go.Lib.hid hde
   clear hde
   obtain⟨dk,⟨ekey,⟨ek,el,ed,eb,ec,eo⟩,⟨eat,elev,eheld,EL⟩⟩,ea,en,ecp,enow,ecost⟩:=d
   unfold TV CD.v at *
   dsimp only at *
   generalize hKE:ktx ekey=KE at *
   have HKE:=Go.Lib.hid hKE
   clear hKE
   have HY:=Go.Lib.hid (⟨y0,y1,y2,y3,y4,y5,y6,y7,y8,y9,y10,y11,y12,y13⟩:w1.cell? ⟨xb,xo+j*14,none⟩=some (.int .i64 dk)∧w1.cell? ⟨xb,xo+j*14+1,none⟩=some (.string KE)∧w1.cell? ⟨xb,xo+j*14+2,none⟩=some (.int .i64 ek)∧w1.cell? ⟨xb,xo+j*14+3,none⟩=some (.int .i64 el)∧w1.cell? ⟨xb,xo+j*14+4,none⟩=some (.int .i64 ed)∧w1.cell? ⟨xb,xo+j*14+5,none⟩=some (.int .i64 eb)∧w1.cell? ⟨xb,xo+j*14+6,none⟩=some (.int .i64 ec)∧w1.cell? ⟨xb,xo+j*14+7,none⟩=some (.bool eo)∧w1.cell? ⟨xb,xo+j*14+8,none⟩=some (.int .i64 eat)∧w1.cell? ⟨xb,xo+j*14+9,none⟩=some (.int .i64 elev)∧w1.cell? ⟨xb,xo+j*14+10,none⟩=some (.int .i64 eheld)∧w1.cell? ⟨xb,xo+j*14+11,none⟩=some (.slice ea en ecp)∧w1.cell? ⟨xb,xo+j*14+12,none⟩=some (.int .i64 enow)∧w1.cell? ⟨xb,xo+j*14+13,none⟩=some (.int .i64 ecost))
   clear y0 y1 y2 y3 y4 y5 y6 y7 y8 y9 y10 y11 y12 y13
   have HDD:=Go.Lib.hid hdd
   have HST1:=Go.Lib.hid hst1
   have HST2:=Go.Lib.hid hst2
   clear hdd hst1 hst2
   go_wp2_with fail
   obtain⟨y0,y1,y2,y3,y4,y5,y6,y7,y8,y9,y10,y11,y12,y13⟩:=HY.out
   have x0:=bl_cell HSD.out.bl y0
   have x1:=bl_cell HSD.out.bl y1
   have x2:=bl_cell HSD.out.bl y2
   have x3:=bl_cell HSD.out.bl y3
   have x4:=bl_cell HSD.out.bl y4
   have x5:=bl_cell HSD.out.bl y5
   have x6:=bl_cell HSD.out.bl y6
   have x7:=bl_cell HSD.out.bl y7
   have x8:=bl_cell HSD.out.bl y8
   have x9:=bl_cell HSD.out.bl y9
   have x10:=bl_cell HSD.out.bl y10
   have x11:=bl_cell HSD.out.bl y11
   have x12:=bl_cell HSD.out.bl y12
   have x13:=bl_cell HSD.out.bl y13
   clear y0 y1 y2 y3 y4 y5 y6 y7 y8 y9 y10 y11 y12 y13
   have x14:=HSD.out.t0
   have x15:=HSD.out.t1
   refine wp_region_held_drew (S:=fun X=>X.cell? ⟨xb,xo+j*14,none⟩=some (.int .i64 dk)∧X.cell? ⟨xb,xo+j*14+1,none⟩=some (.string KE)∧X.cell? ⟨xb,xo+j*14+2,none⟩=some (.int .i64 ek)∧X.cell? ⟨xb,xo+j*14+3,none⟩=some (.int .i64 el)∧X.cell? ⟨xb,xo+j*14+4,none⟩=some (.int .i64 ed)∧X.cell? ⟨xb,xo+j*14+5,none⟩=some (.int .i64 eb)∧X.cell? ⟨xb,xo+j*14+6,none⟩=some (.int .i64 ec)∧X.cell? ⟨xb,xo+j*14+7,none⟩=some (.bool eo)∧X.cell? ⟨xb,xo+j*14+8,none⟩=some (.int .i64 eat)∧X.cell? ⟨xb,xo+j*14+9,none⟩=some (.int .i64 elev)∧X.cell? ⟨xb,xo+j*14+10,none⟩=some (.int .i64 eheld)∧X.cell? ⟨xb,xo+j*14+11,none⟩=some (.slice ea en ecp)∧X.cell? ⟨xb,xo+j*14+12,none⟩=some (.int .i64 enow)∧X.cell? ⟨xb,xo+j*14+13,none⟩=some (.int .i64 ecost)∧X.cell? ⟨w3.heap.size,0,none⟩=some (.int .i64 ((roomOf (1+room % 20):Nat):Int))∧X.cell? ⟨w3.heap.size,1,none⟩=some (.slice ra Js.length rc)) (by kernel_rfl) ?_ (fun hHeld=>?_)
   ·exact⟨x0,x1,x2,x3,x4,x5,x6,x7,x8,x9,x10,x11,x12,x13,x14,x15⟩
   try simp only[Act.put,List.setIfInBounds_toArray,List.set_cons_zero,List.set_cons_succ]
   refine wpAnyH_abs (F:=fun X=>Sd w1 X (w3.heap.size) p.b (roomOf (1+room % 20)) (j) p2 nx (Js.map (·.x)) (.slice ra Js.length rc) Js) hHeld (HSD.out.to (bl_drew (bl_refl _))) ?_
   clear hHeld HSD x0 x1 x2 x3 x4 x5 x6 x7 x8 x9 x10 x11 x12 x13 x14 x15
   rintro X0 hHeld hsd
   refine tkx 0 ?_
   refine tkx 1 ?_
   refine tkx 2 ?_
   refine tkx 3 ?_
   refine tkx 4 ?_
   refine tkx 5 ?_
   refine callC (i:=6) rfl (fun K hK=>?_)
   clear hHeld
   go_simp
   refine(HDD.out _ hsd).mono ?_
   rintro e X6 ⟨rfl,p3,nx3,hsd3,hO3⟩
   obtain⟨y0,y1,y2,y3,y4,y5,y6,y7,y8,y9,y10,y11,y12,y13⟩:=HY.out
   have x0:=bl_cell hsd3.bl y0
   have x1:=bl_cell hsd3.bl y1
   have x2:=bl_cell hsd3.bl y2
   have x3:=bl_cell hsd3.bl y3
   have x4:=bl_cell hsd3.bl y4
   have x5:=bl_cell hsd3.bl y5
   have x6:=bl_cell hsd3.bl y6
   have x7:=bl_cell hsd3.bl y7
   have x8:=bl_cell hsd3.bl y8
   have x9:=bl_cell hsd3.bl y9
   have x10:=bl_cell hsd3.bl y10
   have x11:=bl_cell hsd3.bl y11
   have x12:=bl_cell hsd3.bl y12
   have x13:=bl_cell hsd3.bl y13
   clear y0 y1 y2 y3 y4 y5 y6 y7 y8 y9 y10 y11 y12 y13
   have x14:=hsd3.t0
   have x15:=hsd3.t1
   have HX:Hid ((fun X=>X.cell? ⟨xb,xo+j*14,none⟩=some (.int .i64 dk)∧X.cell? ⟨xb,xo+j*14+1,none⟩=some (.string KE)∧X.cell? ⟨xb,xo+j*14+2,none⟩=some (.int .i64 ek)∧X.cell? ⟨xb,xo+j*14+3,none⟩=some (.int .i64 el)∧X.cell? ⟨xb,xo+j*14+4,none⟩=some (.int .i64 ed)∧X.cell? ⟨xb,xo+j*14+5,none⟩=some (.int .i64 eb)∧X.cell? ⟨xb,xo+j*14+6,none⟩=some (.int .i64 ec)∧X.cell? ⟨xb,xo+j*14+7,none⟩=some (.bool eo)∧X.cell? ⟨xb,xo+j*14+8,none⟩=some (.int .i64 eat)∧X.cell? ⟨xb,xo+j*14+9,none⟩=some (.int .i64 elev)∧X.cell? ⟨xb,xo+j*14+10,none⟩=some (.int .i64 eheld)∧X.cell? ⟨xb,xo+j*14+11,none⟩=some (.slice ea en ecp)∧X.cell? ⟨xb,xo+j*14+12,none⟩=some (.int .i64 enow)∧X.cell? ⟨xb,xo+j*14+13,none⟩=some (.int .i64 ecost)∧X.cell? ⟨w3.heap.size,0,none⟩=some (.int .i64 ((roomOf (1+room % 20):Nat):Int))∧X.cell? ⟨w3.heap.size,1,none⟩=some (.slice ra Js.length rc)) X6):=Go.Lib.hid ⟨x0,x1,x2,x3,x4,x5,x6,x7,x8,x9,x10,x11,x12,x13,x14,x15⟩
   have HSD3:=Go.Lib.hid hsd3
   clear hsd hsd3 hO3 x0 x1 x2 x3 x4 x5 x6 x7 x8 x9 x10 x11 x12 x13 x14 x15
   go_wp2_with fail
   refine hK.out _ _ HX.out (fun hHeld2=>?_)
   clear hK K
   have hHeld:=hHeld2
   clear hHeld2
   try simp only[Act.put,List.setIfInBounds_toArray,List.set_cons_zero,List.set_cons_succ]
   refine wpAnyH_done (by kernel_rfl) ?_ _
   clear hHeld HX
   go_wp2_with fail
   obtain⟨y0,y1,y2,y3,y4,y5,y6,y7,y8,y9,y10,y11,y12,y13⟩:=HY.out
   have x0:=bl_cell HSD3.out.bl y0
   have x1:=bl_cell HSD3.out.bl y1
   have x2:=bl_cell HSD3.out.bl y2
   have x3:=bl_cell HSD3.out.bl y3
   have x4:=bl_cell HSD3.out.bl y4
   have x5:=bl_cell HSD3.out.bl y5
   have x6:=bl_cell HSD3.out.bl y6
   have x7:=bl_cell HSD3.out.bl y7
   have x8:=bl_cell HSD3.out.bl y8
   have x9:=bl_cell HSD3.out.bl y9
   have x10:=bl_cell HSD3.out.bl y10
   have x11:=bl_cell HSD3.out.bl y11
   have x12:=bl_cell HSD3.out.bl y12
   have x13:=bl_cell HSD3.out.bl y13
   clear y0 y1 y2 y3 y4 y5 y6 y7 y8 y9 y10 y11 y12 y13
   have x14:=HSD3.out.t0
   have x15:=HSD3.out.t1
   refine wp_region_held_drew (S:=fun X=>X.cell? ⟨xb,xo+j*14,none⟩=some (.int .i64 dk)∧X.cell? ⟨xb,xo+j*14+1,none⟩=some (.string KE)∧X.cell? ⟨xb,xo+j*14+2,none⟩=some (.int .i64 ek)∧X.cell? ⟨xb,xo+j*14+3,none⟩=some (.int .i64 el)∧X.cell? ⟨xb,xo+j*14+4,none⟩=some (.int .i64 ed)∧X.cell? ⟨xb,xo+j*14+5,none⟩=some (.int .i64 eb)∧X.cell? ⟨xb,xo+j*14+6,none⟩=some (.int .i64 ec)∧X.cell? ⟨xb,xo+j*14+7,none⟩=some (.bool eo)∧X.cell? ⟨xb,xo+j*14+8,none⟩=some (.int .i64 eat)∧X.cell? ⟨xb,xo+j*14+9,none⟩=some (.int .i64 elev)∧X.cell? ⟨xb,xo+j*14+10,none⟩=some (.int .i64 eheld)∧X.cell? ⟨xb,xo+j*14+11,none⟩=some (.slice ea en ecp)∧X.cell? ⟨xb,xo+j*14+12,none⟩=some (.int .i64 enow)∧X.cell? ⟨xb,xo+j*14+13,none⟩=some (.int .i64 ecost)∧X.cell? ⟨w3.heap.size,0,none⟩=some (.int .i64 ((roomOf (1+room % 20):Nat):Int))∧X.cell? ⟨w3.heap.size,1,none⟩=some (.slice ra Js.length rc)) (by kernel_rfl) ?_ (fun hHeld=>?_)
   ·exact⟨x0,x1,x2,x3,x4,x5,x6,x7,x8,x9,x10,x11,x12,x13,x14,x15⟩
   try simp only[Act.put,List.setIfInBounds_toArray,List.set_cons_zero,List.set_cons_succ]
   clear x0 x1 x2 x3 x4 x5 x6 x7 x8 x9 x10 x11 x12 x13 x14 x15
   refine wpAnyH_abs (F:=fun X=>Below X6.heap.size X6 X) hHeld (bl_drew (bl_refl _)) ?_
   clear hHeld
   rintro Y0 hHeld hbx
   have hlt0:=HSD3.out.tlt
   have hlt1:xb<X6.heap.size:=by obtain⟨y0,-⟩:=HY.out;have h1:=World.block_lt_of_cell? _ _ y0;have h2:=HSD3.out.bl.size;dsimp only at h1;omega
   refine tkx 0 ?_
   refine tkx 1 ?_
   refine tkx 2 ?_
   refine tkx 3 ?_
   refine tkx 4 ?_
   refine callC2 (i:=5) (j:=9) rfl rfl ?brA1 ?brB1
   case' brA1 =>
    intro K hK
    obtain⟨hx0,hx1,hx2,hx3,hx4,hx5,hx6,hx7,hx8,hx9,hx10,hx11,hx12,hx13,hx14,hx15⟩:=(id hHeld)
    clear hHeld
    go_simp
    refine(HST1.out _ _ _ (HSD3.out.to hbx)).mono ?_
    rintro e Y5 ⟨v3,F3,rfl,hsn,hb⟩
    obtain⟨a3,c3,rfl⟩:=cs_form hsn.row.1
    have HX:Hid ((fun X=>X.cell? ⟨xb,xo+j*14,none⟩=some (.int .i64 dk)∧X.cell? ⟨xb,xo+j*14+1,none⟩=some (.string KE)∧X.cell? ⟨xb,xo+j*14+2,none⟩=some (.int .i64 ek)∧X.cell? ⟨xb,xo+j*14+3,none⟩=some (.int .i64 el)∧X.cell? ⟨xb,xo+j*14+4,none⟩=some (.int .i64 ed)∧X.cell? ⟨xb,xo+j*14+5,none⟩=some (.int .i64 eb)∧X.cell? ⟨xb,xo+j*14+6,none⟩=some (.int .i64 ec)∧X.cell? ⟨xb,xo+j*14+7,none⟩=some (.bool eo)∧X.cell? ⟨xb,xo+j*14+8,none⟩=some (.int .i64 eat)∧X.cell? ⟨xb,xo+j*14+9,none⟩=some (.int .i64 elev)∧X.cell? ⟨xb,xo+j*14+10,none⟩=some (.int .i64 eheld)∧X.cell? ⟨xb,xo+j*14+11,none⟩=some (.slice ea en ecp)∧X.cell? ⟨xb,xo+j*14+12,none⟩=some (.int .i64 enow)∧X.cell? ⟨xb,xo+j*14+13,none⟩=some (.int .i64 ecost)∧X.cell? ⟨w3.heap.size,0,none⟩=some (.int .i64 ((roomOf (1+room % 20):Nat):Int))∧X.cell? ⟨w3.heap.size,1,none⟩=some (.slice ra Js.length rc)) Y5):=Go.Lib.hid ⟨bl_cell hb hx0,bl_cell hb hx1,bl_cell hb hx2,bl_cell hb hx3,bl_cell hb hx4,bl_cell hb hx5,bl_cell hb hx6,bl_cell hb hx7,bl_cell hb hx8,bl_cell hb hx9,bl_cell hb hx10,bl_cell hb hx11,bl_cell hb hx12,bl_cell hb hx13,bl_cell hb hx14,bl_cell hb hx15⟩
    replace hbx:=bl_then hbx hb
    clear hb hx0 hx1 hx2 hx3 hx4 hx5 hx6 hx7 hx8 hx9 hx10 hx11 hx12 hx13 hx14 hx15
    have HSN:=Go.Lib.hid hsn
    have HBX:=Go.Lib.hid hbx
    clear hsn hbx
    go_wp2_with fail
    refine hK.out _ _ HX.out (fun hHeld2=>?_)
    clear hK K HX
    have hHeld:=hHeld2
    clear hHeld2
    have hsn:=HSN.out
    have hbx:=HBX.out
    clear HSN HBX
    try simp only[Act.put,List.setIfInBounds_toArray,List.set_cons_zero,List.set_cons_succ]
    refine tkx 6 ?_
    refine tkx 7 ?_
    refine tkx 8 ?_
    refine callC (i:=9) rfl (fun K hK=>?_)
    obtain⟨hx0,hx1,hx2,hx3,hx4,hx5,hx6,hx7,hx8,hx9,hx10,hx11,hx12,hx13,hx14,hx15⟩:=(id hHeld)
    clear hHeld
    go_simp
    refine hK.out _ _ ⟨bl_cell (bl_alloc (bl_refl _) _) hx0,bl_cell (bl_alloc (bl_refl _) _) hx1,bl_cell (bl_alloc (bl_refl _) _) hx2,bl_cell (bl_alloc (bl_refl _) _) hx3,bl_cell (bl_alloc (bl_refl _) _) hx4,bl_cell (bl_alloc (bl_refl _) _) hx5,bl_cell (bl_alloc (bl_refl _) _) hx6,bl_cell (bl_alloc (bl_refl _) _) hx7,bl_cell (bl_alloc (bl_refl _) _) hx8,bl_cell (bl_alloc (bl_refl _) _) hx9,bl_cell (bl_alloc (bl_refl _) _) hx10,bl_cell (bl_alloc (bl_refl _) _) hx11,bl_cell (bl_alloc (bl_refl _) _) hx12,bl_cell (bl_alloc (bl_refl _) _) hx13,bl_cell (bl_alloc (bl_refl _) _) hx14,bl_cell (bl_alloc (bl_refl _) _) hx15⟩ (fun hHeld2=>?_)
    clear hK K hx0 hx1 hx2 hx3 hx4 hx5 hx6 hx7 hx8 hx9 hx10 hx11 hx12 hx13 hx14 hx15
    have hHeld:=hHeld2
    clear hHeld2
    try simp only[Act.put,List.setIfInBounds_toArray,List.set_cons_zero,List.set_cons_succ]
    have hrn:X6.heap.size≤Y5.heap.size:=hbx.size
    refine wpAnyH_abs (F:=fun X=>Below X6.heap.size X6 X∧Sn X (A2 p3 (w3.heap.size) Y5.heap.size) L2 (.slice a3 F3.length c3) F3∧X.cell? ⟨Y5.heap.size,0,none⟩=some (.int .i64 0)∧X.cell? ⟨Y5.heap.size,1,none⟩=some (.slice none 0 0)∧FB X Y5.heap.size 2∧Y5.heap.size<X.heap.size) hHeld ⟨bl_alloc hbx _,(hsn.new (Nat.le_refl _)).to (bl_alloc (bl_refl _) _),by simp,by simp,fb_new #[_,_] _ rfl,by simp⟩ ?_
    clear hHeld hbx hsn
    generalize Y5.heap.size=rn at *
    rintro Y29 hHeld ⟨hbx,hsn,z0,z1,hFB,hrn2⟩
    refine callC (i:=10) rfl (fun K hK=>?_)
    obtain⟨hx0,hx1,hx2,hx3,hx4,hx5,hx6,hx7,hx8,hx9,hx10,hx11,hx12,hx13,hx14,hx15⟩:=(id hHeld)
    clear hHeld
    obtain⟨⟨-,f0⟩,⟨-,f1⟩⟩:=And.intro (hFB 0 (by omega)) (hFB 1 (by omega))
    go_simp
    refine hK.out _ _ ⟨far_set (far_set hx0 _ _ (by dsimp only;omega)) _ _ (by dsimp only;omega),far_set (far_set hx1 _ _ (by dsimp only;omega)) _ _ (by dsimp only;omega),far_set (far_set hx2 _ _ (by dsimp only;omega)) _ _ (by dsimp only;omega),far_set (far_set hx3 _ _ (by dsimp only;omega)) _ _ (by dsimp only;omega),far_set (far_set hx4 _ _ (by dsimp only;omega)) _ _ (by dsimp only;omega),far_set (far_set hx5 _ _ (by dsimp only;omega)) _ _ (by dsimp only;omega),far_set (far_set hx6 _ _ (by dsimp only;omega)) _ _ (by dsimp only;omega),far_set (far_set hx7 _ _ (by dsimp only;omega)) _ _ (by dsimp only;omega),far_set (far_set hx8 _ _ (by dsimp only;omega)) _ _ (by dsimp only;omega),far_set (far_set hx9 _ _ (by dsimp only;omega)) _ _ (by dsimp only;omega),far_set (far_set hx10 _ _ (by dsimp only;omega)) _ _ (by dsimp only;omega),far_set (far_set hx11 _ _ (by dsimp only;omega)) _ _ (by dsimp only;omega),far_set (far_set hx12 _ _ (by dsimp only;omega)) _ _ (by dsimp only;omega),far_set (far_set hx13 _ _ (by dsimp only;omega)) _ _ (by dsimp only;omega),far_set (far_set hx14 _ _ (by dsimp only;omega)) _ _ (by dsimp only;omega),far_set (far_set hx15 _ _ (by dsimp only;omega)) _ _ (by dsimp only;omega)⟩ (fun hHeld2=>?_)
    replace hbx:=bl_set (bl_set hbx (a:=⟨rn,0,none⟩) hrn (.int .i64 ((roomOf (1+room % 20):Nat):Int))) (a:=⟨rn,1,none⟩) hrn (.slice a3 F3.length c3)
    replace hsn:=(hsn.set (rn:=rn) (.inr rfl) 0 (.int .i64 ((roomOf (1+room % 20):Nat):Int))).set (rn:=rn) (.inr rfl) 1 (.slice a3 F3.length c3)
    obtain⟨z0,z1⟩:=set2b (v0:=.int .i64 ((roomOf (1+room % 20):Nat):Int)) (v1:=.slice a3 F3.length c3) z0 z1
    clear hK K f0 f1 hx0 hx1 hx2 hx3 hx4 hx5 hx6 hx7 hx8 hx9 hx10 hx11 hx12 hx13 hx14 hx15
    have hHeld:=hHeld2
    clear hHeld2
    try simp only[Act.put,List.setIfInBounds_toArray,List.set_cons_zero,List.set_cons_succ]
    refine tkx 11 ?_
    refine wpAnyH_done (by kernel_rfl) ?_ _
    refine then_abs (F:=fun X=>Below X6.heap.size X6 X∧Sn X (A2 p3 (w3.heap.size) rn) L2 (.slice a3 F3.length c3) F3∧X.cell? ⟨rn,0,none⟩=some (.int .i64 ((roomOf (1+room % 20):Nat):Int))∧X.cell? ⟨rn,1,none⟩=some (.slice a3 F3.length c3)) ⟨hbx,hsn,z0,z1⟩ ?_
    clear hHeld hbx hsn z0 z1 hFB
    rintro W9 ⟨hbx,hsn,u0,u1⟩
   case' brB1 =>
    intro K hK
    obtain⟨hx0,hx1,hx2,hx3,hx4,hx5,hx6,hx7,hx8,hx9,hx10,hx11,hx12,hx13,hx14,hx15⟩:=(id hHeld)
    clear hHeld
    go_simp
    refine hK.out _ _ ⟨bl_cell (bl_alloc (bl_refl _) _) hx0,bl_cell (bl_alloc (bl_refl _) _) hx1,bl_cell (bl_alloc (bl_refl _) _) hx2,bl_cell (bl_alloc (bl_refl _) _) hx3,bl_cell (bl_alloc (bl_refl _) _) hx4,bl_cell (bl_alloc (bl_refl _) _) hx5,bl_cell (bl_alloc (bl_refl _) _) hx6,bl_cell (bl_alloc (bl_refl _) _) hx7,bl_cell (bl_alloc (bl_refl _) _) hx8,bl_cell (bl_alloc (bl_refl _) _) hx9,bl_cell (bl_alloc (bl_refl _) _) hx10,bl_cell (bl_alloc (bl_refl _) _) hx11,bl_cell (bl_alloc (bl_refl _) _) hx12,bl_cell (bl_alloc (bl_refl _) _) hx13,bl_cell (bl_alloc (bl_refl _) _) hx14,bl_cell (bl_alloc (bl_refl _) _) hx15⟩ (fun hHeld2=>?_)
    clear hK K hx0 hx1 hx2 hx3 hx4 hx5 hx6 hx7 hx8 hx9 hx10 hx11 hx12 hx13 hx14 hx15
    have hHeld:=hHeld2
    clear hHeld2
    try simp only[Act.put,List.setIfInBounds_toArray,List.set_cons_zero,List.set_cons_succ]
    have hrn:X6.heap.size≤Y0.heap.size:=hbx.size
    refine wpAnyH_abs (F:=fun X=>Below X6.heap.size X6 X∧X.cell? ⟨Y0.heap.size,0,none⟩=some (.int .i64 0)∧X.cell? ⟨Y0.heap.size,1,none⟩=some (.slice none 0 0)∧FB X Y0.heap.size 2∧Y0.heap.size<X.heap.size) hHeld ⟨bl_alloc hbx _,by simp,by simp,fb_new #[_,_] _ rfl,by simp⟩ ?_
    clear hHeld hbx
    generalize Y0.heap.size=rn at *
    rintro Y25 hHeld ⟨hbx,z0,z1,hFB,hrn2⟩
    refine callC (i:=5) rfl (fun K hK=>?_)
    obtain⟨hx0,hx1,hx2,hx3,hx4,hx5,hx6,hx7,hx8,hx9,hx10,hx11,hx12,hx13,hx14,hx15⟩:=(id hHeld)
    clear hHeld
    go_simp
    refine(HST2.out _ _ _ HSD3.out _ hbx rn hrn hrn2).mono ?_
    rintro e Y6 ⟨v3,F3,rfl,hsn,hb⟩
    obtain⟨a3,c3,rfl⟩:=cs_form hsn.row.1
    have HX:Hid ((fun X=>X.cell? ⟨xb,xo+j*14,none⟩=some (.int .i64 dk)∧X.cell? ⟨xb,xo+j*14+1,none⟩=some (.string KE)∧X.cell? ⟨xb,xo+j*14+2,none⟩=some (.int .i64 ek)∧X.cell? ⟨xb,xo+j*14+3,none⟩=some (.int .i64 el)∧X.cell? ⟨xb,xo+j*14+4,none⟩=some (.int .i64 ed)∧X.cell? ⟨xb,xo+j*14+5,none⟩=some (.int .i64 eb)∧X.cell? ⟨xb,xo+j*14+6,none⟩=some (.int .i64 ec)∧X.cell? ⟨xb,xo+j*14+7,none⟩=some (.bool eo)∧X.cell? ⟨xb,xo+j*14+8,none⟩=some (.int .i64 eat)∧X.cell? ⟨xb,xo+j*14+9,none⟩=some (.int .i64 elev)∧X.cell? ⟨xb,xo+j*14+10,none⟩=some (.int .i64 eheld)∧X.cell? ⟨xb,xo+j*14+11,none⟩=some (.slice ea en ecp)∧X.cell? ⟨xb,xo+j*14+12,none⟩=some (.int .i64 enow)∧X.cell? ⟨xb,xo+j*14+13,none⟩=some (.int .i64 ecost)∧X.cell? ⟨w3.heap.size,0,none⟩=some (.int .i64 ((roomOf (1+room % 20):Nat):Int))∧X.cell? ⟨w3.heap.size,1,none⟩=some (.slice ra Js.length rc)) Y6):=Go.Lib.hid ⟨bl_cell hb hx0,bl_cell hb hx1,bl_cell hb hx2,bl_cell hb hx3,bl_cell hb hx4,bl_cell hb hx5,bl_cell hb hx6,bl_cell hb hx7,bl_cell hb hx8,bl_cell hb hx9,bl_cell hb hx10,bl_cell hb hx11,bl_cell hb hx12,bl_cell hb hx13,bl_cell hb hx14,bl_cell hb hx15⟩
    replace hbx:=bl_then hbx hb
    replace z0:=bl_cell hb z0
    replace z1:=bl_cell hb z1
    replace hFB:=fb_bl hFB hb
    replace hrn2:=Nat.lt_of_lt_of_le hrn2 hb.size
    clear hb hx0 hx1 hx2 hx3 hx4 hx5 hx6 hx7 hx8 hx9 hx10 hx11 hx12 hx13 hx14 hx15
    have HSN:=Go.Lib.hid hsn
    have HBX:=Go.Lib.hid hbx
    clear hsn hbx
    go_wp2_with fail
    refine hK.out _ _ HX.out (fun hHeld2=>?_)
    clear hK K HX
    have hHeld:=hHeld2
    clear hHeld2
    have hsn:=HSN.out
    have hbx:=HBX.out
    clear HSN HBX
    try simp only[Act.put,List.setIfInBounds_toArray,List.set_cons_zero,List.set_cons_succ]
    refine tkx 6 ?_
    refine tkx 7 ?_
    refine tkx 8 ?_
    refine callC (i:=10) rfl (fun K hK=>?_)
    obtain⟨hx0,hx1,hx2,hx3,hx4,hx5,hx6,hx7,hx8,hx9,hx10,hx11,hx12,hx13,hx14,hx15⟩:=(id hHeld)
    clear hHeld
    obtain⟨⟨-,f0⟩,⟨-,f1⟩⟩:=And.intro (hFB 0 (by omega)) (hFB 1 (by omega))
    go_simp
    refine hK.out _ _ ⟨far_set (far_set hx0 _ _ (by dsimp only;omega)) _ _ (by dsimp only;omega),far_set (far_set hx1 _ _ (by dsimp only;omega)) _ _ (by dsimp only;omega),far_set (far_set hx2 _ _ (by dsimp only;omega)) _ _ (by dsimp only;omega),far_set (far_set hx3 _ _ (by dsimp only;omega)) _ _ (by dsimp only;omega),far_set (far_set hx4 _ _ (by dsimp only;omega)) _ _ (by dsimp only;omega),far_set (far_set hx5 _ _ (by dsimp only;omega)) _ _ (by dsimp only;omega),far_set (far_set hx6 _ _ (by dsimp only;omega)) _ _ (by dsimp only;omega),far_set (far_set hx7 _ _ (by dsimp only;omega)) _ _ (by dsimp only;omega),far_set (far_set hx8 _ _ (by dsimp only;omega)) _ _ (by dsimp only;omega),far_set (far_set hx9 _ _ (by dsimp only;omega)) _ _ (by dsimp only;omega),far_set (far_set hx10 _ _ (by dsimp only;omega)) _ _ (by dsimp only;omega),far_set (far_set hx11 _ _ (by dsimp only;omega)) _ _ (by dsimp only;omega),far_set (far_set hx12 _ _ (by dsimp only;omega)) _ _ (by dsimp only;omega),far_set (far_set hx13 _ _ (by dsimp only;omega)) _ _ (by dsimp only;omega),far_set (far_set hx14 _ _ (by dsimp only;omega)) _ _ (by dsimp only;omega),far_set (far_set hx15 _ _ (by dsimp only;omega)) _ _ (by dsimp only;omega)⟩ (fun hHeld2=>?_)
    replace hbx:=bl_set (bl_set hbx (a:=⟨rn,0,none⟩) hrn (.int .i64 ((roomOf (1+room % 20):Nat):Int))) (a:=⟨rn,1,none⟩) hrn (.slice a3 F3.length c3)
    replace hsn:=(hsn.set (rn:=rn) (.inr rfl) 0 (.int .i64 ((roomOf (1+room % 20):Nat):Int))).set (rn:=rn) (.inr rfl) 1 (.slice a3 F3.length c3)
    obtain⟨z0,z1⟩:=set2b (v0:=.int .i64 ((roomOf (1+room % 20):Nat):Int)) (v1:=.slice a3 F3.length c3) z0 z1
    clear hK K f0 f1 hx0 hx1 hx2 hx3 hx4 hx5 hx6 hx7 hx8 hx9 hx10 hx11 hx12 hx13 hx14 hx15
    have hHeld:=hHeld2
    clear hHeld2
    try simp only[Act.put,List.setIfInBounds_toArray,List.set_cons_zero,List.set_cons_succ]
    refine tkx 11 ?_
    refine wpAnyH_done (by kernel_rfl) ?_ _
    refine then_abs (F:=fun X=>Below X6.heap.size X6 X∧Sn X (A2 p3 (w3.heap.size) rn) L2 (.slice a3 F3.length c3) F3∧X.cell? ⟨rn,0,none⟩=some (.int .i64 ((roomOf (1+room % 20):Nat):Int))∧X.cell? ⟨rn,1,none⟩=some (.slice a3 F3.length c3)) ⟨hbx,hsn,z0,z1⟩ ?_
    clear hHeld hbx hsn z0 z1 hFB
    rintro W9 ⟨hbx,hsn,u0,u1⟩
   all_goals
    have hsd4:=HSD3.out.to hbx
    obtain⟨⟨-,tf0⟩,⟨-,tf1⟩⟩:=And.intro (hsd4.tR 0 (by omega)) (hsd4.tR 1 (by omega))
    have t0:=hsd4.t0
    have t1:=hsd4.t1
    have hsd5:=hsd4.put hsn (fun q hq => .inl hq)
    have HSD5:=Go.Lib.hid hsd5
    have HMAP:=Go.Lib.hid hsn.map
    clear hsd4 hsd5 hsn hbx HSD3
    go_wp2_with fail
    clear tf0 tf1 t0 t1 u0 u1
    go_roundw
    case rel=>exact⟨j+1,by go_num,hj1,⟨p3,nx3,.slice a3 F3.length c3,F3,HSD5.out⟩⟩
    case measure=>(simp[intOf];first|exact hms|omega)
  ·have hk1 : ¬ (j:Int)<(m:Int):=by omega
   have hj41:j≤40:=by omega
   go_wp2_with fail
   refine(sd_all hsd (by omega)).mono ?_
   rintro e w4 ⟨a5,N,c5,Ks,rfl,hN,hrk,hmk,-,hsk,hb⟩
   have hN4:N≤10000:=by have:=hsd.len;rw[List.length_map] at hN;omega
   have hsd4:=hsd.to hb
   have hNK:N=Ks.length:=by rw[hN,← hmk,List.length_map]
   have hap:=cells_apart hsd.cells
   have HSD4:=Go.Lib.hid hsd4
   have HROW:=Go.Lib.hid hsk.row
   have HOWN:=Go.Lib.hid hrk
   have HSK:=Go.Lib.hid hsk
   have HMK:=Go.Lib.hid hmk
   have HN:=Go.Lib.hid hNK
   have HAP:=Go.Lib.hid hap
   have HNJ:=Go.Lib.hid hN
   clear hsd hsd4 hrk hsk hmk hN hNK hap hb hjn hk1 hj
   have bbx0:=bl_cell HSD4.out.bl bx0
   have bbx1:=bl_cell HSD4.out.bl bx1
   have bbx2:=bl_cell HSD4.out.bl bx2
   have bbx3:=bl_cell HSD4.out.bl bx3
   have bbx4:=bl_cell HSD4.out.bl bx4
   have bbx5:=bl_cell HSD4.out.bl bx5
   have bbx6:=bl_cell HSD4.out.bl bx6
   have bbx7:=bl_cell HSD4.out.bl bx7
   have bbx8:=bl_cell HSD4.out.bl bx8
   have bbx9:=bl_cell HSD4.out.bl bx9
   have bbx10:=bl_cell HSD4.out.bl bx10
   go_wp2_with fail
   have hset:=HSET.out _ _ _ _ _ _ _ _ _ _ _ HSD4.out HB1.out.size (by omega) (bl_then HB1.out HSD4.out.bl)
   obtain⟨Z,hZ⟩:∃ Z,Z=cSet (roomOf (1+room % 20)) (Js.map (·.x)) X now:=⟨_,rfl⟩
   have hsa:=set_arg (room:=roomOf (1+room % 20)) (L:=Js.map (·.x)) (x:=X) (now:=now)
   have hso:=set_ok (room:=roomOf (1+room % 20)) (L:=Js.map (·.x)) (x:=X) (now:=now) HAP.out
   have hsf:=set_full (room:=roomOf (1+room % 20)) (L:=Js.map (·.x)) (x:=X) (now:=now)
   have hsc:=set_cases (roomOf (1+room % 20)) (Js.map (·.x)) X now
   simp only[← hZ] at hset hsc hsa hso hsf
   clear hZ
   obtain⟨L2,E⟩:=Z
   dsimp only at *
   refine hset.mono ?_
   rintro e w5 ⟨rfl,p3,nx3,hsd5,hmv⟩
   have hsk5:=HSK.out.moved hmv
   have HSD5:=Go.Lib.hid hsd5
   have HSK5:=Go.Lib.hid hsk5
   have hlw:w.heap.size<w1.heap.size:=by omega
   have cbx0:=only_cell hmv.1 bbx0 (HSD4.out.low _ hlw)
   have cbx1:=only_cell hmv.1 bbx1 (HSD4.out.low _ hlw)
   have cbx2:=only_cell hmv.1 bbx2 (HSD4.out.low _ hlw)
   have cbx3:=only_cell hmv.1 bbx3 (HSD4.out.low _ hlw)
   have cbx4:=only_cell hmv.1 bbx4 (HSD4.out.low _ hlw)
   have cbx5:=only_cell hmv.1 bbx5 (HSD4.out.low _ hlw)
   have cbx6:=only_cell hmv.1 bbx6 (HSD4.out.low _ hlw)
   have cbx7:=only_cell hmv.1 bbx7 (HSD4.out.low _ hlw)
   have cbx8:=only_cell hmv.1 bbx8 (HSD4.out.low _ hlw)
   have cbx9:=only_cell hmv.1 bbx9 (HSD4.out.low _ hlw)
   have cbx10:=only_cell hmv.1 bbx10 (HSD4.out.low _ hlw)
   have HSA:=Go.Lib.hid hsa
   have HSO:=Go.Lib.hid hso
   have HSF:=Go.Lib.hid hsf
   have HSC:=Go.Lib.hid hsc
   clear bbx0 bbx1 bbx2 bbx3 bbx4 bbx5 bbx6 bbx7 bbx8 bbx9 bbx10 hset hmv hsd5 hsk5 hsa hso hsf hsc
   go_wp2_with fail
   refine(sd_all HSD5.out (by omega)).mono ?_
   rintro e w6 ⟨a8,N8,c8,K8,rfl,hn8,hrk8,hmk8,-,hsk8,hb6⟩
   have hl8:N8≤10000:=by have h1:=(cells_room HSD5.out.cells);omega
   have hkl8:N8=K8.length:=by rw[hn8,← hmk8,List.length_map]
   replace cbx0:=bl_cell hb6 cbx0
   replace cbx1:=bl_cell hb6 cbx1
   replace cbx2:=bl_cell hb6 cbx2
   replace cbx3:=bl_cell hb6 cbx3
   replace cbx4:=bl_cell hb6 cbx4
   replace cbx5:=bl_cell hb6 cbx5
   replace cbx6:=bl_cell hb6 cbx6
   replace cbx7:=bl_cell hb6 cbx7
   replace cbx8:=bl_cell hb6 cbx8
   replace cbx9:=bl_cell hb6 cbx9
   replace cbx10:=bl_cell hb6 cbx10
   have HSD6:=Go.Lib.hid (HSD5.out.to hb6)
   have HSK6:=Go.Lib.hid (HSK5.out.to hb6)
   have HALL:=Go.Lib.hid hsk8
   have HN8:=Go.Lib.hid hkl8
   have HM8:=Go.Lib.hid hmk8
   have HNL:=Go.Lib.hid hn8
   have HBW:=Go.Lib.hid (bl_then HB1.out HSD6.out.bl)
   have HBX:Hid ((fun X:World=>X.cell? ⟨w.heap.size,0,none⟩=some (.string KX)∧X.cell? ⟨w.heap.size,1,none⟩=some (.int .i64 ck)∧X.cell? ⟨w.heap.size,2,none⟩=some (.int .i64 cl)∧X.cell? ⟨w.heap.size,3,none⟩=some (.int .i64 cd)∧X.cell? ⟨w.heap.size,4,none⟩=some (.int .i64 cb)∧X.cell? ⟨w.heap.size,5,none⟩=some (.int .i64 cp)∧X.cell? ⟨w.heap.size,6,none⟩=some (.bool co)∧X.cell? ⟨w.heap.size,7,none⟩=some (.int .i64 cat)∧X.cell? ⟨w.heap.size,8,none⟩=some (.int .i64 clev)∧X.cell? ⟨w.heap.size,9,none⟩=some (.int .i64 cheld)∧X.cell? ⟨w.heap.size,10,none⟩=some (.slice xa xn xc)) w6):=Go.Lib.hid ⟨cbx0,cbx1,cbx2,cbx3,cbx4,cbx5,cbx6,cbx7,cbx8,cbx9,cbx10⟩
   clear HSD5 HSK5 hb6 hsk8 hkl8 hmk8 hrk8 hn8 cbx0 cbx1 cbx2 cbx3 cbx4 cbx5 cbx6 cbx7 cbx8 cbx9 cbx10
   go_wp2_with fail
   go_loopw [17,18] (fun s17 s18 wq=>∃ k kk:Nat,s18=.int .i64 k∧s17=.int .i64 kk∧k≤N∧kk≤k∧Hid (kk=meet (L2.map (·.key)) X.key 0 (((Js.map (·.x)).take k).map (·.key))∧Below w6.heap.size w6 wq)) (fun _ s18 _=>N - (intOf s18).toNat)
   case atStart=>exact⟨0,0,rfl,rfl,Nat.zero_le _,Nat.le_refl _,⟨rfl,bl_refl _⟩⟩
   case round =>
    obtain⟨k,kk,rfl,rfl,hk,hkk,H⟩:=hrel
    obtain⟨hme,hB⟩:=H.out
    clear H
    have HME:=Go.Lib.hid hme
    clear hme
    by_cases hkN:k<N
    ·obtain ⟨i,hik⟩:∃ i,Ks[k]?=some i:=⟨Ks[k]'(by rw[← HN.out];omega),List.getElem?_eq_getElem _⟩
     obtain⟨g,cap,e,rc0,-⟩:=crow_at (crow_bl HSK6.out.row hB) hik
     injection e with e1 e2 e3
     subst e1 e3
     have k0:(0:Int)≤(k:Int):=by omega
     have k1:(k:Int)<(N:Int):=by omega
     have hms2:N - (k+1)<N - k:=by omega
     have kk0:(0:Int)≤(kk:Int):=by omega
     have hix:(Js.map (·.x))[k]?=some i.x:=by rw[← HMK.out,List.getElem?_map,hik];rfl
     have htk:(((Js.map (·.x)).take (k+1)).map (·.key))=((Js.map (·.x)).take k).map (·.key) ++ [i.x.key]:=by rw[(split_nth hix).2,List.map_append];rfl
     have hnx:meet (L2.map (·.key)) X.key 0 (((Js.map (·.x)).take (k+1)).map (·.key))=if kk<(L2.map (·.key)).length∧(L2.map (·.key))[kk]?=some i.x.key∧i.x.key≠X.key then kk+1 else kk:=by rw[htk,meet_snoc,← HME.out]
     rw[List.length_map,← HNL.out] at hnx
     have HNX:=Go.Lib.hid hnx
     clear hnx htk hix e2 hik
     have hkx:=ktx_eq i.x.key KX
     rw[HXK.out] at hkx
     obtain⟨cbx0,-⟩:=HBX.out
     replace cbx0:=bl_cell hB cbx0
     have hgoal:∀ W:World,Below w6.heap.size w6 W→∀ kk2:Nat,kk2≤kk+1→kk2=(if kk<N8∧(L2.map (·.key))[kk]?=some i.x.key∧i.x.key≠X.key then kk+1 else kk)→∃ k' kk':Nat,Value.int .i64 ((k:Int)+1)=.int .i64 k'∧Value.int .i64 (kk2:Int)=.int .i64 kk'∧k'≤N∧kk'≤k'∧Hid (kk'=meet (L2.map (·.key)) X.key 0 (((Js.map (·.x)).take k').map (·.key))∧Below w6.heap.size w6 W):=fun W hW kk2 h2 h1=>⟨k+1,kk2,by go_num,rfl,by omega,by omega,⟨by rw[HNX.out];exact h1,hW⟩⟩
     have HGOAL:=Go.Lib.hid hgoal
     clear hgoal
     have hBW:=bl_then HBW.out hB
     have hbw:=hB
     replace hB:=hBW
     clear hBW
     by_cases hkl:kk<N8
     ·have kl1:(kk:Int)<(N8:Int):=by omega
      obtain⟨i2,hik2⟩:∃ i2,K8[kk]?=some i2:=⟨K8[kk]'(by rw[← HN8.out];exact hkl),List.getElem?_eq_getElem _⟩
      obtain⟨g2,cap2,e',sc0,-⟩:=crow_at (crow_bl HALL.out.row hbw) hik2
      injection e' with e4 e5 e6
      subst e4 e6
      have hix2:(L2.map (·.key))[kk]?=some i2.x.key:=by rw[← HM8.out,List.getElem?_map,List.getElem?_map,hik2];rfl
      have hkk2:=ktx_eq i2.x.key (ktx i.x.key)
      rw[ktx_list] at hkk2
      clear hik2 e5
      by_cases he:i2.x.key=i.x.key
      ·rw [decide_eq_true he] at hkk2
       by_cases hx:i.x.key=X.key
       ·rw[decide_eq_true hx] at hkx
        have HIF:Hid (¬ (kk<N8∧(L2.map (·.key))[kk]?=some i.x.key∧i.x.key≠X.key)):=Go.Lib.hid (fun hh=>hh.2.2 hx)
        clear hx he hix2
        generalize ktx i.x.key=KI at *
        generalize ktx i2.x.key=KI2 at *
        go_wp2_with fail
        refine wp_region_held_drew (S:=fun w'=>w'.cell? ⟨g,k*11,none⟩=some (.string KI)∧w'.cell? ⟨w.heap.size,0,none⟩=some (.string KX)∧w'.cell? ⟨g2,kk*11,none⟩=some (.string KI2)∧Below w6.heap.size w6 w'∧Below w.heap.size w w') (by kernel_rfl) ?_ (fun hHeld=>?_)
        ·exact⟨rc0,cbx0,sc0,(bl_drew hbw),bl_drew hB⟩
        try simp only[Act.put,List.setIfInBounds_toArray,List.set_cons_zero,List.set_cons_succ]
        refine tkx 0 ?_
        refine tkx 1 ?_
        refine tkx 2 ?_
        (refine tk (i:=3) (v:=.bool true) rfl rfl hHeld ?_ (by intro w hSw;(try dsimp only at hSw);go_simp <;> simp[hkl]))
        refine tkx 4 ?_
        first|refine tqx 5 ?_|refine tkx 5 ?_
        first|refine tqx 6 ?_|refine tkx 6 ?_
        first|refine tqx 7 ?_|refine tkx 7 ?_
        first|refine tqx 8 ?_|refine tkx 8 ?_
        first|refine tqx 9 ?_|refine tkx 9 ?_
        first|refine tqx 10 ?_|refine tkx 10 ?_
        first|refine tqx 11 ?_|refine tkx 11 ?_
        first|refine tqx 12 ?_|refine tkx 12 ?_
        first|refine tqx 13 ?_|refine tkx 13 ?_
        first|refine tqx 14 ?_|refine tkx 14 ?_
        first|refine tqx 15 ?_|refine tkx 15 ?_
        refine tkx 16 ?_
        refine tkx 17 ?_
        first|refine tqx 18 ?_|refine tkx 18 ?_
        first|refine tqx 19 ?_|refine tkx 19 ?_
        first|refine tqx 20 ?_|refine tkx 20 ?_
        first|refine tqx 21 ?_|refine tkx 21 ?_
        first|refine tqx 22 ?_|refine tkx 22 ?_
        first|refine tqx 23 ?_|refine tkx 23 ?_
        first|refine tqx 24 ?_|refine tkx 24 ?_
        first|refine tqx 25 ?_|refine tkx 25 ?_
        refine tkx 26 ?_
        refine wpAnyH_done (by kernel_rfl) ?_ _
        refine then_abs (F:=fun w'=>w'.cell? ⟨g,k*11,none⟩=some (.string KI)∧w'.cell? ⟨w.heap.size,0,none⟩=some (.string KX)∧w'.cell? ⟨g2,kk*11,none⟩=some (.string KI2)∧Below w6.heap.size w6 w'∧Below w.heap.size w w') hHeld ?_
        clear hHeld hB rc0 cbx0 sc0 hbw
        rintro w61 ⟨rc0,cbx0,sc0,hbw,hB⟩
        have lb_rc:=lbc rc0
        have lb_cbx:=lbc cbx0
        have lb_sc:=lbc sc0
        go_wp2_with fail
        go_roundw
        case rel=>exact HGOAL.out _ hbw kk (by omega) (by rw[if_neg HIF.out])
        case measure=>(simp[intOf];first|exact hms2|omega)
       ·rw[decide_eq_false hx] at hkx
        have HIF:Hid (kk<N8∧(L2.map (·.key))[kk]?=some i.x.key∧i.x.key≠X.key):=Go.Lib.hid ⟨hkl,by rw[hix2,he],hx⟩
        clear hx he hix2
        generalize ktx i.x.key=KI at *
        generalize ktx i2.x.key=KI2 at *
        go_wp2_with fail
        refine wp_region_held_drew (S:=fun w'=>w'.cell? ⟨g,k*11,none⟩=some (.string KI)∧w'.cell? ⟨w.heap.size,0,none⟩=some (.string KX)∧w'.cell? ⟨g2,kk*11,none⟩=some (.string KI2)∧Below w6.heap.size w6 w'∧Below w.heap.size w w') (by kernel_rfl) ?_ (fun hHeld=>?_)
        ·exact⟨rc0,cbx0,sc0,(bl_drew hbw),bl_drew hB⟩
        try simp only[Act.put,List.setIfInBounds_toArray,List.set_cons_zero,List.set_cons_succ]
        refine tkx 0 ?_
        refine tkx 1 ?_
        refine tkx 2 ?_
        (refine tk (i:=3) (v:=.bool true) rfl rfl hHeld ?_ (by intro w hSw;(try dsimp only at hSw);go_simp <;> simp[hkl]))
        refine tkx 4 ?_
        first|refine tqx 5 ?_|refine tkx 5 ?_
        first|refine tqx 6 ?_|refine tkx 6 ?_
        first|refine tqx 7 ?_|refine tkx 7 ?_
        first|refine tqx 8 ?_|refine tkx 8 ?_
        first|refine tqx 9 ?_|refine tkx 9 ?_
        first|refine tqx 10 ?_|refine tkx 10 ?_
        first|refine tqx 11 ?_|refine tkx 11 ?_
        first|refine tqx 12 ?_|refine tkx 12 ?_
        first|refine tqx 13 ?_|refine tkx 13 ?_
        first|refine tqx 14 ?_|refine tkx 14 ?_
        first|refine tqx 15 ?_|refine tkx 15 ?_
        refine tkx 16 ?_
        refine tkx 17 ?_
        first|refine tqx 18 ?_|refine tkx 18 ?_
        first|refine tqx 19 ?_|refine tkx 19 ?_
        first|refine tqx 20 ?_|refine tkx 20 ?_
        first|refine tqx 21 ?_|refine tkx 21 ?_
        first|refine tqx 22 ?_|refine tkx 22 ?_
        first|refine tqx 23 ?_|refine tkx 23 ?_
        first|refine tqx 24 ?_|refine tkx 24 ?_
        first|refine tqx 25 ?_|refine tkx 25 ?_
        refine tkx 26 ?_
        refine wpAnyH_done (by kernel_rfl) ?_ _
        refine then_abs (F:=fun w'=>w'.cell? ⟨g,k*11,none⟩=some (.string KI)∧w'.cell? ⟨w.heap.size,0,none⟩=some (.string KX)∧w'.cell? ⟨g2,kk*11,none⟩=some (.string KI2)∧Below w6.heap.size w6 w'∧Below w.heap.size w w') hHeld ?_
        clear hHeld hB rc0 cbx0 sc0 hbw
        rintro w71 ⟨rc0,cbx0,sc0,hbw,hB⟩
        have lb_rc:=lbc rc0
        have lb_cbx:=lbc cbx0
        have lb_sc:=lbc sc0
        go_wp2_with fail
        go_roundw
        case rel=>exact HGOAL.out _ hbw (kk+1) (by omega) (by rw[if_pos HIF.out])
        case measure=>(simp[intOf];first|exact hms2|omega)
      ·rw[decide_eq_false he] at hkk2
       have HIF:Hid (¬ (kk<N8∧(L2.map (·.key))[kk]?=some i.x.key∧i.x.key≠X.key)):=Go.Lib.hid (fun hh=>he (by have:=hix2.symm.trans hh.2.1;injection this))
       clear he hix2
       generalize ktx i.x.key=KI at *
       generalize ktx i2.x.key=KI2 at *
       go_wp2_with fail
       refine wp_region_held_drew (S:=fun w'=>w'.cell? ⟨g,k*11,none⟩=some (.string KI)∧w'.cell? ⟨w.heap.size,0,none⟩=some (.string KX)∧w'.cell? ⟨g2,kk*11,none⟩=some (.string KI2)∧Below w6.heap.size w6 w'∧Below w.heap.size w w') (by kernel_rfl) ?_ (fun hHeld=>?_)
       ·exact⟨rc0,cbx0,sc0,(bl_drew hbw),bl_drew hB⟩
       try simp only[Act.put,List.setIfInBounds_toArray,List.set_cons_zero,List.set_cons_succ]
       refine tkx 0 ?_
       refine tkx 1 ?_
       refine tkx 2 ?_
       (refine tk (i:=3) (v:=.bool true) rfl rfl hHeld ?_ (by intro w hSw;(try dsimp only at hSw);go_simp <;> simp[hkl]))
       refine tkx 4 ?_
       first|refine tqx 5 ?_|refine tkx 5 ?_
       first|refine tqx 6 ?_|refine tkx 6 ?_
       first|refine tqx 7 ?_|refine tkx 7 ?_
       first|refine tqx 8 ?_|refine tkx 8 ?_
       first|refine tqx 9 ?_|refine tkx 9 ?_
       first|refine tqx 10 ?_|refine tkx 10 ?_
       first|refine tqx 11 ?_|refine tkx 11 ?_
       first|refine tqx 12 ?_|refine tkx 12 ?_
       first|refine tqx 13 ?_|refine tkx 13 ?_
       first|refine tqx 14 ?_|refine tkx 14 ?_
       first|refine tqx 15 ?_|refine tkx 15 ?_
       refine tkx 16 ?_
       refine tkx 17 ?_
       first|refine tqx 18 ?_|refine tkx 18 ?_
       first|refine tqx 19 ?_|refine tkx 19 ?_
       first|refine tqx 20 ?_|refine tkx 20 ?_
       first|refine tqx 21 ?_|refine tkx 21 ?_
       first|refine tqx 22 ?_|refine tkx 22 ?_
       first|refine tqx 23 ?_|refine tkx 23 ?_
       first|refine tqx 24 ?_|refine tkx 24 ?_
       first|refine tqx 25 ?_|refine tkx 25 ?_
       refine tkx 26 ?_
       refine wpAnyH_done (by kernel_rfl) ?_ _
       refine then_abs (F:=fun w'=>w'.cell? ⟨g,k*11,none⟩=some (.string KI)∧w'.cell? ⟨w.heap.size,0,none⟩=some (.string KX)∧w'.cell? ⟨g2,kk*11,none⟩=some (.string KI2)∧Below w6.heap.size w6 w'∧Below w.heap.size w w') hHeld ?_
       clear hHeld hB rc0 cbx0 sc0 hbw
       rintro w81 ⟨rc0,cbx0,sc0,hbw,hB⟩
       have lb_rc:=lbc rc0
       have lb_cbx:=lbc cbx0
       have lb_sc:=lbc sc0
       go_wp2_with fail
       go_roundw
       case rel=>exact HGOAL.out _ hbw kk (by omega) (by rw[if_neg HIF.out])
       case measure=>(simp[intOf];first|exact hms2|omega)
     ·have hkl1:¬ (kk:Int)<(N8:Int):=by omega
      have HIF:Hid (¬ (kk<N8∧(L2.map (·.key))[kk]?=some i.x.key∧i.x.key≠X.key)):=Go.Lib.hid (fun hh=>hkl hh.1)
      generalize ktx i.x.key=KI at *
      go_wp2_with fail
      refine wp_region_held_drew (S:=fun w'=>w'.cell? ⟨g,k*11,none⟩=some (.string KI)∧w'.cell? ⟨w.heap.size,0,none⟩=some (.string KX)∧Below w6.heap.size w6 w'∧Below w.heap.size w w') (by kernel_rfl) ?_ (fun hHeld=>?_)
      ·exact⟨rc0,cbx0,(bl_drew hbw),bl_drew hB⟩
      try simp only[Act.put,List.setIfInBounds_toArray,List.set_cons_zero,List.set_cons_succ]
      refine tkx 0 ?_
      refine tkx 1 ?_
      refine tkx 2 ?_
      (refine tk (i:=3) (v:=.bool false) rfl rfl hHeld ?_ (by intro w hSw;(try dsimp only at hSw);go_simp <;> simp[hkl]))
      refine tkx 4 ?_
      first|refine tqx 5 ?_|refine tkx 5 ?_
      first|refine tqx 6 ?_|refine tkx 6 ?_
      first|refine tqx 7 ?_|refine tkx 7 ?_
      first|refine tqx 8 ?_|refine tkx 8 ?_
      first|refine tqx 9 ?_|refine tkx 9 ?_
      first|refine tqx 10 ?_|refine tkx 10 ?_
      first|refine tqx 11 ?_|refine tkx 11 ?_
      first|refine tqx 12 ?_|refine tkx 12 ?_
      first|refine tqx 13 ?_|refine tkx 13 ?_
      first|refine tqx 14 ?_|refine tkx 14 ?_
      first|refine tqx 15 ?_|refine tkx 15 ?_
      refine tkx 16 ?_
      refine tkx 17 ?_
      first|refine tqx 18 ?_|refine tkx 18 ?_
      first|refine tqx 19 ?_|refine tkx 19 ?_
      first|refine tqx 20 ?_|refine tkx 20 ?_
      first|refine tqx 21 ?_|refine tkx 21 ?_
      first|refine tqx 22 ?_|refine tkx 22 ?_
      first|refine tqx 23 ?_|refine tkx 23 ?_
      first|refine tqx 24 ?_|refine tkx 24 ?_
      first|refine tqx 25 ?_|refine tkx 25 ?_
      refine tkx 26 ?_
      refine wpAnyH_done (by kernel_rfl) ?_ _
      refine then_abs (F:=fun w'=>w'.cell? ⟨g,k*11,none⟩=some (.string KI)∧w'.cell? ⟨w.heap.size,0,none⟩=some (.string KX)∧Below w6.heap.size w6 w'∧Below w.heap.size w w') hHeld ?_
      clear hHeld hB rc0 cbx0 hbw
      rintro w91 ⟨rc0,cbx0,hbw,hB⟩
      have lb_rc:=lbc rc0
      have lb_cbx:=lbc cbx0
      go_wp2_with fail
      go_roundw
      case rel=>exact HGOAL.out _ hbw kk (by omega) (by rw[if_neg HIF.out])
      case measure=>(simp[intOf];first|exact hms2|omega)
    ·have hkn:k=N:=by omega
     subst hkn
     have hkN2:¬ (k:Int)<(k:Int):=by omega
     have hkk1:kk=meet (L2.map (·.key)) X.key 0 ((Js.map (·.x)).map (·.key)):=by have h1:=HME.out;rw[List.take_of_length_le (by rw[← HNJ.out];exact Nat.le_refl _)] at h1;exact h1
     have HKK:=Go.Lib.hid hkk1
     clear hkk1
     obtain⟨cbx0,cbx1,cbx2,cbx3,cbx4,cbx5,cbx6,cbx7,cbx8,cbx9,cbx10⟩:=HBX.out
     replace cbx0:=bl_cell hB cbx0
     replace cbx1:=bl_cell hB cbx1
     replace cbx2:=bl_cell hB cbx2
     replace cbx3:=bl_cell hB cbx3
     replace cbx4:=bl_cell hB cbx4
     replace cbx5:=bl_cell hB cbx5
     replace cbx6:=bl_cell hB cbx6
     replace cbx7:=bl_cell hB cbx7
     replace cbx8:=bl_cell hB cbx8
     replace cbx9:=bl_cell hB cbx9
     replace cbx10:=bl_cell hB cbx10
     have HBW2:=Go.Lib.hid (bl_then HBW.out hB)
     have HSK7:=Go.Lib.hid (HSK6.out.to hB)
     have HALL7:=Go.Lib.hid (HALL.out.to hB)
     clear hB
     have hsc:=HSC.out
     by_cases hE:E=0
     ·subst hE
      have hso:=HSO.out rfl
      obtain⟨hrg,hso⟩:=hso
      have hfx:=HFX.out _ HBW2.out
      clear hsc hrg
      rcases hso with⟨hf,hL⟩|⟨hf,P,hL,hno⟩
      ·rw [hf] at hfx
       have hkn8:kk=N8:=by
        rw[HKK.out,HNL.out,hL]
        have h1:=meet_cells (k:=X.key) HAP.out (fun y => !(y.key == X.key)) [] (fun e he=>by cases he) (fun y hy=>by have:=(List.mem_filter.1 hy).2;simpa using this)
        rw[List.append_nil] at h1
        exact h1
       subst hkn8
       clear hf hL
       have HFX2:=Go.Lib.hid hfx
       clear hfx
       go_wp2_with fail
       refine HFX2.out.mono ?_
       rintro e w8 ⟨rfl,hb8⟩
       have HBW3:=Go.Lib.hid (bl_then HBW2.out hb8)
       clear hb8
       go_wp2_with fail
       refine(HKN.out _).mono ?_
       rintro e w10 ⟨rfl,hb10⟩
       have hB10:=bl_then HBW3.out hb10
       clear hb10
       go_wp2_with fail
       go_ret
       first|exact⟨rfl,hB10⟩|exact hB10
      ·rw [hf] at hfx
       have hfl:kk=((Js.map (·.x)).filter P).length:=by
        rw[HKK.out,hL]
        exact meet_cells (k:=X.key) HAP.out P [X] (fun e he=>by rw[List.mem_singleton.1 he]) hno
       have hn8:N8=kk+1:=by rw[HNL.out,hL,List.length_append,← hfl];rfl
       have hxl:L2[kk]?=some X:=by rw[hL,hfl,List.getElem?_append_right (Nat.le_refl _),Nat.sub_self];rfl
       obtain⟨i2,hik2⟩:∃ i2,K8[kk]?=some i2:=⟨K8[kk]'(by rw[← HN8.out];omega),List.getElem?_eq_getElem _⟩
       have hix2:i2.x=X:=by have h1:=hxl;rw[← HM8.out,List.getElem?_map,hik2] at h1;simpa using h1
       clear hf hL hno hfl hxl
       subst hn8
       have HFX2:=Go.Lib.hid hfx
       clear hfx
       go_wp2_with fail
       refine HFX2.out.mono ?_
       rintro e w8 ⟨rfl,hb8⟩
       have HBW3:=Go.Lib.hid (bl_then HBW2.out hb8)
       replace cbx0:=bl_cell hb8 cbx0
       replace cbx1:=bl_cell hb8 cbx1
       replace cbx2:=bl_cell hb8 cbx2
       replace cbx3:=bl_cell hb8 cbx3
       replace cbx4:=bl_cell hb8 cbx4
       replace cbx5:=bl_cell hb8 cbx5
       replace cbx6:=bl_cell hb8 cbx6
       replace cbx7:=bl_cell hb8 cbx7
       replace cbx8:=bl_cell hb8 cbx8
       replace cbx9:=bl_cell hb8 cbx9
       replace cbx10:=bl_cell hb8 cbx10
       obtain⟨g2,cap2,e',sc0,sc1,sc2,sc3,sc4,sc5,sc6,sc7,sc8,sc9,sc10⟩:=crow_at (HALL7.out.to hb8).row hik2
       have hlog2:=(HALL7.out.to hb8).row.2 i2 (List.mem_of_getElem? hik2)
       injection e' with e4 e5 e6
       subst e4 e6
       have hxx:=HXE.out
       rw[← hix2] at hxx
       obtain⟨x2,a2,n2,c2⟩:=i2
       dsimp only at hxx sc0 sc1 sc2 sc3 sc4 sc5 sc6 sc7 sc8 sc9 sc10 hlog2
       subst hxx
       dsimp only at sc0 sc1 sc2 sc3 sc4 sc5 sc6 sc7 sc8 sc9 sc10 hlog2
       rw[HKX.out] at sc0
       have hxl:=log_bl HXLG.out (bl_then HBW2.out hb8)
       have hnn:n2=xn:=hlog2.1.symm.trans hxl.1
       subst hnn
       have heqs:=fun W=>pol_eql ⟨ck,cl,cd,cb,cp,co⟩ ⟨ck,cl,cd,cb,cp,co⟩ W
       rw[(polE_iff _ _).2 rfl] at heqs
       dsimp only at heqs
       clear hb8 hix2 hik2 e5
       have kk0:(0:Int)≤(kk:Int):=by omega
       have kl1:(kk:Int)<((kk+1:Nat):Int):=by omega
       have kl2:(kk:Int)<(kk:Int)+1:=by omega
       have hB:=HBW3.out
       go_wp2_with fail
       have hwk:IntKind.i64.wrap (kk:Int)=(kk:Int):=IntWalk.i64_in _ (by omega)
       refine wp_region_held_drew (S:=fun w'=>LogAt w' a2 n2 c2 CLG∧LogAt w' xa n2 xc CLG∧w'.cell? ⟨w.heap.size,0,none⟩=some (.string KX)∧w'.cell? ⟨g2,kk*11,none⟩=some (.string KX)∧w'.cell? ⟨w.heap.size,1,none⟩=some (.int .i64 ck)∧w'.cell? ⟨g2,kk*11+1,none⟩=some (.int .i64 ck)∧w'.cell? ⟨w.heap.size,2,none⟩=some (.int .i64 cl)∧w'.cell? ⟨g2,kk*11+2,none⟩=some (.int .i64 cl)∧w'.cell? ⟨w.heap.size,3,none⟩=some (.int .i64 cd)∧w'.cell? ⟨g2,kk*11+3,none⟩=some (.int .i64 cd)∧w'.cell? ⟨w.heap.size,4,none⟩=some (.int .i64 cb)∧w'.cell? ⟨g2,kk*11+4,none⟩=some (.int .i64 cb)∧w'.cell? ⟨w.heap.size,5,none⟩=some (.int .i64 cp)∧w'.cell? ⟨g2,kk*11+5,none⟩=some (.int .i64 cp)∧w'.cell? ⟨w.heap.size,6,none⟩=some (.bool co)∧w'.cell? ⟨g2,kk*11+6,none⟩=some (.bool co)∧w'.cell? ⟨w.heap.size,7,none⟩=some (.int .i64 cat)∧w'.cell? ⟨g2,kk*11+7,none⟩=some (.int .i64 cat)∧w'.cell? ⟨w.heap.size,8,none⟩=some (.int .i64 clev)∧w'.cell? ⟨g2,kk*11+8,none⟩=some (.int .i64 clev)∧w'.cell? ⟨w.heap.size,9,none⟩=some (.int .i64 cheld)∧w'.cell? ⟨g2,kk*11+9,none⟩=some (.int .i64 cheld)∧w'.cell? ⟨w.heap.size,10,none⟩=some (.slice xa n2 xc)∧w'.cell? ⟨g2,kk*11+10,none⟩=some (.slice a2 n2 c2)∧Below w.heap.size w w') (by kernel_rfl) ?_ (fun hHeld=>?_)
       ·exact⟨(log_bl hlog2 (bl_drew (bl_refl _))),(log_bl hxl (bl_drew (bl_refl _))),cbx0,sc0,cbx1,sc1,cbx2,sc2,cbx3,sc3,cbx4,sc4,cbx5,sc5,cbx6,sc6,cbx7,sc7,cbx8,sc8,cbx9,sc9,cbx10,sc10,bl_drew hB⟩
       try simp only[Act.put,List.setIfInBounds_toArray,List.set_cons_zero,List.set_cons_succ]
       refine tkx 0 ?_
       refine tkx 1 ?_
       refine tkx 2 ?_
       refine tkx 3 ?_
       refine tkx 4 ?_
       refine tkx 5 ?_
       first|refine tqx 6 ?_|refine tkx 6 ?_
       first|refine tqx 7 ?_|refine tkx 7 ?_
       first|refine tqx 8 ?_|refine tkx 8 ?_
       first|refine tqx 9 ?_|refine tkx 9 ?_
       first|refine tqx 10 ?_|refine tkx 10 ?_
       first|refine tqx 11 ?_|refine tkx 11 ?_
       first|refine tqx 12 ?_|refine tkx 12 ?_
       first|refine tqx 13 ?_|refine tkx 13 ?_
       refine tkx 14 ?_
       refine tkx 15 ?_
       first|refine tqx 16 ?_|refine tkx 16 ?_
       first|refine tqx 17 ?_|refine tkx 17 ?_
       first|refine tqx 18 ?_|refine tkx 18 ?_
       first|refine tqx 19 ?_|refine tkx 19 ?_
       first|refine tqx 20 ?_|refine tkx 20 ?_
       first|refine tqx 21 ?_|refine tkx 21 ?_
       first|refine tqx 22 ?_|refine tkx 22 ?_
       first|refine tqx 23 ?_|refine tkx 23 ?_
       refine tkx 24 ?_
       refine tkx 25 ?_
       first|refine tqx 26 ?_|refine tkx 26 ?_
       first|refine tqx 27 ?_|refine tkx 27 ?_
       first|refine tqx 28 ?_|refine tkx 28 ?_
       first|refine tqx 29 ?_|refine tkx 29 ?_
       first|refine tqx 30 ?_|refine tkx 30 ?_
       first|refine tqx 31 ?_|refine tkx 31 ?_
       first|refine tqx 32 ?_|refine tkx 32 ?_
       first|(refine tqx 33 ?_)|(refine callC (i:=33) rfl (fun K hK=>?_);obtain⟨h_hlog2,h_hxl,h_cbx0,h_sc0,h_cbx1,h_sc1,h_cbx2,h_sc2,h_cbx3,h_sc3,h_cbx4,h_sc4,h_cbx5,h_sc5,h_cbx6,h_sc6,h_cbx7,h_sc7,h_cbx8,h_sc8,h_cbx9,h_sc9,h_cbx10,h_sc10,h_B⟩:=(id hHeld);go_simp;refine(HSX.out _ _ _ h_hlog2 h_hxl).mono ?_;rintro e w9 ⟨rfl,hb⟩;go_wp2_with fail;refine hK.out _ _ ?_ (fun hHeld2=>?_);(focus((try dsimp only);exact⟨log_bl h_hlog2 hb,log_bl h_hxl hb,bl_cell hb h_cbx0,bl_cell hb h_sc0,bl_cell hb h_cbx1,bl_cell hb h_sc1,bl_cell hb h_cbx2,bl_cell hb h_sc2,bl_cell hb h_cbx3,bl_cell hb h_sc3,bl_cell hb h_cbx4,bl_cell hb h_sc4,bl_cell hb h_cbx5,bl_cell hb h_sc5,bl_cell hb h_cbx6,bl_cell hb h_sc6,bl_cell hb h_cbx7,bl_cell hb h_sc7,bl_cell hb h_cbx8,bl_cell hb h_sc8,bl_cell hb h_cbx9,bl_cell hb h_sc9,bl_cell hb h_cbx10,bl_cell hb h_sc10,bl_then h_B hb⟩));clear hHeld hK K;have hHeld:=hHeld2;clear hHeld2 h_hlog2 h_hxl h_cbx0 h_sc0 h_cbx1 h_sc1 h_cbx2 h_sc2 h_cbx3 h_sc3 h_cbx4 h_sc4 h_cbx5 h_sc5 h_cbx6 h_sc6 h_cbx7 h_sc7 h_cbx8 h_sc8 h_cbx9 h_sc9 h_cbx10 h_sc10 h_B;try simp only[Act.put,List.setIfInBounds_toArray,List.set_cons_zero,List.set_cons_succ])
       refine tkx 34 ?_
       refine tkx 35 ?_
       first|(refine tqx 36 ?_)|(refine callC (i:=36) rfl (fun K hK=>?_);obtain⟨h_hlog2,h_hxl,h_cbx0,h_sc0,h_cbx1,h_sc1,h_cbx2,h_sc2,h_cbx3,h_sc3,h_cbx4,h_sc4,h_cbx5,h_sc5,h_cbx6,h_sc6,h_cbx7,h_sc7,h_cbx8,h_sc8,h_cbx9,h_sc9,h_cbx10,h_sc10,h_B⟩:=(id hHeld);go_simp;refine(HKN.out _).mono ?_;rintro e w9 ⟨rfl,hb⟩;go_wp2_with fail;refine hK.out _ _ ?_ (fun hHeld2=>?_);(focus((try dsimp only);exact⟨log_bl h_hlog2 hb,log_bl h_hxl hb,bl_cell hb h_cbx0,bl_cell hb h_sc0,bl_cell hb h_cbx1,bl_cell hb h_sc1,bl_cell hb h_cbx2,bl_cell hb h_sc2,bl_cell hb h_cbx3,bl_cell hb h_sc3,bl_cell hb h_cbx4,bl_cell hb h_sc4,bl_cell hb h_cbx5,bl_cell hb h_sc5,bl_cell hb h_cbx6,bl_cell hb h_sc6,bl_cell hb h_cbx7,bl_cell hb h_sc7,bl_cell hb h_cbx8,bl_cell hb h_sc8,bl_cell hb h_cbx9,bl_cell hb h_sc9,bl_cell hb h_cbx10,bl_cell hb h_sc10,bl_then h_B hb⟩));clear hHeld hK K;have hHeld:=hHeld2;clear hHeld2 h_hlog2 h_hxl h_cbx0 h_sc0 h_cbx1 h_sc1 h_cbx2 h_sc2 h_cbx3 h_sc3 h_cbx4 h_sc4 h_cbx5 h_sc5 h_cbx6 h_sc6 h_cbx7 h_sc7 h_cbx8 h_sc8 h_cbx9 h_sc9 h_cbx10 h_sc10 h_B;try simp only[Act.put,List.setIfInBounds_toArray,List.set_cons_zero,List.set_cons_succ])
       refine tkx 37 ?_
       refine tkx 38 ?_
       refine wpAnyH_done (by kernel_rfl) ?_ _
       refine then_abs (F:=fun w'=>LogAt w' a2 n2 c2 CLG∧LogAt w' xa n2 xc CLG∧w'.cell? ⟨w.heap.size,0,none⟩=some (.string KX)∧w'.cell? ⟨g2,kk*11,none⟩=some (.string KX)∧w'.cell? ⟨w.heap.size,1,none⟩=some (.int .i64 ck)∧w'.cell? ⟨g2,kk*11+1,none⟩=some (.int .i64 ck)∧w'.cell? ⟨w.heap.size,2,none⟩=some (.int .i64 cl)∧w'.cell? ⟨g2,kk*11+2,none⟩=some (.int .i64 cl)∧w'.cell? ⟨w.heap.size,3,none⟩=some (.int .i64 cd)∧w'.cell? ⟨g2,kk*11+3,none⟩=some (.int .i64 cd)∧w'.cell? ⟨w.heap.size,4,none⟩=some (.int .i64 cb)∧w'.cell? ⟨g2,kk*11+4,none⟩=some (.int .i64 cb)∧w'.cell? ⟨w.heap.size,5,none⟩=some (.int .i64 cp)∧w'.cell? ⟨g2,kk*11+5,none⟩=some (.int .i64 cp)∧w'.cell? ⟨w.heap.size,6,none⟩=some (.bool co)∧w'.cell? ⟨g2,kk*11+6,none⟩=some (.bool co)∧w'.cell? ⟨w.heap.size,7,none⟩=some (.int .i64 cat)∧w'.cell? ⟨g2,kk*11+7,none⟩=some (.int .i64 cat)∧w'.cell? ⟨w.heap.size,8,none⟩=some (.int .i64 clev)∧w'.cell? ⟨g2,kk*11+8,none⟩=some (.int .i64 clev)∧w'.cell? ⟨w.heap.size,9,none⟩=some (.int .i64 cheld)∧w'.cell? ⟨g2,kk*11+9,none⟩=some (.int .i64 cheld)∧w'.cell? ⟨w.heap.size,10,none⟩=some (.slice xa n2 xc)∧w'.cell? ⟨g2,kk*11+10,none⟩=some (.slice a2 n2 c2)∧Below w.heap.size w w') hHeld ?_
       clear hHeld hB hlog2 hxl cbx0 sc0 cbx1 sc1 cbx2 sc2 cbx3 sc3 cbx4 sc4 cbx5 sc5 cbx6 sc6 cbx7 sc7 cbx8 sc8 cbx9 sc9 cbx10 sc10
       rintro w101 ⟨hlog2,hxl,cbx0,sc0,cbx1,sc1,cbx2,sc2,cbx3,sc3,cbx4,sc4,cbx5,sc5,cbx6,sc6,cbx7,sc7,cbx8,sc8,cbx9,sc9,cbx10,sc10,hB⟩
       have lb_cbx:=lbc cbx0
       have lb_sc:=lbc sc0
       have lb_cbx1:=lbc cbx10
       have lb_sc1:=lbc sc10
       go_wp2_with fail
       go_ret
       first|exact⟨rfl,hB⟩|exact hB
     ·have hL2:L2=Js.map (·.x):=by
       rcases hsc with h|h|h
       ·exact absurd h hE
       ·exact(HSA.out h).2
       ·exact(HSF.out hE (by rw[h];decide)).2.1
      have hm8:K8.map (·.x)=Ks.map (·.x):=by rw[HM8.out,hL2,HMK.out]
      clear hL2 hsc
      have hsm:=rsame_yes (.slice a8 N8 c8) (.slice a5 k c5) wr HALL7.out.row HSK7.out.row hm8 (by rw[← HN8.out];omega)
      have HSM:=Go.Lib.hid hsm
      clear hsm hm8
      have hEd:=decide_eq_false hE
      go_wp2_with fail
      refine HSM.out.mono ?_
      rintro e w8 ⟨rfl,hb8⟩
      have HBW3:=Go.Lib.hid (bl_then HBW2.out hb8)
      clear hb8
      go_wp2_with fail
      refine(HKN.out _).mono ?_
      rintro e w10 ⟨rfl,hb10⟩
      have hB10:=bl_then HBW3.out hb10
      clear hb10
      go_wp2_with fail
      go_ret
      first|exact⟨rfl,hB10⟩|exact hB10
theorem cnewest_row (la:Option Addr) (m lc:Nat) (ds:Nat→CD) (x:Cl) (xa:Option Addr) (xn xc:Nat) (now:Int) (room:Int) (w:World) (hr0:0≤room) (hr1:room≤255) (hA:CDosIn w la m ds) (hX:CellIn w x xa xn xc):Calls Tryz.prog 7 #[.slice la m lc,x.v xa xn xc,.int .i64 now,.int .u8 room] w fun e w'=>e=.returned (.bool true)∧Below w.heap.size w w':=by
 by_cases hm:(40:Int)<m
 ·exact cnewest_long la m lc ds x xa xn xc now room w hr0 hr1 hA hX hm
 ·exact cnewest_run la m lc ds x xa xn xc now room w hr0 hr1 hA hX hm
theorem cnewest_walk (la:Option Addr) (m lc:Nat) (ds:Nat→CD) (x:Cl) (xa:Option Addr) (xn xc:Nat) (now:Int) (room:Int) (w:World) (hA:CDosIn w la m ds) (hX:CellIn w x xa xn xc) (_ : -9223372036854775808≤now) (_:now≤9223372036854775807) (hr0:0≤room) (hr1:room≤255):Calls Tryz.prog 7 #[.slice la m lc,x.v xa xn xc,.int .i64 now,.int .u8 room] w fun e w'=>e=.returned (.bool true)∧Below w.heap.size w w':=cnewest_row la m lc ds x xa xn xc now room w hr0 hr1 hA hX
end Go.Proofs.YtmhikkbdhboodaaGreat

namespace Go.Proofs.YtmhikkbdhboodaaGreat.cellsNewest
open Go.ChangeShapes Go.WideShapes Go.ChangeAt Go.RowKit
open Go.ChangeMaps (open_string shut_string)
set_option linter.unusedVariables false
set_option linter.unusedSimpArgs false

theorem own:ownKnob Tryz.prog.godebug=none:=by kernel_rfl
theorem laidOut:laidOutB Tryz.prog=true:=by kernel_rfl

set_option maxHeartbeats 1000000 in
set_option maxRecDepth 100000 in
theorem lifted (os:Os) (started:os.Started) (H:Type) (enc:TypeId × Value→H) :
  ReturnsInHanded {} Tryz.checked os 7 .any (Rows.cellsNewestSpec.pre6 enc Tryz.prog Tryz.f7 Rows.cellsNewestRow.domain false) (Rows.cellsNewestSpec.post enc Tryz.prog Tryz.f7 false true false false):=by
 refine returnsInHanded_of_change (C:=Tryz.checked) own started (by kernel_rfl) Tryz.func7
  (ChangeSpec.witness6 (enc:=enc) (C:=Tryz.checked) false ⟨#[],#[.slice none 0 0,.agg #[.string ByteArray.empty,.int .i64 0,.int .i64 0,.int .i64 0,.int .i64 0,.int .i64 0,.bool false,.int .i64 0,.int .i64 0,.int .i64 0,.slice none 0 0],.int .i64 0,.int .u8 0],[]⟩ 8 (by kernel_rfl) (by kernel_rfl) (by kernel_rfl) (by kernel_rfl)) ?_
 intro W base args ds gs before hval0 hW hcnd _
 have hval:∀ (j:Nat) t v,Tryz.f7.params[j]?=some t→args[j]?=some v→Value.okWide Tryz.prog W .any base t v:=hval0
 have hW':=hW
 obtain⟨p,q,hA0,hV,rfl,hfz,hnd⟩:=hW
 have hA:DataW.TrodAll enc Tryz.prog W 0 (fun _=>true) true Tryz.f7.params.toList args.toList ds p:=hA0
 rw[Tryz.params7] at hA hval
 obtain⟨v0,vs0,d0,ds0',p0,q0,hargs,rfl,rfl,h0,r0⟩:=trodAll_cons hA
 obtain⟨v1,vs1,d1,ds1',p1,q1,rfl,rfl,rfl,h1,r1⟩:=trodAll_cons r0
 obtain⟨v2,vs2,d2,ds2',p2,q2,rfl,rfl,rfl,h2,r2⟩:=trodAll_cons r1
 obtain⟨v3,vs3,d3,ds3',p3,q3,rfl,rfl,rfl,h3,r3⟩:=trodAll_cons r2
 obtain⟨rfl,rfl,rfl⟩:=trodAll_nil r3
 obtain rfl:args = #[v0,v1,v2,v3]:=by cases args;simp_all
 obtain⟨rfl,rfl⟩:=trodVars_none hV
 obtain⟨a0,len0,cap0,rfl⟩:=okWide_slice Tryz.underlying49 (hval 0 49 v0 rfl rfl)
 have k0:=h0
 have lt0:∀ x ∈ p0,x.block<W.heap.size:=by obtain⟨m,hm⟩:=k0;exact DataW.trod_lt m _ _ _ hm
 obtain⟨ds0,w0⟩:∃ ds,CDosIn W a0 len0 ds:=by obtain⟨fuel,hf⟩:=h0;exact open_cds (by simpa [Value.cells] using hf)
 have k1:=h1
 have lt1:∀ x ∈ p1,x.block<W.heap.size:=by obtain⟨m,hm⟩:=k1;exact DataW.trod_lt m _ _ _ hm
 obtain⟨ds1,a1,len1,cap1,rfl,w1⟩:=open_cell (hval 1 59 v1 rfl rfl) h1
 obtain⟨a2,rfl,rfl,rfl,w2⟩:=open_int Tryz.underlying3 (hval 2 3 v2 rfl rfl) h2
 have b2l : -9223372036854775808≤a2:=by have h:=w2;simp only[Lit.wf,Bool.and_eq_true,decide_eq_true_eq] at h;exact h.1
 have b2h:a2≤9223372036854775807:=by have h:=w2;simp only[Lit.wf,Bool.and_eq_true,decide_eq_true_eq] at h;exact h.2
 obtain⟨a3,rfl,rfl,rfl,w3⟩:=open_int Tryz.underlying5 (hval 3 5 v3 rfl rfl) h3
 have b3l:0≤a3:=by have h:=w3;simp only[Lit.wf,Bool.and_eq_true,decide_eq_true_eq] at h;exact h.1
 have b3h:a3≤255:=by have h:=w3;simp only[Lit.wf,Bool.and_eq_true,decide_eq_true_eq] at h;exact h.2
 clear hA0 hval0
 refine(cnewest_walk a0 len0 cap0 ds0 ds1 a1 len1 cap1 a2 a3 W w0 w1 b2l b2h b3l b3h).mono fun e W' ⟨he,bel⟩=>?_
 subst he
 exact⟨_,rfl,_,_,_,[],_,[],hW',trodAll_mk1 (shut_bool Tryz.underlying4 _),(trodAll_cons_mk (Below.trod laidOut (by kernel_rfl) (of_decide_eq_true (by kernel_rfl)) k0 bel lt0) (trodAll_cons_mk (Below.trod laidOut (by kernel_rfl) (of_decide_eq_true (by kernel_rfl)) k1 bel lt1) (trodAll_cons_mk (shut_int Tryz.underlying3 w2) (trodAll_cons_mk (shut_int Tryz.underlying5 w3) trodAll_mk0)))),rfl,bel.frame _,fun h=>by cases h⟩

theorem over:Rows.cellsNewestRow.holds Tryz.pinned (OpenSpec.ofChange Rows.cellsNewestSpec) :=
 OpenClaim.holds_of_wide 7 Tryz.f7 rfl rfl rfl rfl rfl rfl rfl ⟨rfl,rfl,rfl,rfl,rfl⟩ rfl rfl rfl rfl rfl (by kernel_rfl) Tryz.func7 (by kernel_rfl)
  (of_decide_eq_true (by kernel_rfl)) (by unfold Func.isWrapper;first|(rw[if_pos (by decide +kernel)];kernel_rfl)|(rw[if_neg (by decide +kernel)];exact⟨rfl,rfl⟩))
  (fun os started H enc _=>lifted os started H enc)

/-- The statement. -/
theorem proved:Rows.CellsNewestSaid:=over
end Go.Proofs.YtmhikkbdhboodaaGreat.cellsNewest
