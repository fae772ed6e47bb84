/-
  The statement CellsFull of this seat: for every input the law returns true, and each argument reads afterwards as it read before. No condition.
-/
import Derived.Test.YtmhikkbdhboodaaGreatZcX
import Derived.Test.YtmhikkbdhboodaaGreatRows
import Derived.WalkKit
import Derived.ProofKit
import Derived.OpenShut
import Derived.ShutString
import Derived.ChangeOld
import Derived.Below
namespace Go.Proofs.YtmhikkbdhboodaaGreat
open Go.RowKit Go.Maps
set_option linter.unusedVariables false
set_option linter.unusedSimpArgs false

set_option maxHeartbeats 8000000 in
set_option maxRecDepth 100000 in
theorem cfull_long (room:Int) (la:Option Addr) (m lc:Nat) (ds:Nat→CD) (x:Cl) (xa:Option Addr) (xn xc:Nat) (now:Int) (w:World) (hr0:0≤room) (hr1:room≤255) (hA:CDosIn w la m ds) (hX:CellIn w x xa xn xc) (hm:(40:Int)<m):Calls Tryz.prog 10 #[.int .u8 room,.slice la m lc,x.v xa xn xc,.int .i64 now] w fun e w'=>e=.returned (.bool true)∧Below w.heap.size w w':=by
 have h41:40<m:=by omega
 have HKN:=Go.Lib.hid cknown
 clear hA
 have hrw:IntKind.i64.wrap room=room:=IntWalk.i64_in _ (by omega)
 obtain⟨hxl,hxs⟩:=hX
 obtain⟨X,hXe⟩:∃ X:Cl,X=x:=⟨_,rfl⟩
 have hset:∀ (w0 W:World) (tb b0 rm k:Nat) (p:CsP) (nx:Nat) (L:List Cl) (v:Value) (Js:List LC) (h:Sd w0 W tb b0 rm k p nx L v Js) (hz:w.heap.size≤w0.heap.size) (hk:k<1000000) (hb:Below w.heap.size w W),Calls Tryz.prog 40 #[.pointer (some ⟨b0,0,none⟩),x.v xa xn xc,.int .i64 now] W fun e w'=>e=.returned (.int .i64 (cSet rm L X now).2)∧∃ p' nx',Sd w0 w' tb b0 rm (k+1) p' nx' (cSet rm L X now).1 v Js∧Moved p p' W w':=by
  intro w0 W tb b0 rm k p nx L v Js h hz hk hb
  subst hXe
  exact sd_set X xa xn xc now h (log_bl hxl hb) (fun ad e hn=>h.low _ (Nat.lt_of_lt_of_le (clog_lt hxl ad e hn) hz)) hxs hk
 have hrt:∀ (W:World) (hb:Below w.heap.size w W),Calls Tryz.prog 44 #[x.pol.v,x.st.v xa xn xc] W fun e w'=>e=.returned (.bool (rightP X.pol X.st))∧Below W.heap.size W w':=by
  intro W hb;subst hXe;exact r8right_any X.pol X.st xa xn xc W (log_bl hxl hb)
 have hfx:∀ (W:World) (hb:Below w.heap.size w W),Calls Tryz.prog 36 #[x.v xa xn xc,.int .i64 now] W fun e w'=>e=.returned (.bool (cFresh now X))∧Below W.heap.size W w':=by
  intro W hb;subst hXe;exact rfresh_any X xa xn xc now W (log_bl hxl hb)
 have hlx:∀ (w0 W:World) (tb b0 rm k:Nat) (p:CsP) (nx:Nat) (L:List Cl) (v:Value) (Js:List LC) (h:Sd w0 W tb b0 rm k p nx L v Js) (hk:k<1000000),Calls Tryz.prog 41 #[.pointer (some ⟨b0,0,none⟩),.string (ktx x.key),x.pol.v,.int .i64 now] W fun e w'=>∃ (a':Option Addr) (n' c':Nat),e=.returned ((cLook L X.key X.pol now).v a' n' c')∧LogAt w' a' n' c' (cLook L X.key X.pol now).log∧Below W.heap.size W w':=by
  intro w0 W tb b0 rm k p nx L v Js h hk;subst hXe
  have hh:=sd_look (ktx X.key) X.pol now h (by rw[ktx_size];exact hxs) hk
  rw[ktx_list] at hh
  exact hh
 have hsx:=fun a1 k1 W h1 h2=>same_yes x.st a1 xa xn k1 xc W h1 h2
 have hxk:(ktx x.key).data.toList=X.key:=by rw[hXe,ktx_list]
 have hxp:X.pol=x.pol:=by rw[hXe]
 have hxst:X.st=x.st:=by rw[hXe]
 have hxlg:LogAt w xa xn xc x.st.log:=hxl
 have HXE0:=Go.Lib.hid hXe
 clear hXe hxl hxs
 obtain⟨ckey,⟨ck,cl,cd,cb,cp,co⟩,⟨cat,clev,cheld,CLG⟩⟩:=x
 unfold Cl.v Pol.v St.v at *
 dsimp only at *
 have HXE:Hid (X=⟨ckey,⟨ck,cl,cd,cb,cp,co⟩,⟨cat,clev,cheld,CLG⟩⟩):=HXE0
 clear HXE0
 generalize hkx:ktx ckey=KX at *
 have HKX:=Go.Lib.hid hkx
 clear hkx
 have HXK:=Go.Lib.hid hxk
 have HXP:=Go.Lib.hid hxp
 have HXST:=Go.Lib.hid hxst
 have HXLG:=Go.Lib.hid hxlg
 clear hxk hxp hxst hxlg
 have HSET:=Go.Lib.hid hset
 have HRT:=Go.Lib.hid hrt
 have HFX:=Go.Lib.hid hfx
 have HLX:=Go.Lib.hid hlx
 have HSX:=Go.Lib.hid hsx
 clear hset hrt hfx hlx hsx
 go_enter Tryz.func10,Tryz.ntmps10
 go_wp2_with fail
 refine(HKN.out _).mono ?_
 rintro e w1 ⟨rfl,hb⟩
 have hx:Below w.heap.size w w1:=bl_then (bl_alloc (bl_refl _) _) hb
 have hsz1:w.heap.size+1≤w1.heap.size:=szl hb
 have bx0:=bl_cell (v:=.string KX) hb (show World.cell? _ ⟨w.heap.size,0,none⟩=_ by go_simp)
 have bx1:=bl_cell (v:=.int .i64 ck) hb (show World.cell? _ ⟨w.heap.size,1,none⟩=_ by go_simp)
 have bx2:=bl_cell (v:=.int .i64 cl) hb (show World.cell? _ ⟨w.heap.size,2,none⟩=_ by go_simp)
 have bx3:=bl_cell (v:=.int .i64 cd) hb (show World.cell? _ ⟨w.heap.size,3,none⟩=_ by go_simp)
 have bx4:=bl_cell (v:=.int .i64 cb) hb (show World.cell? _ ⟨w.heap.size,4,none⟩=_ by go_simp)
 have bx5:=bl_cell (v:=.int .i64 cp) hb (show World.cell? _ ⟨w.heap.size,5,none⟩=_ by go_simp)
 have bx6:=bl_cell (v:=.bool co) hb (show World.cell? _ ⟨w.heap.size,6,none⟩=_ by go_simp)
 have bx7:=bl_cell (v:=.int .i64 cat) hb (show World.cell? _ ⟨w.heap.size,7,none⟩=_ by go_simp)
 have bx8:=bl_cell (v:=.int .i64 clev) hb (show World.cell? _ ⟨w.heap.size,8,none⟩=_ by go_simp)
 have bx9:=bl_cell (v:=.int .i64 cheld) hb (show World.cell? _ ⟨w.heap.size,9,none⟩=_ by go_simp)
 have bx10:=bl_cell (v:=.slice xa xn xc) hb (show World.cell? _ ⟨w.heap.size,10,none⟩=_ by go_simp)
 have hB:Below w.heap.size w w1:=hx
 have lb_bx:=lbc bx0
 have lb_bx1:=lbc bx10
 clear hb hx
 go_wp2_with fail
 go_ret
 exact⟨rfl,hB⟩
set_option maxHeartbeats 8000000 in
set_option maxRecDepth 100000 in
theorem cfull_run (room:Int) (la:Option Addr) (m lc:Nat) (ds:Nat→CD) (x:Cl) (xa:Option Addr) (xn xc:Nat) (now:Int) (w:World) (hr0:0≤room) (hr1:room≤255) (hA:CDosIn w la m ds) (hX:CellIn w x xa xn xc) (hm:¬ (40:Int)<m):Calls Tryz.prog 10 #[.int .u8 room,.slice la m lc,x.v xa xn xc,.int .i64 now] w fun e w'=>e=.returned (.bool true)∧Below w.heap.size w w':=by
 have HKN:=Go.Lib.hid cknown
 have HA:=Go.Lib.hid hA
 have HLG:=Go.Lib.hid (fun W hW=>clong_any la m lc ds W (cds_bl hA hW))
 have h41:¬ 40<m:=by omega
 clear hA
 have hrw:IntKind.i64.wrap room=room:=IntWalk.i64_in _ (by omega)
 obtain⟨hxl,hxs⟩:=hX
 obtain⟨X,hXe⟩:∃ X:Cl,X=x:=⟨_,rfl⟩
 have hset:∀ (w0 W:World) (tb b0 rm k:Nat) (p:CsP) (nx:Nat) (L:List Cl) (v:Value) (Js:List LC) (h:Sd w0 W tb b0 rm k p nx L v Js) (hz:w.heap.size≤w0.heap.size) (hk:k<1000000) (hb:Below w.heap.size w W),Calls Tryz.prog 40 #[.pointer (some ⟨b0,0,none⟩),x.v xa xn xc,.int .i64 now] W fun e w'=>e=.returned (.int .i64 (cSet rm L X now).2)∧∃ p' nx',Sd w0 w' tb b0 rm (k+1) p' nx' (cSet rm L X now).1 v Js∧Moved p p' W w':=by
  intro w0 W tb b0 rm k p nx L v Js h hz hk hb
  subst hXe
  exact sd_set X xa xn xc now h (log_bl hxl hb) (fun ad e hn=>h.low _ (Nat.lt_of_lt_of_le (clog_lt hxl ad e hn) hz)) hxs hk
 have hrt:∀ (W:World) (hb:Below w.heap.size w W),Calls Tryz.prog 44 #[x.pol.v,x.st.v xa xn xc] W fun e w'=>e=.returned (.bool (rightP X.pol X.st))∧Below W.heap.size W w':=by
  intro W hb;subst hXe;exact r8right_any X.pol X.st xa xn xc W (log_bl hxl hb)
 have hfx:∀ (W:World) (hb:Below w.heap.size w W),Calls Tryz.prog 36 #[x.v xa xn xc,.int .i64 now] W fun e w'=>e=.returned (.bool (cFresh now X))∧Below W.heap.size W w':=by
  intro W hb;subst hXe;exact rfresh_any X xa xn xc now W (log_bl hxl hb)
 have hlx:∀ (w0 W:World) (tb b0 rm k:Nat) (p:CsP) (nx:Nat) (L:List Cl) (v:Value) (Js:List LC) (h:Sd w0 W tb b0 rm k p nx L v Js) (hk:k<1000000),Calls Tryz.prog 41 #[.pointer (some ⟨b0,0,none⟩),.string (ktx x.key),x.pol.v,.int .i64 now] W fun e w'=>∃ (a':Option Addr) (n' c':Nat),e=.returned ((cLook L X.key X.pol now).v a' n' c')∧LogAt w' a' n' c' (cLook L X.key X.pol now).log∧Below W.heap.size W w':=by
  intro w0 W tb b0 rm k p nx L v Js h hk;subst hXe
  have hh:=sd_look (ktx X.key) X.pol now h (by rw[ktx_size];exact hxs) hk
  rw[ktx_list] at hh
  exact hh
 have hsx:=fun a1 k1 W h1 h2=>same_yes x.st a1 xa xn k1 xc W h1 h2
 have hxk:(ktx x.key).data.toList=X.key:=by rw[hXe,ktx_list]
 have hxp:X.pol=x.pol:=by rw[hXe]
 have hxst:X.st=x.st:=by rw[hXe]
 have hxlg:LogAt w xa xn xc x.st.log:=hxl
 have HXE0:=Go.Lib.hid hXe
 clear hXe hxl hxs
 obtain⟨ckey,⟨ck,cl,cd,cb,cp,co⟩,⟨cat,clev,cheld,CLG⟩⟩:=x
 unfold Cl.v Pol.v St.v at *
 dsimp only at *
 have HXE:Hid (X=⟨ckey,⟨ck,cl,cd,cb,cp,co⟩,⟨cat,clev,cheld,CLG⟩⟩):=HXE0
 clear HXE0
 generalize hkx:ktx ckey=KX at *
 have HKX:=Go.Lib.hid hkx
 clear hkx
 have HXK:=Go.Lib.hid hxk
 have HXP:=Go.Lib.hid hxp
 have HXST:=Go.Lib.hid hxst
 have HXLG:=Go.Lib.hid hxlg
 clear hxk hxp hxst hxlg
 have HSET:=Go.Lib.hid hset
 have HRT:=Go.Lib.hid hrt
 have HFX:=Go.Lib.hid hfx
 have HLX:=Go.Lib.hid hlx
 have HSX:=Go.Lib.hid hsx
 clear hset hrt hfx hlx hsx
 go_enter Tryz.func10,Tryz.ntmps10
 go_wp2_with fail
 refine(HLG.out _ (bl_alloc (bl_refl _) _)).mono ?_
 rintro e w1 ⟨lq,rfl,hb⟩
 have hx:Below w.heap.size w w1:=bl_then (bl_alloc (bl_refl _) _) hb
 have hsz1:w.heap.size+1≤w1.heap.size:=szl hb
 have bx0:=bl_cell (v:=.string KX) hb (show World.cell? _ ⟨w.heap.size,0,none⟩=_ by go_simp)
 have bx1:=bl_cell (v:=.int .i64 ck) hb (show World.cell? _ ⟨w.heap.size,1,none⟩=_ by go_simp)
 have bx2:=bl_cell (v:=.int .i64 cl) hb (show World.cell? _ ⟨w.heap.size,2,none⟩=_ by go_simp)
 have bx3:=bl_cell (v:=.int .i64 cd) hb (show World.cell? _ ⟨w.heap.size,3,none⟩=_ by go_simp)
 have bx4:=bl_cell (v:=.int .i64 cb) hb (show World.cell? _ ⟨w.heap.size,4,none⟩=_ by go_simp)
 have bx5:=bl_cell (v:=.int .i64 cp) hb (show World.cell? _ ⟨w.heap.size,5,none⟩=_ by go_simp)
 have bx6:=bl_cell (v:=.bool co) hb (show World.cell? _ ⟨w.heap.size,6,none⟩=_ by go_simp)
 have bx7:=bl_cell (v:=.int .i64 cat) hb (show World.cell? _ ⟨w.heap.size,7,none⟩=_ by go_simp)
 have bx8:=bl_cell (v:=.int .i64 clev) hb (show World.cell? _ ⟨w.heap.size,8,none⟩=_ by go_simp)
 have bx9:=bl_cell (v:=.int .i64 cheld) hb (show World.cell? _ ⟨w.heap.size,9,none⟩=_ by go_simp)
 have bx10:=bl_cell (v:=.slice xa xn xc) hb (show World.cell? _ ⟨w.heap.size,10,none⟩=_ by go_simp)
 have hB:Below w.heap.size w w1:=hx
 have lb_bx:=lbc bx0
 have lb_bx1:=lbc bx10
 clear hb hx
 by_cases hq:600<lq
 ·go_wp2_with fail
  refine(HKN.out _).mono ?_
  rintro e w2 ⟨rfl,hb⟩
  have hsz2:w1.heap.size+0≤w2.heap.size:=szl hb
  replace bx0:=bl_cell hb bx0
  replace bx1:=bl_cell hb bx1
  replace bx2:=bl_cell hb bx2
  replace bx3:=bl_cell hb bx3
  replace bx4:=bl_cell hb bx4
  replace bx5:=bl_cell hb bx5
  replace bx6:=bl_cell hb bx6
  replace bx7:=bl_cell hb bx7
  replace bx8:=bl_cell hb bx8
  replace bx9:=bl_cell hb bx9
  replace bx10:=bl_cell hb bx10
  replace hB:Below w.heap.size w w2:=bl_then hB hb
  replace lb_bx:=lbc bx0
  replace lb_bx1:=lbc bx10
  clear hb
  go_wp2_with fail
  go_ret
  exact⟨rfl,hB⟩
 by_cases hg0:100<xn
 ·have hgi0:(100:Int)<(xn:Nat):=by omega
  go_wp2_with fail
  refine(HKN.out _).mono ?_
  rintro e w2 ⟨rfl,hb⟩
  have hsz2:w1.heap.size+0≤w2.heap.size:=szl hb
  replace bx0:=bl_cell hb bx0
  replace bx1:=bl_cell hb bx1
  replace bx2:=bl_cell hb bx2
  replace bx3:=bl_cell hb bx3
  replace bx4:=bl_cell hb bx4
  replace bx5:=bl_cell hb bx5
  replace bx6:=bl_cell hb bx6
  replace bx7:=bl_cell hb bx7
  replace bx8:=bl_cell hb bx8
  replace bx9:=bl_cell hb bx9
  replace bx10:=bl_cell hb bx10
  replace hB:Below w.heap.size w w2:=bl_then hB hb
  replace lb_bx:=lbc bx0
  replace lb_bx1:=lbc bx10
  clear hb
  go_wp2_with fail
  go_ret
  exact⟨rfl,hB⟩
 have hgi0:¬ (100:Int)<(xn:Nat):=by omega
 by_cases hg1:100<KX.size
 ·have hgi1:(100:Int)<(KX.size:Nat):=by omega
  go_wp2_with fail
  refine(HKN.out _).mono ?_
  rintro e w2 ⟨rfl,hb⟩
  have hsz2:w1.heap.size+0≤w2.heap.size:=szl hb
  replace bx0:=bl_cell hb bx0
  replace bx1:=bl_cell hb bx1
  replace bx2:=bl_cell hb bx2
  replace bx3:=bl_cell hb bx3
  replace bx4:=bl_cell hb bx4
  replace bx5:=bl_cell hb bx5
  replace bx6:=bl_cell hb bx6
  replace bx7:=bl_cell hb bx7
  replace bx8:=bl_cell hb bx8
  replace bx9:=bl_cell hb bx9
  replace bx10:=bl_cell hb bx10
  replace hB:Below w.heap.size w w2:=bl_then hB hb
  replace lb_bx:=lbc bx0
  replace lb_bx1:=lbc bx10
  clear hb
  go_wp2_with fail
  go_ret
  exact⟨rfl,hB⟩
 have hgi1:¬ (100:Int)<(KX.size:Nat):=by omega
 go_wp2_with fail
 have HB1:=Go.Lib.hid hB
 clear hB
 refine(csnew_any room _).mono ?_
 rintro e w2 ⟨p,rfl,hc,hb,hF⟩
 have HC:=Go.Lib.hid hc
 have HB2:=Go.Lib.hid hb
 have HF:=Go.Lib.hid hF
 have qbx0:=bl_cell hb bx0
 have qbx1:=bl_cell hb bx1
 have qbx2:=bl_cell hb bx2
 have qbx3:=bl_cell hb bx3
 have qbx4:=bl_cell hb bx4
 have qbx5:=bl_cell hb bx5
 have qbx6:=bl_cell hb bx6
 have qbx7:=bl_cell hb bx7
 have qbx8:=bl_cell hb bx8
 have qbx9:=bl_cell hb bx9
 have qbx10:=bl_cell hb bx10
 clear hc hb hF
 go_wp2_with fail
 refine(rnew_any room _).mono ?_
 rintro e w3 ⟨rfl,hb3⟩
 have HB3:=Go.Lib.hid hb3
 clear hb3 qbx0 qbx1 qbx2 qbx3 qbx4 qbx5 qbx6 qbx7 qbx8 qbx9 qbx10
 unfold TV
 go_wp2_with fail
 go_loopw [11] (fun s11 wr=>∃ j:Nat,s11=.int .i64 j∧j≤m∧Hid (StI w1 wr w3.heap.size p.b (roomOf (room)) j)) (fun s11 _=>m - (intOf s11).toNat)
 case atStart=>exact⟨0,rfl,Nat.zero_le _,Go.Lib.hid ⟨p,0,.slice none 0 0,[],sd_start HC.out HB2.out HF.out HB3.out⟩⟩
 case round =>
  obtain⟨j,rfl,hj,H⟩:=hrel
  obtain⟨p2,nx,v,Js,hsd⟩:=H.out
  clear H HC HB2 HF HB3
  by_cases hjn:j<m
  ·obtain ⟨hks,hlg,xb,xo,hla,y0,y1,y2,y3,y4,y5,y6,y7,y8,y9,y10,y11,y12,y13⟩:=(cds_bl HA.out HB1.out).2 j hjn
   subst hla
   have hap:=cells_apart hsd.cells
   have hlen:=hsd.len
   have hm40:(m:Int)≤40:=by omega
   have hj41:j≤40:=by omega
   have k0:(0:Int)≤(j:Int):=by omega
   have k1:(j:Int)<(m:Int):=by omega
   have hms:m - (j+1)<m - j:=by omega
   have hj1:j+1≤m:=hjn
   have wj:IntKind.i64.wrap ((j:Int)+1)=(j:Int)+1:=IntWalk.i64_in _ (by omega)
   obtain⟨ra,rc,rfl⟩:=cs_form hsd.row.1
   obtain⟨Z,hZ⟩:∃ Z,Z=cStep (roomOf room) (Js.map (·.x)) (ds j):=⟨_,rfl⟩
   have hdd:=fun W (h:Sd w1 W (w3.heap.size) p.b (roomOf room) (j) p2 nx (Js.map (·.x)) (.slice ra Js.length rc) Js)=>sd_did (d:=ds j) h hlg hks (by omega)
   have hst1:=fun p3 nx3 W (h:Sd w1 W (w3.heap.size) p.b (roomOf room) (j+1) p3 nx3 ((cStep (roomOf room) (Js.map (·.x)) (ds j)).1) (.slice ra Js.length rc) Js)=>sd_step1 (d:=ds j) h rfl hlen hap hlg hks
   have hst2:=fun p3 nx3 X (h:Sd w1 X (w3.heap.size) p.b (roomOf room) (j+1) p3 nx3 ((cStep (roomOf room) (Js.map (·.x)) (ds j)).1) (.slice ra Js.length rc) Js) W (hb:Below X.heap.size X W) rn hr hr2=>sd_step2 (d:=ds j) h hb (rn:=rn) hr hr2 rfl hlen hap hlg hks
   simp only[← hZ] at hdd hst1 hst2
   obtain⟨L2,rr⟩:=Z
   have HSD:=Go.Lib.hid hsd
   have HLG:=Go.Lib.hid hlg
   have HZ:=Go.Lib.hid hZ
   have HKS:=Go.Lib.hid hks
   clear hZ hsd hlg hap hks
   generalize hde:ds j=d at *
   have HDE:=Go.Lib.hid hde
   clear hde
   obtain⟨dk,⟨ekey,⟨ek,el,ed,eb,ec,eo⟩,⟨eat,elev,eheld,EL⟩⟩,ea,en,ecp,enow,ecost⟩:=d
   unfold TV CD.v at *
   dsimp only at *
   generalize hKE:ktx ekey=KE at *
   have HKE:=Go.Lib.hid hKE
   clear hKE
   have HY:=Go.Lib.hid (⟨y0,y1,y2,y3,y4,y5,y6,y7,y8,y9,y10,y11,y12,y13⟩:w1.cell? ⟨xb,xo+j*14,none⟩=some (.int .i64 dk)∧w1.cell? ⟨xb,xo+j*14+1,none⟩=some (.string KE)∧w1.cell? ⟨xb,xo+j*14+2,none⟩=some (.int .i64 ek)∧w1.cell? ⟨xb,xo+j*14+3,none⟩=some (.int .i64 el)∧w1.cell? ⟨xb,xo+j*14+4,none⟩=some (.int .i64 ed)∧w1.cell? ⟨xb,xo+j*14+5,none⟩=some (.int .i64 eb)∧w1.cell? ⟨xb,xo+j*14+6,none⟩=some (.int .i64 ec)∧w1.cell? ⟨xb,xo+j*14+7,none⟩=some (.bool eo)∧w1.cell? ⟨xb,xo+j*14+8,none⟩=some (.int .i64 eat)∧w1.cell? ⟨xb,xo+j*14+9,none⟩=some (.int .i64 elev)∧w1.cell? ⟨xb,xo+j*14+10,none⟩=some (.int .i64 eheld)∧w1.cell? ⟨xb,xo+j*14+11,none⟩=some (.slice ea en ecp)∧w1.cell? ⟨xb,xo+j*14+12,none⟩=some (.int .i64 enow)∧w1.cell? ⟨xb,xo+j*14+13,none⟩=some (.int .i64 ecost))
   clear y0 y1 y2 y3 y4 y5 y6 y7 y8 y9 y10 y11 y12 y13
   have HDD:=Go.Lib.hid hdd
   have HST1:=Go.Lib.hid hst1
   have HST2:=Go.Lib.hid hst2
   clear hdd hst1 hst2
   go_wp2_with fail
   obtain⟨y0,y1,y2,y3,y4,y5,y6,y7,y8,y9,y10,y11,y12,y13⟩:=HY.out
   have x0:=bl_cell HSD.out.bl y0
   have x1:=bl_cell HSD.out.bl y1
   have x2:=bl_cell HSD.out.bl y2
   have x3:=bl_cell HSD.out.bl y3
   have x4:=bl_cell HSD.out.bl y4
   have x5:=bl_cell HSD.out.bl y5
   have x6:=bl_cell HSD.out.bl y6
   have x7:=bl_cell HSD.out.bl y7
   have x8:=bl_cell HSD.out.bl y8
   have x9:=bl_cell HSD.out.bl y9
   have x10:=bl_cell HSD.out.bl y10
   have x11:=bl_cell HSD.out.bl y11
   have x12:=bl_cell HSD.out.bl y12
   have x13:=bl_cell HSD.out.bl y13
   clear y0 y1 y2 y3 y4 y5 y6 y7 y8 y9 y10 y11 y12 y13
   have x14:=HSD.out.t0
   have x15:=HSD.out.t1
   refine wp_region_held_drew (S:=fun X=>X.cell? ⟨xb,xo+j*14,none⟩=some (.int .i64 dk)∧X.cell? ⟨xb,xo+j*14+1,none⟩=some (.string KE)∧X.cell? ⟨xb,xo+j*14+2,none⟩=some (.int .i64 ek)∧X.cell? ⟨xb,xo+j*14+3,none⟩=some (.int .i64 el)∧X.cell? ⟨xb,xo+j*14+4,none⟩=some (.int .i64 ed)∧X.cell? ⟨xb,xo+j*14+5,none⟩=some (.int .i64 eb)∧X.cell? ⟨xb,xo+j*14+6,none⟩=some (.int .i64 ec)∧X.cell? ⟨xb,xo+j*14+7,none⟩=some (.bool eo)∧X.cell? ⟨xb,xo+j*14+8,none⟩=some (.int .i64 eat)∧X.cell? ⟨xb,xo+j*14+9,none⟩=some (.int .i64 elev)∧X.cell? ⟨xb,xo+j*14+10,none⟩=some (.int .i64 eheld)∧X.cell? ⟨xb,xo+j*14+11,none⟩=some (.slice ea en ecp)∧X.cell? ⟨xb,xo+j*14+12,none⟩=some (.int .i64 enow)∧X.cell? ⟨xb,xo+j*14+13,none⟩=some (.int .i64 ecost)∧X.cell? ⟨w3.heap.size,0,none⟩=some (.int .i64 ((roomOf room:Nat):Int))∧X.cell? ⟨w3.heap.size,1,none⟩=some (.slice ra Js.length rc)) (by kernel_rfl) ?_ (fun hHeld=>?_)
   ·exact⟨x0,x1,x2,x3,x4,x5,x6,x7,x8,x9,x10,x11,x12,x13,x14,x15⟩
   try simp only[Act.put,List.setIfInBounds_toArray,List.set_cons_zero,List.set_cons_succ]
   refine wpAnyH_abs (F:=fun X=>Sd w1 X (w3.heap.size) p.b (roomOf room) (j) p2 nx (Js.map (·.x)) (.slice ra Js.length rc) Js) hHeld (HSD.out.to (bl_drew (bl_refl _))) ?_
   clear hHeld HSD x0 x1 x2 x3 x4 x5 x6 x7 x8 x9 x10 x11 x12 x13 x14 x15
   rintro X0 hHeld hsd
   refine tkx 0 ?_
   refine tkx 1 ?_
   refine tkx 2 ?_
   refine tkx 3 ?_
   refine tkx 4 ?_
   refine tkx 5 ?_
   refine callC (i:=6) rfl (fun K hK=>?_)
   clear hHeld
   go_simp
   refine(HDD.out _ hsd).mono ?_
   rintro e X6 ⟨rfl,p3,nx3,hsd3,hO3⟩
   obtain⟨y0,y1,y2,y3,y4,y5,y6,y7,y8,y9,y10,y11,y12,y13⟩:=HY.out
   have x0:=bl_cell hsd3.bl y0
   have x1:=bl_cell hsd3.bl y1
   have x2:=bl_cell hsd3.bl y2
   have x3:=bl_cell hsd3.bl y3
   have x4:=bl_cell hsd3.bl y4
   have x5:=bl_cell hsd3.bl y5
   have x6:=bl_cell hsd3.bl y6
   have x7:=bl_cell hsd3.bl y7
   have x8:=bl_cell hsd3.bl y8
   have x9:=bl_cell hsd3.bl y9
   have x10:=bl_cell hsd3.bl y10
   have x11:=bl_cell hsd3.bl y11
   have x12:=bl_cell hsd3.bl y12
   have x13:=bl_cell hsd3.bl y13
   clear y0 y1 y2 y3 y4 y5 y6 y7 y8 y9 y10 y11 y12 y13
   have x14:=hsd3.t0
   have x15:=hsd3.t1
   have HX:Hid ((fun X=>X.cell? ⟨xb,xo+j*14,none⟩=some (.int .i64 dk)∧X.cell? ⟨xb,xo+j*14+1,none⟩=some (.string KE)∧X.cell? ⟨xb,xo+j*14+2,none⟩=some (.int .i64 ek)∧X.cell? ⟨xb,xo+j*14+3,none⟩=some (.int .i64 el)∧X.cell? ⟨xb,xo+j*14+4,none⟩=some (.int .i64 ed)∧X.cell? ⟨xb,xo+j*14+5,none⟩=some (.int .i64 eb)∧X.cell? ⟨xb,xo+j*14+6,none⟩=some (.int .i64 ec)∧X.cell? ⟨xb,xo+j*14+7,none⟩=some (.bool eo)∧X.cell? ⟨xb,xo+j*14+8,none⟩=some (.int .i64 eat)∧X.cell? ⟨xb,xo+j*14+9,none⟩=some (.int .i64 elev)∧X.cell? ⟨xb,xo+j*14+10,none⟩=some (.int .i64 eheld)∧X.cell? ⟨xb,xo+j*14+11,none⟩=some (.slice ea en ecp)∧X.cell? ⟨xb,xo+j*14+12,none⟩=some (.int .i64 enow)∧X.cell? ⟨xb,xo+j*14+13,none⟩=some (.int .i64 ecost)∧X.cell? ⟨w3.heap.size,0,none⟩=some (.int .i64 ((roomOf room:Nat):Int))∧X.cell? ⟨w3.heap.size,1,none⟩=some (.slice ra Js.length rc)) X6):=Go.Lib.hid ⟨x0,x1,x2,x3,x4,x5,x6,x7,x8,x9,x10,x11,x12,x13,x14,x15⟩
   have HSD3:=Go.Lib.hid hsd3
   clear hsd hsd3 hO3 x0 x1 x2 x3 x4 x5 x6 x7 x8 x9 x10 x11 x12 x13 x14 x15
   go_wp2_with fail
   refine hK.out _ _ HX.out (fun hHeld2=>?_)
   clear hK K
   have hHeld:=hHeld2
   clear hHeld2
   try simp only[Act.put,List.setIfInBounds_toArray,List.set_cons_zero,List.set_cons_succ]
   refine wpAnyH_done (by kernel_rfl) ?_ _
   clear hHeld HX
   go_wp2_with fail
   obtain⟨y0,y1,y2,y3,y4,y5,y6,y7,y8,y9,y10,y11,y12,y13⟩:=HY.out
   have x0:=bl_cell HSD3.out.bl y0
   have x1:=bl_cell HSD3.out.bl y1
   have x2:=bl_cell HSD3.out.bl y2
   have x3:=bl_cell HSD3.out.bl y3
   have x4:=bl_cell HSD3.out.bl y4
   have x5:=bl_cell HSD3.out.bl y5
   have x6:=bl_cell HSD3.out.bl y6
   have x7:=bl_cell HSD3.out.bl y7
   have x8:=bl_cell HSD3.out.bl y8
   have x9:=bl_cell HSD3.out.bl y9
   have x10:=bl_cell HSD3.out.bl y10
   have x11:=bl_cell HSD3.out.bl y11
   have x12:=bl_cell HSD3.out.bl y12
   have x13:=bl_cell HSD3.out.bl y13
   clear y0 y1 y2 y3 y4 y5 y6 y7 y8 y9 y10 y11 y12 y13
   have x14:=HSD3.out.t0
   have x15:=HSD3.out.t1
   refine wp_region_held_drew (S:=fun X=>X.cell? ⟨xb,xo+j*14,none⟩=some (.int .i64 dk)∧X.cell? ⟨xb,xo+j*14+1,none⟩=some (.string KE)∧X.cell? ⟨xb,xo+j*14+2,none⟩=some (.int .i64 ek)∧X.cell? ⟨xb,xo+j*14+3,none⟩=some (.int .i64 el)∧X.cell? ⟨xb,xo+j*14+4,none⟩=some (.int .i64 ed)∧X.cell? ⟨xb,xo+j*14+5,none⟩=some (.int .i64 eb)∧X.cell? ⟨xb,xo+j*14+6,none⟩=some (.int .i64 ec)∧X.cell? ⟨xb,xo+j*14+7,none⟩=some (.bool eo)∧X.cell? ⟨xb,xo+j*14+8,none⟩=some (.int .i64 eat)∧X.cell? ⟨xb,xo+j*14+9,none⟩=some (.int .i64 elev)∧X.cell? ⟨xb,xo+j*14+10,none⟩=some (.int .i64 eheld)∧X.cell? ⟨xb,xo+j*14+11,none⟩=some (.slice ea en ecp)∧X.cell? ⟨xb,xo+j*14+12,none⟩=some (.int .i64 enow)∧X.cell? ⟨xb,xo+j*14+13,none⟩=some (.int .i64 ecost)∧X.cell? ⟨w3.heap.size,0,none⟩=some (.int .i64 ((roomOf room:Nat):Int))∧X.cell? ⟨w3.heap.size,1,none⟩=some (.slice ra Js.length rc)) (by kernel_rfl) ?_ (fun hHeld=>?_)
   ·exact⟨x0,x1,x2,x3,x4,x5,x6,x7,x8,x9,x10,x11,x12,x13,x14,x15⟩
   try simp only[Act.put,List.setIfInBounds_toArray,List.set_cons_zero,List.set_cons_succ]
   clear x0 x1 x2 x3 x4 x5 x6 x7 x8 x9 x10 x11 x12 x13 x14 x15
   refine wpAnyH_abs (F:=fun X=>Below X6.heap.size X6 X) hHeld (bl_drew (bl_refl _)) ?_
   clear hHeld
   rintro Y0 hHeld hbx
   have hlt0:=HSD3.out.tlt
   have hlt1:xb<X6.heap.size:=by obtain⟨y0,-⟩:=HY.out;have h1:=World.block_lt_of_cell? _ _ y0;have h2:=HSD3.out.bl.size;dsimp only at h1;omega
   refine tkx 0 ?_
   refine tkx 1 ?_
   refine tkx 2 ?_
   refine tkx 3 ?_
   refine tkx 4 ?_
   refine callC2 (i:=5) (j:=9) rfl rfl ?brA1 ?brB1
   case' brA1 =>
    intro K hK
    obtain⟨hx0,hx1,hx2,hx3,hx4,hx5,hx6,hx7,hx8,hx9,hx10,hx11,hx12,hx13,hx14,hx15⟩:=(id hHeld)
    clear hHeld
    go_simp
    refine(HST1.out _ _ _ (HSD3.out.to hbx)).mono ?_
    rintro e Y5 ⟨v3,F3,rfl,hsn,hb⟩
    obtain⟨a3,c3,rfl⟩:=cs_form hsn.row.1
    have HX:Hid ((fun X=>X.cell? ⟨xb,xo+j*14,none⟩=some (.int .i64 dk)∧X.cell? ⟨xb,xo+j*14+1,none⟩=some (.string KE)∧X.cell? ⟨xb,xo+j*14+2,none⟩=some (.int .i64 ek)∧X.cell? ⟨xb,xo+j*14+3,none⟩=some (.int .i64 el)∧X.cell? ⟨xb,xo+j*14+4,none⟩=some (.int .i64 ed)∧X.cell? ⟨xb,xo+j*14+5,none⟩=some (.int .i64 eb)∧X.cell? ⟨xb,xo+j*14+6,none⟩=some (.int .i64 ec)∧X.cell? ⟨xb,xo+j*14+7,none⟩=some (.bool eo)∧X.cell? ⟨xb,xo+j*14+8,none⟩=some (.int .i64 eat)∧X.cell? ⟨xb,xo+j*14+9,none⟩=some (.int .i64 elev)∧X.cell? ⟨xb,xo+j*14+10,none⟩=some (.int .i64 eheld)∧X.cell? ⟨xb,xo+j*14+11,none⟩=some (.slice ea en ecp)∧X.cell? ⟨xb,xo+j*14+12,none⟩=some (.int .i64 enow)∧X.cell? ⟨xb,xo+j*14+13,none⟩=some (.int .i64 ecost)∧X.cell? ⟨w3.heap.size,0,none⟩=some (.int .i64 ((roomOf room:Nat):Int))∧X.cell? ⟨w3.heap.size,1,none⟩=some (.slice ra Js.length rc)) Y5):=Go.Lib.hid ⟨bl_cell hb hx0,bl_cell hb hx1,bl_cell hb hx2,bl_cell hb hx3,bl_cell hb hx4,bl_cell hb hx5,bl_cell hb hx6,bl_cell hb hx7,bl_cell hb hx8,bl_cell hb hx9,bl_cell hb hx10,bl_cell hb hx11,bl_cell hb hx12,bl_cell hb hx13,bl_cell hb hx14,bl_cell hb hx15⟩
    replace hbx:=bl_then hbx hb
    clear hb hx0 hx1 hx2 hx3 hx4 hx5 hx6 hx7 hx8 hx9 hx10 hx11 hx12 hx13 hx14 hx15
    have HSN:=Go.Lib.hid hsn
    have HBX:=Go.Lib.hid hbx
    clear hsn hbx
    go_wp2_with fail
    refine hK.out _ _ HX.out (fun hHeld2=>?_)
    clear hK K HX
    have hHeld:=hHeld2
    clear hHeld2
    have hsn:=HSN.out
    have hbx:=HBX.out
    clear HSN HBX
    try simp only[Act.put,List.setIfInBounds_toArray,List.set_cons_zero,List.set_cons_succ]
    refine tkx 6 ?_
    refine tkx 7 ?_
    refine tkx 8 ?_
    refine callC (i:=9) rfl (fun K hK=>?_)
    obtain⟨hx0,hx1,hx2,hx3,hx4,hx5,hx6,hx7,hx8,hx9,hx10,hx11,hx12,hx13,hx14,hx15⟩:=(id hHeld)
    clear hHeld
    go_simp
    refine hK.out _ _ ⟨bl_cell (bl_alloc (bl_refl _) _) hx0,bl_cell (bl_alloc (bl_refl _) _) hx1,bl_cell (bl_alloc (bl_refl _) _) hx2,bl_cell (bl_alloc (bl_refl _) _) hx3,bl_cell (bl_alloc (bl_refl _) _) hx4,bl_cell (bl_alloc (bl_refl _) _) hx5,bl_cell (bl_alloc (bl_refl _) _) hx6,bl_cell (bl_alloc (bl_refl _) _) hx7,bl_cell (bl_alloc (bl_refl _) _) hx8,bl_cell (bl_alloc (bl_refl _) _) hx9,bl_cell (bl_alloc (bl_refl _) _) hx10,bl_cell (bl_alloc (bl_refl _) _) hx11,bl_cell (bl_alloc (bl_refl _) _) hx12,bl_cell (bl_alloc (bl_refl _) _) hx13,bl_cell (bl_alloc (bl_refl _) _) hx14,bl_cell (bl_alloc (bl_refl _) _) hx15⟩ (fun hHeld2=>?_)
    clear hK K hx0 hx1 hx2 hx3 hx4 hx5 hx6 hx7 hx8 hx9 hx10 hx11 hx12 hx13 hx14 hx15
    have hHeld:=hHeld2
    clear hHeld2
    try simp only[Act.put,List.setIfInBounds_toArray,List.set_cons_zero,List.set_cons_succ]
    have hrn:X6.heap.size≤Y5.heap.size:=hbx.size
    refine wpAnyH_abs (F:=fun X=>Below X6.heap.size X6 X∧Sn X (A2 p3 (w3.heap.size) Y5.heap.size) L2 (.slice a3 F3.length c3) F3∧X.cell? ⟨Y5.heap.size,0,none⟩=some (.int .i64 0)∧X.cell? ⟨Y5.heap.size,1,none⟩=some (.slice none 0 0)∧FB X Y5.heap.size 2∧Y5.heap.size<X.heap.size) hHeld ⟨bl_alloc hbx _,(hsn.new (Nat.le_refl _)).to (bl_alloc (bl_refl _) _),by simp,by simp,fb_new #[_,_] _ rfl,by simp⟩ ?_
    clear hHeld hbx hsn
    generalize Y5.heap.size=rn at *
    rintro Y29 hHeld ⟨hbx,hsn,z0,z1,hFB,hrn2⟩
    refine callC (i:=10) rfl (fun K hK=>?_)
    obtain⟨hx0,hx1,hx2,hx3,hx4,hx5,hx6,hx7,hx8,hx9,hx10,hx11,hx12,hx13,hx14,hx15⟩:=(id hHeld)
    clear hHeld
    obtain⟨⟨-,f0⟩,⟨-,f1⟩⟩:=And.intro (hFB 0 (by omega)) (hFB 1 (by omega))
    go_simp
    refine hK.out _ _ ⟨far_set (far_set hx0 _ _ (by dsimp only;omega)) _ _ (by dsimp only;omega),far_set (far_set hx1 _ _ (by dsimp only;omega)) _ _ (by dsimp only;omega),far_set (far_set hx2 _ _ (by dsimp only;omega)) _ _ (by dsimp only;omega),far_set (far_set hx3 _ _ (by dsimp only;omega)) _ _ (by dsimp only;omega),far_set (far_set hx4 _ _ (by dsimp only;omega)) _ _ (by dsimp only;omega),far_set (far_set hx5 _ _ (by dsimp only;omega)) _ _ (by dsimp only;omega),far_set (far_set hx6 _ _ (by dsimp only;omega)) _ _ (by dsimp only;omega),far_set (far_set hx7 _ _ (by dsimp only;omega)) _ _ (by dsimp only;omega),far_set (far_set hx8 _ _ (by dsimp only;omega)) _ _ (by dsimp only;omega),far_set (far_set hx9 _ _ (by dsimp only;omega)) _ _ (by dsimp only;omega),far_set (far_set hx10 _ _ (by dsimp only;omega)) _ _ (by dsimp only;omega),far_set (far_set hx11 _ _ (by dsimp only;omega)) _ _ (by dsimp only;omega),far_set (far_set hx12 _ _ (by dsimp only;omega)) _ _ (by dsimp only;omega),far_set (far_set hx13 _ _ (by dsimp only;omega)) _ _ (by dsimp only;omega),far_set (far_set hx14 _ _ (by dsimp only;omega)) _ _ (by dsimp only;omega),far_set (far_set hx15 _ _ (by dsimp only;omega)) _ _ (by dsimp only;omega)⟩ (fun hHeld2=>?_)
    replace hbx:=bl_set (bl_set hbx (a:=⟨rn,0,none⟩) hrn (.int .i64 ((roomOf room:Nat):Int))) (a:=⟨rn,1,none⟩) hrn (.slice a3 F3.length c3)
    replace hsn:=(hsn.set (rn:=rn) (.inr rfl) 0 (.int .i64 ((roomOf room:Nat):Int))).set (rn:=rn) (.inr rfl) 1 (.slice a3 F3.length c3)
    obtain⟨z0,z1⟩:=set2b (v0:=.int .i64 ((roomOf room:Nat):Int)) (v1:=.slice a3 F3.length c3) z0 z1
    clear hK K f0 f1 hx0 hx1 hx2 hx3 hx4 hx5 hx6 hx7 hx8 hx9 hx10 hx11 hx12 hx13 hx14 hx15
    have hHeld:=hHeld2
    clear hHeld2
    try simp only[Act.put,List.setIfInBounds_toArray,List.set_cons_zero,List.set_cons_succ]
    refine tkx 11 ?_
    refine wpAnyH_done (by kernel_rfl) ?_ _
    refine then_abs (F:=fun X=>Below X6.heap.size X6 X∧Sn X (A2 p3 (w3.heap.size) rn) L2 (.slice a3 F3.length c3) F3∧X.cell? ⟨rn,0,none⟩=some (.int .i64 ((roomOf room:Nat):Int))∧X.cell? ⟨rn,1,none⟩=some (.slice a3 F3.length c3)) ⟨hbx,hsn,z0,z1⟩ ?_
    clear hHeld hbx hsn z0 z1 hFB
    rintro W9 ⟨hbx,hsn,u0,u1⟩
   case' brB1 =>
    intro K hK
    obtain⟨hx0,hx1,hx2,hx3,hx4,hx5,hx6,hx7,hx8,hx9,hx10,hx11,hx12,hx13,hx14,hx15⟩:=(id hHeld)
    clear hHeld
    go_simp
    refine hK.out _ _ ⟨bl_cell (bl_alloc (bl_refl _) _) hx0,bl_cell (bl_alloc (bl_refl _) _) hx1,bl_cell (bl_alloc (bl_refl _) _) hx2,bl_cell (bl_alloc (bl_refl _) _) hx3,bl_cell (bl_alloc (bl_refl _) _) hx4,bl_cell (bl_alloc (bl_refl _) _) hx5,bl_cell (bl_alloc (bl_refl _) _) hx6,bl_cell (bl_alloc (bl_refl _) _) hx7,bl_cell (bl_alloc (bl_refl _) _) hx8,bl_cell (bl_alloc (bl_refl _) _) hx9,bl_cell (bl_alloc (bl_refl _) _) hx10,bl_cell (bl_alloc (bl_refl _) _) hx11,bl_cell (bl_alloc (bl_refl _) _) hx12,bl_cell (bl_alloc (bl_refl _) _) hx13,bl_cell (bl_alloc (bl_refl _) _) hx14,bl_cell (bl_alloc (bl_refl _) _) hx15⟩ (fun hHeld2=>?_)
    clear hK K hx0 hx1 hx2 hx3 hx4 hx5 hx6 hx7 hx8 hx9 hx10 hx11 hx12 hx13 hx14 hx15
    have hHeld:=hHeld2
    clear hHeld2
    try simp only[Act.put,List.setIfInBounds_toArray,List.set_cons_zero,List.set_cons_succ]
    have hrn:X6.heap.size≤Y0.heap.size:=hbx.size
    refine wpAnyH_abs (F:=fun X=>Below X6.heap.size X6 X∧X.cell? ⟨Y0.heap.size,0,none⟩=some (.int .i64 0)∧X.cell? ⟨Y0.heap.size,1,none⟩=some (.slice none 0 0)∧FB X Y0.heap.size 2∧Y0.heap.size<X.heap.size) hHeld ⟨bl_alloc hbx _,by simp,by simp,fb_new #[_,_] _ rfl,by simp⟩ ?_
    clear hHeld hbx
    generalize Y0.heap.size=rn at *
    rintro Y25 hHeld ⟨hbx,z0,z1,hFB,hrn2⟩
    refine callC (i:=5) rfl (fun K hK=>?_)
    obtain⟨hx0,hx1,hx2,hx3,hx4,hx5,hx6,hx7,hx8,hx9,hx10,hx11,hx12,hx13,hx14,hx15⟩:=(id hHeld)
    clear hHeld
    go_simp
    refine(HST2.out _ _ _ HSD3.out _ hbx rn hrn hrn2).mono ?_
    rintro e Y6 ⟨v3,F3,rfl,hsn,hb⟩
    obtain⟨a3,c3,rfl⟩:=cs_form hsn.row.1
    have HX:Hid ((fun X=>X.cell? ⟨xb,xo+j*14,none⟩=some (.int .i64 dk)∧X.cell? ⟨xb,xo+j*14+1,none⟩=some (.string KE)∧X.cell? ⟨xb,xo+j*14+2,none⟩=some (.int .i64 ek)∧X.cell? ⟨xb,xo+j*14+3,none⟩=some (.int .i64 el)∧X.cell? ⟨xb,xo+j*14+4,none⟩=some (.int .i64 ed)∧X.cell? ⟨xb,xo+j*14+5,none⟩=some (.int .i64 eb)∧X.cell? ⟨xb,xo+j*14+6,none⟩=some (.int .i64 ec)∧X.cell? ⟨xb,xo+j*14+7,none⟩=some (.bool eo)∧X.cell? ⟨xb,xo+j*14+8,none⟩=some (.int .i64 eat)∧X.cell? ⟨xb,xo+j*14+9,none⟩=some (.int .i64 elev)∧X.cell? ⟨xb,xo+j*14+10,none⟩=some (.int .i64 eheld)∧X.cell? ⟨xb,xo+j*14+11,none⟩=some (.slice ea en ecp)∧X.cell? ⟨xb,xo+j*14+12,none⟩=some (.int .i64 enow)∧X.cell? ⟨xb,xo+j*14+13,none⟩=some (.int .i64 ecost)∧X.cell? ⟨w3.heap.size,0,none⟩=some (.int .i64 ((roomOf room:Nat):Int))∧X.cell? ⟨w3.heap.size,1,none⟩=some (.slice ra Js.length rc)) Y6):=Go.Lib.hid ⟨bl_cell hb hx0,bl_cell hb hx1,bl_cell hb hx2,bl_cell hb hx3,bl_cell hb hx4,bl_cell hb hx5,bl_cell hb hx6,bl_cell hb hx7,bl_cell hb hx8,bl_cell hb hx9,bl_cell hb hx10,bl_cell hb hx11,bl_cell hb hx12,bl_cell hb hx13,bl_cell hb hx14,bl_cell hb hx15⟩
    replace hbx:=bl_then hbx hb
    replace z0:=bl_cell hb z0
    replace z1:=bl_cell hb z1
    replace hFB:=fb_bl hFB hb
    replace hrn2:=Nat.lt_of_lt_of_le hrn2 hb.size
    clear hb hx0 hx1 hx2 hx3 hx4 hx5 hx6 hx7 hx8 hx9 hx10 hx11 hx12 hx13 hx14 hx15
    have HSN:=Go.Lib.hid hsn
    have HBX:=Go.Lib.hid hbx
    clear hsn hbx
    go_wp2_with fail
    refine hK.out _ _ HX.out (fun hHeld2=>?_)
    clear hK K HX
    have hHeld:=hHeld2
    clear hHeld2
    have hsn:=HSN.out
    have hbx:=HBX.out
    clear HSN HBX
    try simp only[Act.put,List.setIfInBounds_toArray,List.set_cons_zero,List.set_cons_succ]
    refine tkx 6 ?_
    refine tkx 7 ?_
    refine tkx 8 ?_
    refine callC (i:=10) rfl (fun K hK=>?_)
    obtain⟨hx0,hx1,hx2,hx3,hx4,hx5,hx6,hx7,hx8,hx9,hx10,hx11,hx12,hx13,hx14,hx15⟩:=(id hHeld)
    clear hHeld
    obtain⟨⟨-,f0⟩,⟨-,f1⟩⟩:=And.intro (hFB 0 (by omega)) (hFB 1 (by omega))
    go_simp
    refine hK.out _ _ ⟨far_set (far_set hx0 _ _ (by dsimp only;omega)) _ _ (by dsimp only;omega),far_set (far_set hx1 _ _ (by dsimp only;omega)) _ _ (by dsimp only;omega),far_set (far_set hx2 _ _ (by dsimp only;omega)) _ _ (by dsimp only;omega),far_set (far_set hx3 _ _ (by dsimp only;omega)) _ _ (by dsimp only;omega),far_set (far_set hx4 _ _ (by dsimp only;omega)) _ _ (by dsimp only;omega),far_set (far_set hx5 _ _ (by dsimp only;omega)) _ _ (by dsimp only;omega),far_set (far_set hx6 _ _ (by dsimp only;omega)) _ _ (by dsimp only;omega),far_set (far_set hx7 _ _ (by dsimp only;omega)) _ _ (by dsimp only;omega),far_set (far_set hx8 _ _ (by dsimp only;omega)) _ _ (by dsimp only;omega),far_set (far_set hx9 _ _ (by dsimp only;omega)) _ _ (by dsimp only;omega),far_set (far_set hx10 _ _ (by dsimp only;omega)) _ _ (by dsimp only;omega),far_set (far_set hx11 _ _ (by dsimp only;omega)) _ _ (by dsimp only;omega),far_set (far_set hx12 _ _ (by dsimp only;omega)) _ _ (by dsimp only;omega),far_set (far_set hx13 _ _ (by dsimp only;omega)) _ _ (by dsimp only;omega),far_set (far_set hx14 _ _ (by dsimp only;omega)) _ _ (by dsimp only;omega),far_set (far_set hx15 _ _ (by dsimp only;omega)) _ _ (by dsimp only;omega)⟩ (fun hHeld2=>?_)
    replace hbx:=bl_set (bl_set hbx (a:=⟨rn,0,none⟩) hrn (.int .i64 ((roomOf room:Nat):Int))) (a:=⟨rn,1,none⟩) hrn (.slice a3 F3.length c3)
    replace hsn:=(hsn.set (rn:=rn) (.inr rfl) 0 (.int .i64 ((roomOf room:Nat):Int))).set (rn:=rn) (.inr rfl) 1 (.slice a3 F3.length c3)
    obtain⟨z0,z1⟩:=set2b (v0:=.int .i64 ((roomOf room:Nat):Int)) (v1:=.slice a3 F3.length c3) z0 z1
    clear hK K f0 f1 hx0 hx1 hx2 hx3 hx4 hx5 hx6 hx7 hx8 hx9 hx10 hx11 hx12 hx13 hx14 hx15
    have hHeld:=hHeld2
    clear hHeld2
    try simp only[Act.put,List.setIfInBounds_toArray,List.set_cons_zero,List.set_cons_succ]
    refine tkx 11 ?_
    refine wpAnyH_done (by kernel_rfl) ?_ _
    refine then_abs (F:=fun X=>Below X6.heap.size X6 X∧Sn X (A2 p3 (w3.heap.size) rn) L2 (.slice a3 F3.length c3) F3∧X.cell? ⟨rn,0,none⟩=some (.int .i64 ((roomOf room:Nat):Int))∧X.cell? ⟨rn,1,none⟩=some (.slice a3 F3.length c3)) ⟨hbx,hsn,z0,z1⟩ ?_
    clear hHeld hbx hsn z0 z1 hFB
    rintro W9 ⟨hbx,hsn,u0,u1⟩
   all_goals
    have hsd4:=HSD3.out.to hbx
    obtain⟨⟨-,tf0⟩,⟨-,tf1⟩⟩:=And.intro (hsd4.tR 0 (by omega)) (hsd4.tR 1 (by omega))
    have t0:=hsd4.t0
    have t1:=hsd4.t1
    have hsd5:=hsd4.put hsn (fun q hq => .inl hq)
    have HSD5:=Go.Lib.hid hsd5
    have HMAP:=Go.Lib.hid hsn.map
    clear hsd4 hsd5 hsn hbx HSD3
    go_wp2_with fail
    clear tf0 tf1 t0 t1 u0 u1
    go_roundw
    case rel=>exact⟨j+1,by go_num,hj1,⟨p3,nx3,.slice a3 F3.length c3,F3,HSD5.out⟩⟩
    case measure=>(simp[intOf];first|exact hms|omega)
  ·have hk1:¬ (j:Int)<(m:Int):=by omega
   have hj41:j≤40:=by omega
   go_wp2_with fail
   refine(sd_all hsd (by omega)).mono ?_
   rintro e w4 ⟨a5,N,c5,Ks,rfl,hN,hrk,hmk,-,hsk,hb⟩
   have hN4:N≤10000:=by have:=hsd.len;rw[List.length_map] at hN;omega
   have hsd4:=hsd.to hb
   have hNK:N=Ks.length:=by rw[hN,← hmk,List.length_map]
   have hap:=cells_apart hsd.cells
   have HSD4:=Go.Lib.hid hsd4
   have HROW:=Go.Lib.hid hsk.row
   have HOWN:=Go.Lib.hid hrk
   have HSK:=Go.Lib.hid hsk
   have HMK:=Go.Lib.hid hmk
   have HN:=Go.Lib.hid hNK
   have HAP:=Go.Lib.hid hap
   have HNJ:=Go.Lib.hid hN
   clear hsd hsd4 hrk hsk hmk hN hNK hap hb hjn hk1 hj
   have bbx0:=bl_cell HSD4.out.bl bx0
   have bbx1:=bl_cell HSD4.out.bl bx1
   have bbx2:=bl_cell HSD4.out.bl bx2
   have bbx3:=bl_cell HSD4.out.bl bx3
   have bbx4:=bl_cell HSD4.out.bl bx4
   have bbx5:=bl_cell HSD4.out.bl bx5
   have bbx6:=bl_cell HSD4.out.bl bx6
   have bbx7:=bl_cell HSD4.out.bl bx7
   have bbx8:=bl_cell HSD4.out.bl bx8
   have bbx9:=bl_cell HSD4.out.bl bx9
   have bbx10:=bl_cell HSD4.out.bl bx10
   go_wp2_with fail
   have hset:=HSET.out _ _ _ _ _ _ _ _ _ _ _ HSD4.out HB1.out.size (by omega) (bl_then HB1.out HSD4.out.bl)
   obtain⟨Z,hZ⟩:∃ Z,Z=cSet (roomOf room) (Js.map (·.x)) X now:=⟨_,rfl⟩
   have hsc:=set_cases (roomOf room) (Js.map (·.x)) X now
   have hsa:=set_arg (room:=roomOf room) (L:=Js.map (·.x)) (x:=X) (now:=now)
   have hso:=set_ok (room:=roomOf room) (L:=Js.map (·.x)) (x:=X) (now:=now) HAP.out
   have hsf:=set_full (room:=roomOf room) (L:=Js.map (·.x)) (x:=X) (now:=now)
   have hsl:=set_look (room:=roomOf room) (L:=Js.map (·.x)) (x:=X) (now:=now) HAP.out
   simp only[← hZ] at hset hsc hsa hso hsf hsl
   clear hZ
   obtain⟨L2,E⟩:=Z
   dsimp only at *
   refine hset.mono ?_
   rintro e w5 ⟨rfl,p3,nx3,hsd5,hmv⟩
   have hsk5:=HSK.out.moved hmv
   have HSD5:=Go.Lib.hid hsd5
   have HSK5:=Go.Lib.hid hsk5
   have hlw:w.heap.size<w1.heap.size:=by omega
   have cbx0:=only_cell hmv.1 bbx0 (HSD4.out.low _ hlw)
   have cbx1:=only_cell hmv.1 bbx1 (HSD4.out.low _ hlw)
   have cbx2:=only_cell hmv.1 bbx2 (HSD4.out.low _ hlw)
   have cbx3:=only_cell hmv.1 bbx3 (HSD4.out.low _ hlw)
   have cbx4:=only_cell hmv.1 bbx4 (HSD4.out.low _ hlw)
   have cbx5:=only_cell hmv.1 bbx5 (HSD4.out.low _ hlw)
   have cbx6:=only_cell hmv.1 bbx6 (HSD4.out.low _ hlw)
   have cbx7:=only_cell hmv.1 bbx7 (HSD4.out.low _ hlw)
   have cbx8:=only_cell hmv.1 bbx8 (HSD4.out.low _ hlw)
   have cbx9:=only_cell hmv.1 bbx9 (HSD4.out.low _ hlw)
   have cbx10:=only_cell hmv.1 bbx10 (HSD4.out.low _ hlw)
   clear bbx0 bbx1 bbx2 bbx3 bbx4 bbx5 bbx6 bbx7 bbx8 bbx9 bbx10 hset hmv hsd5 hsk5
   have hbw:=bl_then HB1.out HSD5.out.bl
   have HBW:=Go.Lib.hid hbw
   clear hbw
   rcases hsc with h0|h2|h5
   ·subst h0
    obtain⟨hrg,-⟩:=hso rfl
    have hsl2:=hsl rfl
    clear hsa hso hsf hsl
    obtain⟨RF,hRF⟩:∃ RF,RF=cFresh now X:=⟨_,rfl⟩
    have hfx:=HFX.out _ HBW.out
    rw[← hRF] at hfx hsl2
    clear hRF hrg
    go_wp2_with fail
    refine hfx.mono ?_
    rintro e w6 ⟨rfl,hb6⟩
    have hsd6:=HSD5.out.to hb6
    replace cbx0:=bl_cell hb6 cbx0
    replace cbx1:=bl_cell hb6 cbx1
    replace cbx2:=bl_cell hb6 cbx2
    replace cbx3:=bl_cell hb6 cbx3
    replace cbx4:=bl_cell hb6 cbx4
    replace cbx5:=bl_cell hb6 cbx5
    replace cbx6:=bl_cell hb6 cbx6
    replace cbx7:=bl_cell hb6 cbx7
    replace cbx8:=bl_cell hb6 cbx8
    replace cbx9:=bl_cell hb6 cbx9
    replace cbx10:=bl_cell hb6 cbx10
    have hlx:=HLX.out _ _ _ _ _ _ _ _ _ _ _ hsd6 (by omega)
    obtain⟨LS,hLS⟩:∃ z,z=cLook L2 X.key X.pol now:=⟨_,rfl⟩
    rw[← hLS] at hlx hsl2
    rw[HXST.out] at hsl2
    clear hLS hfx
    have HBW6:=Go.Lib.hid (bl_then HBW.out hb6)
    obtain⟨lat,llev,lheld,LLG⟩:=LS
    unfold St.v at *
    dsimp only at *
    have HSD6:=Go.Lib.hid hsd6
    have HLX2:=Go.Lib.hid hlx
    have HSL:=Go.Lib.hid hsl2
    clear hsd6 hb6 hlx hsl2
    go_wp2_with fail
    refine HLX2.out.mono ?_
    rintro e w7 ⟨a7,n7,c7,rfl,hlg7,hb7⟩
    replace cbx0:=bl_cell hb7 cbx0
    replace cbx1:=bl_cell hb7 cbx1
    replace cbx2:=bl_cell hb7 cbx2
    replace cbx3:=bl_cell hb7 cbx3
    replace cbx4:=bl_cell hb7 cbx4
    replace cbx5:=bl_cell hb7 cbx5
    replace cbx6:=bl_cell hb7 cbx6
    replace cbx7:=bl_cell hb7 cbx7
    replace cbx8:=bl_cell hb7 cbx8
    replace cbx9:=bl_cell hb7 cbx9
    replace cbx10:=bl_cell hb7 cbx10
    have HLG7:=Go.Lib.hid hlg7
    have HSD7:=Go.Lib.hid (HSD6.out.to hb7)
    have HBW7:=Go.Lib.hid (bl_then HBW6.out hb7)
    clear hlg7 hb7
    have lbx:=World.block_lt_of_cell? _ _ cbx0
    dsimp only at lbx
    cases RF
    ·go_wp2_with fail
     have hst:=HSL.out trivial
     injection hst with e1 e2 e3 e4
     subst e1 e2 e3 e4
     have hxl:=log_bl HXLG.out (bl_then HBW7.out (bl_alloc (bl_refl _) (.cells #[.int .i64 lat,.int .i64 llev,.int .i64 lheld,.slice a7 n7 c7] 26)))
     have hlg:=log_bl HLG7.out (bl_alloc (bl_refl _) (.cells #[.int .i64 lat,.int .i64 llev,.int .i64 lheld,.slice a7 n7 c7] 26))
     have hnn:n7=xn:=hlg.1.symm.trans hxl.1
     subst hnn
     refine(HSX.out _ _ _ hlg hxl).mono ?_
     rintro e w8 ⟨rfl,hb8⟩
     have hbx:=bl_then (bl_alloc (bl_refl w7) (.cells #[.int .i64 lat,.int .i64 llev,.int .i64 lheld,.slice a7 n7 c7] 26)) hb8
     have hsd8:=HSD7.out.to hbx
     have hle:=sd_len hsd8
     have hroom:(L2.length:Int)≤room:=by have h1:=(cells_room hsd8.cells).1;have h2:((roomOf room:Nat):Int)≤room:=by { unfold roomOf;omega };omega
     have HBW8:=Go.Lib.hid (bl_then HBW7.out hbx)
     have HLE:=Go.Lib.hid hle
     clear hsd8 hbx hle
     clear hxl hlg hb8
     go_wp2_with fail
     refine HLE.out.mono ?_
     rintro e w9 ⟨rfl,hb9⟩
     have HBW9:=Go.Lib.hid (bl_then HBW8.out hb9)
     clear hb9 HLE
     go_wp2_with fail
     refine(HKN.out _).mono ?_
     rintro e w10 ⟨rfl,hb10⟩
     have hB10:=bl_then HBW9.out hb10
     clear hb10
     go_wp2_with fail
     go_ret
     first|exact⟨rfl,hB10⟩|exact hB10
    ·go_wp2_with fail
     have hbx:=bl_alloc (bl_refl w7) (.cells #[.int .i64 lat,.int .i64 llev,.int .i64 lheld,.slice a7 n7 c7] 26)
     have hsd8:=HSD7.out.to hbx
     have hle:=sd_len hsd8
     have hroom:(L2.length:Int)≤room:=by have h1:=(cells_room hsd8.cells).1;have h2:((roomOf room:Nat):Int)≤room:=by { unfold roomOf;omega };omega
     have HBW8:=Go.Lib.hid (bl_then HBW7.out hbx)
     have HLE:=Go.Lib.hid hle
     clear hsd8 hbx hle
     refine HLE.out.mono ?_
     rintro e w9 ⟨rfl,hb9⟩
     have HBW9:=Go.Lib.hid (bl_then HBW8.out hb9)
     clear hb9 HLE
     go_wp2_with fail
     refine(HKN.out _).mono ?_
     rintro e w10 ⟨rfl,hb10⟩
     have hB10:=bl_then HBW9.out hb10
     clear hb10
     go_wp2_with fail
     go_ret
     first|exact⟨rfl,hB10⟩|exact hB10
   ·subst h2
    obtain⟨hrg,hL2⟩:=hsa rfl
    subst hL2
    have hrt:=HRT.out _ HBW.out
    rw[hrg] at hrt
    clear hsa hso hsf hsl hrg
    have HRT2:=Go.Lib.hid hrt
    clear hrt
    go_wp2_with fail
    refine HRT2.out.mono ?_
    rintro e w6 ⟨rfl,hb6⟩
    have HSD6:=Go.Lib.hid (HSD5.out.to hb6)
    have HSK6:=Go.Lib.hid (HSK5.out.to hb6)
    have HBW6:=Go.Lib.hid (bl_then HBW.out hb6)
    clear hb6
    go_wp2_with fail
    refine(sd_all HSD6.out (by omega)).mono ?_
    rintro e w8 ⟨a8,n8,c8,K8,rfl,hn8,hrk8,hmk8,-,-,hb8⟩
    have hsm:=rsame_yes (.slice a8 n8 c8) (.slice a5 N c5) w8 hrk8 (crow_bl HSK6.out.row hb8) (by rw[hmk8];exact HMK.out.symm) (by have:=congrArg List.length hmk8;rw[List.length_map] at this;have h2:=(cells_room HSD6.out.cells);omega)
    have HSM:=Go.Lib.hid hsm
    have HBW8:=Go.Lib.hid (bl_then HBW6.out hb8)
    clear hsm hrk8 hmk8 hb8 hn8
    go_wp2_with fail
    refine HSM.out.mono ?_
    rintro e w9 ⟨rfl,hb9⟩
    have HBW9:=Go.Lib.hid (bl_then HBW8.out hb9)
    clear hb9 HSM
    go_wp2_with fail
    refine(HKN.out _).mono ?_
    rintro e w10 ⟨rfl,hb10⟩
    have hB10:=bl_then HBW9.out hb10
    clear hb10
    go_wp2_with fail
    go_ret
    first|exact⟨rfl,hB10⟩|exact hB10
   ·subst h5
    obtain⟨-,hL2,hall,hful⟩:=hsf (by decide) (by decide)
    subst hL2
    clear hsa hso hsf hsl
    have HALL:=Go.Lib.hid hall
    have hNr:(N:Int)=room:=by have h1:=(cells_room HSD5.out.cells).1;rw[← HNJ.out] at h1 hful;have h2:((roomOf room:Nat):Int)=room:=by { unfold roomOf;omega };omega
    have hdk:KX.data.toList=X.key:=HXK.out
    clear hall hful
    clear cbx1
    clear cbx2
    clear cbx3
    clear cbx4
    clear cbx5
    clear cbx6
    clear cbx7
    clear cbx8
    clear cbx9
    clear cbx10
    go_wp2_with fail
    go_loopw [18] (fun s18 wq=>∃ k:Nat,s18=.int .i64 k∧k≤N∧Hid (Below w5.heap.size w5 wq)) (fun s18 _=>N - (intOf s18).toNat)
    case atStart=>exact⟨0,rfl,Nat.zero_le _,bl_refl _⟩
    case round =>
     obtain⟨k,rfl,hk,H⟩:=hrel
     have hB:=H.out
     clear H
     by_cases hkN:k<N
     ·obtain ⟨i,hik⟩:∃ i,Ks[k]?=some i:=⟨Ks[k]'(by rw[← HN.out];omega),List.getElem?_eq_getElem _⟩
      obtain⟨g,cap,e,rc0,rc1,rc2,rc3,rc4,rc5,rc6,rc7,rc8,rc9,rc10⟩:=crow_at (crow_bl HSK5.out.row hB) hik
      injection e with e1 e2 e3
      subst e1 e3
      have k0:(0:Int)≤(k:Int):=by omega
      have k1:(k:Int)<(N:Int):=by omega
      have HIK:=Go.Lib.hid hik
      clear hik e2
      have hms2:N - (k+1)<N - k:=by omega
      have hlog:=(crow_bl HSK5.out.row hB).2 i (List.mem_of_getElem? HIK.out)
      have hfr:=fun W hW=>rfresh_any i.x i.a i.n i.c now W hW
      obtain⟨q1,q2,q3⟩:=HALL.out i.x (by rw[← HMK.out];exact List.mem_map.2 ⟨i,List.mem_of_getElem? HIK.out,rfl⟩)
      rw[q1] at hfr
      have hop:cOpen i.x=(i.x.pol.opn && decide (i.x.st.held=0)):=rfl
      rw[hop] at q2
      have hkey:=ktx_eq i.x.key KX
      rw[hdk,decide_eq_false q3] at hkey
      clear q1 q3 hop
      obtain⟨⟨key,⟨kk,l,d,b,cc,o⟩,⟨at_,level,held,LG⟩⟩,a,n,c⟩:=i
      unfold Cl.v at *
      dsimp only at *
      generalize ktx key=KY at *
      have HFR:=Go.Lib.hid hfr
      clear hfr
      have cbx0:=bl_cell hB cbx0
      have hcase:(o=true∧¬ held=0)∨o=false:=by cases o <;> simp at q2 <;> simp[q2]
      clear q2
      have hBW:=bl_then HBW.out hB
      rcases hcase with⟨rfl,hh⟩|rfl
      ·have hhd:=decide_eq_false hh
       go_wp2_with fail
       have hbw:=hB
       replace hB:=hBW
       clear hBW
       refine wp_region_held_drew (S:=fun w'=>LogAt w' a n c LG∧w'.cell? ⟨w.heap.size,0,none⟩=some (.string KX)∧Below w5.heap.size w5 w'∧w'.cell? ⟨g,k*11,none⟩=some (.string KY)∧w'.cell? ⟨g,k*11+1,none⟩=some (.int .i64 kk)∧w'.cell? ⟨g,k*11+2,none⟩=some (.int .i64 l)∧w'.cell? ⟨g,k*11+3,none⟩=some (.int .i64 d)∧w'.cell? ⟨g,k*11+4,none⟩=some (.int .i64 b)∧w'.cell? ⟨g,k*11+5,none⟩=some (.int .i64 cc)∧w'.cell? ⟨g,k*11+6,none⟩=some (.bool true)∧w'.cell? ⟨g,k*11+7,none⟩=some (.int .i64 at_)∧w'.cell? ⟨g,k*11+8,none⟩=some (.int .i64 level)∧w'.cell? ⟨g,k*11+9,none⟩=some (.int .i64 held)∧w'.cell? ⟨g,k*11+10,none⟩=some (.slice a n c)∧Below w.heap.size w w') (by kernel_rfl) ?_ (fun hHeld=>?_)
       ·exact⟨(log_bl hlog (bl_drew (bl_refl _))),cbx0,(bl_drew hbw),rc0,rc1,rc2,rc3,rc4,rc5,rc6,rc7,rc8,rc9,rc10,bl_drew hB⟩
       try simp only[Act.put,List.setIfInBounds_toArray,List.set_cons_zero,List.set_cons_succ]
       refine tkx 0 ?_
       refine tkx 1 ?_
       refine tkx 2 ?_
       refine tkx 3 ?_
       refine tkx 4 ?_
       (refine callC (i:=5) rfl (fun K hK=>?_);obtain⟨h_hlog,h_cbx0,h_hbw,h_rc0,h_rc1,h_rc2,h_rc3,h_rc4,h_rc5,h_rc6,h_rc7,h_rc8,h_rc9,h_rc10,h_B⟩:=(id hHeld);go_simp;refine(HFR.out _ h_hlog).mono ?_;rintro e w9 ⟨rfl,hb⟩;go_wp2_with fail;refine hK.out _ _ ?_ (fun hHeld2=>?_);(focus((try dsimp only);exact⟨log_bl h_hlog hb,bl_cell hb h_cbx0,bl_then h_hbw hb,bl_cell hb h_rc0,bl_cell hb h_rc1,bl_cell hb h_rc2,bl_cell hb h_rc3,bl_cell hb h_rc4,bl_cell hb h_rc5,bl_cell hb h_rc6,bl_cell hb h_rc7,bl_cell hb h_rc8,bl_cell hb h_rc9,bl_cell hb h_rc10,bl_then h_B hb⟩));clear hHeld hK K;have hHeld:=hHeld2;clear hHeld2 h_hlog h_cbx0 h_hbw h_rc0 h_rc1 h_rc2 h_rc3 h_rc4 h_rc5 h_rc6 h_rc7 h_rc8 h_rc9 h_rc10 h_B;try simp only[Act.put,List.setIfInBounds_toArray,List.set_cons_zero,List.set_cons_succ])
       refine tkx 6 ?_
       first|refine tqx 7 ?_|refine tkx 7 ?_
       first|refine tqx 8 ?_|refine tkx 8 ?_
       first|refine tqx 9 ?_|refine tkx 9 ?_
       first|refine tqx 10 ?_|refine tkx 10 ?_
       first|refine tqx 11 ?_|refine tkx 11 ?_
       first|refine tqx 12 ?_|refine tkx 12 ?_
       first|refine tqx 13 ?_|refine tkx 13 ?_
       first|refine tqx 14 ?_|refine tkx 14 ?_
       first|refine tqx 15 ?_|refine tkx 15 ?_
       first|refine tqx 16 ?_|refine tkx 16 ?_
       first|refine tqx 17 ?_|refine tkx 17 ?_
       first|refine tqx 18 ?_|refine tkx 18 ?_
       first|refine tqx 19 ?_|refine tkx 19 ?_
       (refine tk (i:=20) (v:=.bool false) rfl rfl hHeld ?_ (by intro w hSw;(try dsimp only at hSw);go_simp <;> simp[hh]))
       first|refine tqx 21 ?_|refine tkx 21 ?_
       refine tkx 22 ?_
       refine tkx 23 ?_
       first|refine tqx 24 ?_|refine tkx 24 ?_
       first|refine tqx 25 ?_|refine tkx 25 ?_
       first|refine tqx 26 ?_|refine tkx 26 ?_
       first|refine tqx 27 ?_|refine tkx 27 ?_
       first|refine tqx 28 ?_|refine tkx 28 ?_
       first|refine tqx 29 ?_|refine tkx 29 ?_
       first|refine tqx 30 ?_|refine tkx 30 ?_
       first|refine tqx 31 ?_|refine tkx 31 ?_
       refine tkx 32 ?_
       refine wpAnyH_done (by kernel_rfl) ?_ _
       refine then_abs (F:=fun w'=>LogAt w' a n c LG∧w'.cell? ⟨w.heap.size,0,none⟩=some (.string KX)∧Below w5.heap.size w5 w'∧w'.cell? ⟨g,k*11,none⟩=some (.string KY)∧w'.cell? ⟨g,k*11+1,none⟩=some (.int .i64 kk)∧w'.cell? ⟨g,k*11+2,none⟩=some (.int .i64 l)∧w'.cell? ⟨g,k*11+3,none⟩=some (.int .i64 d)∧w'.cell? ⟨g,k*11+4,none⟩=some (.int .i64 b)∧w'.cell? ⟨g,k*11+5,none⟩=some (.int .i64 cc)∧w'.cell? ⟨g,k*11+6,none⟩=some (.bool true)∧w'.cell? ⟨g,k*11+7,none⟩=some (.int .i64 at_)∧w'.cell? ⟨g,k*11+8,none⟩=some (.int .i64 level)∧w'.cell? ⟨g,k*11+9,none⟩=some (.int .i64 held)∧w'.cell? ⟨g,k*11+10,none⟩=some (.slice a n c)∧Below w.heap.size w w') hHeld ?_
       clear hHeld hB hlog cbx0 hbw rc0 rc1 rc2 rc3 rc4 rc5 rc6 rc7 rc8 rc9 rc10
       rintro w61 ⟨hlog,cbx0,hbw,rc0,rc1,rc2,rc3,rc4,rc5,rc6,rc7,rc8,rc9,rc10,hB⟩
       have lb_cbx:=lbc cbx0
       have lb_rc:=lbc rc0
       have lb_rc1:=lbc rc10
       go_wp2_with fail
       go_roundw
       case rel=>exact⟨k+1,by go_num,by omega,hbw⟩
       case measure=>(simp[intOf];first|exact hms2|omega)
      ·go_wp2_with fail
       have hbw:=hB
       replace hB:=hBW
       clear hBW
       refine wp_region_held_drew (S:=fun w'=>LogAt w' a n c LG∧w'.cell? ⟨w.heap.size,0,none⟩=some (.string KX)∧Below w5.heap.size w5 w'∧w'.cell? ⟨g,k*11,none⟩=some (.string KY)∧w'.cell? ⟨g,k*11+1,none⟩=some (.int .i64 kk)∧w'.cell? ⟨g,k*11+2,none⟩=some (.int .i64 l)∧w'.cell? ⟨g,k*11+3,none⟩=some (.int .i64 d)∧w'.cell? ⟨g,k*11+4,none⟩=some (.int .i64 b)∧w'.cell? ⟨g,k*11+5,none⟩=some (.int .i64 cc)∧w'.cell? ⟨g,k*11+6,none⟩=some (.bool false)∧w'.cell? ⟨g,k*11+7,none⟩=some (.int .i64 at_)∧w'.cell? ⟨g,k*11+8,none⟩=some (.int .i64 level)∧w'.cell? ⟨g,k*11+9,none⟩=some (.int .i64 held)∧w'.cell? ⟨g,k*11+10,none⟩=some (.slice a n c)∧Below w.heap.size w w') (by kernel_rfl) ?_ (fun hHeld=>?_)
       ·exact⟨(log_bl hlog (bl_drew (bl_refl _))),cbx0,(bl_drew hbw),rc0,rc1,rc2,rc3,rc4,rc5,rc6,rc7,rc8,rc9,rc10,bl_drew hB⟩
       try simp only[Act.put,List.setIfInBounds_toArray,List.set_cons_zero,List.set_cons_succ]
       refine tkx 0 ?_
       refine tkx 1 ?_
       refine tkx 2 ?_
       refine tkx 3 ?_
       refine tkx 4 ?_
       (refine callC (i:=5) rfl (fun K hK=>?_);obtain⟨h_hlog,h_cbx0,h_hbw,h_rc0,h_rc1,h_rc2,h_rc3,h_rc4,h_rc5,h_rc6,h_rc7,h_rc8,h_rc9,h_rc10,h_B⟩:=(id hHeld);go_simp;refine(HFR.out _ h_hlog).mono ?_;rintro e w9 ⟨rfl,hb⟩;go_wp2_with fail;refine hK.out _ _ ?_ (fun hHeld2=>?_);(focus((try dsimp only);exact⟨log_bl h_hlog hb,bl_cell hb h_cbx0,bl_then h_hbw hb,bl_cell hb h_rc0,bl_cell hb h_rc1,bl_cell hb h_rc2,bl_cell hb h_rc3,bl_cell hb h_rc4,bl_cell hb h_rc5,bl_cell hb h_rc6,bl_cell hb h_rc7,bl_cell hb h_rc8,bl_cell hb h_rc9,bl_cell hb h_rc10,bl_then h_B hb⟩));clear hHeld hK K;have hHeld:=hHeld2;clear hHeld2 h_hlog h_cbx0 h_hbw h_rc0 h_rc1 h_rc2 h_rc3 h_rc4 h_rc5 h_rc6 h_rc7 h_rc8 h_rc9 h_rc10 h_B;try simp only[Act.put,List.setIfInBounds_toArray,List.set_cons_zero,List.set_cons_succ])
       refine tkx 6 ?_
       first|refine tqx 7 ?_|refine tkx 7 ?_
       first|refine tqx 8 ?_|refine tkx 8 ?_
       first|refine tqx 9 ?_|refine tkx 9 ?_
       first|refine tqx 10 ?_|refine tkx 10 ?_
       first|refine tqx 11 ?_|refine tkx 11 ?_
       first|refine tqx 12 ?_|refine tkx 12 ?_
       first|refine tqx 13 ?_|refine tkx 13 ?_
       first|refine tqx 14 ?_|refine tkx 14 ?_
       first|refine tqx 15 ?_|refine tkx 15 ?_
       first|refine tqx 16 ?_|refine tkx 16 ?_
       first|refine tqx 17 ?_|refine tkx 17 ?_
       first|refine tqx 18 ?_|refine tkx 18 ?_
       first|refine tqx 19 ?_|refine tkx 19 ?_
       first|refine tqx 20 ?_|refine tkx 20 ?_
       first|refine tqx 21 ?_|refine tkx 21 ?_
       refine tkx 22 ?_
       refine tkx 23 ?_
       first|refine tqx 24 ?_|refine tkx 24 ?_
       first|refine tqx 25 ?_|refine tkx 25 ?_
       first|refine tqx 26 ?_|refine tkx 26 ?_
       first|refine tqx 27 ?_|refine tkx 27 ?_
       first|refine tqx 28 ?_|refine tkx 28 ?_
       first|refine tqx 29 ?_|refine tkx 29 ?_
       first|refine tqx 30 ?_|refine tkx 30 ?_
       first|refine tqx 31 ?_|refine tkx 31 ?_
       refine tkx 32 ?_
       refine wpAnyH_done (by kernel_rfl) ?_ _
       refine then_abs (F:=fun w'=>LogAt w' a n c LG∧w'.cell? ⟨w.heap.size,0,none⟩=some (.string KX)∧Below w5.heap.size w5 w'∧w'.cell? ⟨g,k*11,none⟩=some (.string KY)∧w'.cell? ⟨g,k*11+1,none⟩=some (.int .i64 kk)∧w'.cell? ⟨g,k*11+2,none⟩=some (.int .i64 l)∧w'.cell? ⟨g,k*11+3,none⟩=some (.int .i64 d)∧w'.cell? ⟨g,k*11+4,none⟩=some (.int .i64 b)∧w'.cell? ⟨g,k*11+5,none⟩=some (.int .i64 cc)∧w'.cell? ⟨g,k*11+6,none⟩=some (.bool false)∧w'.cell? ⟨g,k*11+7,none⟩=some (.int .i64 at_)∧w'.cell? ⟨g,k*11+8,none⟩=some (.int .i64 level)∧w'.cell? ⟨g,k*11+9,none⟩=some (.int .i64 held)∧w'.cell? ⟨g,k*11+10,none⟩=some (.slice a n c)∧Below w.heap.size w w') hHeld ?_
       clear hHeld hB hlog cbx0 hbw rc0 rc1 rc2 rc3 rc4 rc5 rc6 rc7 rc8 rc9 rc10
       rintro w71 ⟨hlog,cbx0,hbw,rc0,rc1,rc2,rc3,rc4,rc5,rc6,rc7,rc8,rc9,rc10,hB⟩
       have lb_cbx:=lbc cbx0
       have lb_rc:=lbc rc0
       have lb_rc1:=lbc rc10
       go_wp2_with fail
       go_roundw
       case rel=>exact⟨k+1,by go_num,by omega,hbw⟩
       case measure=>(simp[intOf];first|exact hms2|omega)
     ·have hkk:k=N:=by omega
      subst hkk
      have hkN2:¬ (k:Int)<(k:Int):=by omega
      have HSD6:=Go.Lib.hid (HSD5.out.to hB)
      have HSK6:=Go.Lib.hid (HSK5.out.to hB)
      have HBW6:=Go.Lib.hid (bl_then HBW.out hB)
      clear hB
      go_wp2_with fail
      refine(sd_all HSD6.out (by omega)).mono ?_
      rintro e w8 ⟨a8,n8,c8,K8,rfl,hn8,hrk8,hmk8,-,-,hb8⟩
      have hsm:=rsame_yes (.slice a8 n8 c8) (.slice a5 k c5) w8 hrk8 (crow_bl HSK6.out.row hb8) (by rw[hmk8];exact HMK.out.symm) (by have:=congrArg List.length hmk8;rw[List.length_map] at this;have h2:=(cells_room HSD6.out.cells);omega)
      have HSM:=Go.Lib.hid hsm
      have HBW8:=Go.Lib.hid (bl_then HBW6.out hb8)
      clear hsm hrk8 hmk8 hb8 hn8
      go_wp2_with fail
      refine HSM.out.mono ?_
      rintro e w9 ⟨rfl,hb9⟩
      have HBW9:=Go.Lib.hid (bl_then HBW8.out hb9)
      clear hb9 HSM
      go_wp2_with fail
      refine(HKN.out _).mono ?_
      rintro e w10 ⟨rfl,hb10⟩
      have hB10:=bl_then HBW9.out hb10
      clear hb10
      go_wp2_with fail
      go_ret
      first|exact⟨rfl,hB10⟩|exact hB10
theorem cfull_row (room:Int) (la:Option Addr) (m lc:Nat) (ds:Nat→CD) (x:Cl) (xa:Option Addr) (xn xc:Nat) (now:Int) (w:World) (hr0:0≤room) (hr1:room≤255) (hA:CDosIn w la m ds) (hX:CellIn w x xa xn xc):Calls Tryz.prog 10 #[.int .u8 room,.slice la m lc,x.v xa xn xc,.int .i64 now] w fun e w'=>e=.returned (.bool true)∧Below w.heap.size w w':=by
 by_cases hm:(40:Int)<m
 ·exact cfull_long room la m lc ds x xa xn xc now w hr0 hr1 hA hX hm
 ·exact cfull_run room la m lc ds x xa xn xc now w hr0 hr1 hA hX hm
theorem cfull_walk (room:Int) (la:Option Addr) (m lc:Nat) (ds:Nat→CD) (x:Cl) (xa:Option Addr) (xn xc:Nat) (now:Int) (w:World) (hr0:0≤room) (hr1:room≤255) (hA:CDosIn w la m ds) (hX:CellIn w x xa xn xc) (_ : -9223372036854775808≤now) (_:now≤9223372036854775807):Calls Tryz.prog 10 #[.int .u8 room,.slice la m lc,x.v xa xn xc,.int .i64 now] w fun e w'=>e=.returned (.bool true)∧Below w.heap.size w w':=cfull_row room la m lc ds x xa xn xc now w hr0 hr1 hA hX
end Go.Proofs.YtmhikkbdhboodaaGreat

namespace Go.Proofs.YtmhikkbdhboodaaGreat.cellsFull
open Go.ChangeShapes Go.WideShapes Go.ChangeAt Go.RowKit
open Go.ChangeMaps (open_string shut_string)
set_option linter.unusedVariables false
set_option linter.unusedSimpArgs false

theorem own:ownKnob Tryz.prog.godebug=none:=by kernel_rfl
theorem laidOut:laidOutB Tryz.prog=true:=by kernel_rfl

set_option maxHeartbeats 1000000 in
set_option maxRecDepth 100000 in
theorem lifted (os:Os) (started:os.Started) (H:Type) (enc:TypeId × Value→H) :
  ReturnsInHanded {} Tryz.checked os 10 .any (Rows.cellsFullSpec.pre6 enc Tryz.prog Tryz.f10 Rows.cellsFullRow.domain false) (Rows.cellsFullSpec.post enc Tryz.prog Tryz.f10 false true false false):=by
 refine returnsInHanded_of_change (C:=Tryz.checked) own started (by kernel_rfl) Tryz.func10
  (ChangeSpec.witness6 (enc:=enc) (C:=Tryz.checked) false ⟨#[],#[.int .u8 0,.slice none 0 0,.agg #[.string ByteArray.empty,.int .i64 0,.int .i64 0,.int .i64 0,.int .i64 0,.int .i64 0,.bool false,.int .i64 0,.int .i64 0,.int .i64 0,.slice none 0 0],.int .i64 0],[]⟩ 8 (by kernel_rfl) (by kernel_rfl) (by kernel_rfl) (by kernel_rfl)) ?_
 intro W base args ds gs before hval0 hW hcnd _
 have hval:∀ (j:Nat) t v,Tryz.f10.params[j]?=some t→args[j]?=some v→Value.okWide Tryz.prog W .any base t v:=hval0
 have hW':=hW
 obtain⟨p,q,hA0,hV,rfl,hfz,hnd⟩:=hW
 have hA:DataW.TrodAll enc Tryz.prog W 0 (fun _=>true) true Tryz.f10.params.toList args.toList ds p:=hA0
 rw[Tryz.params10] at hA hval
 obtain⟨v0,vs0,d0,ds0',p0,q0,hargs,rfl,rfl,h0,r0⟩:=trodAll_cons hA
 obtain⟨v1,vs1,d1,ds1',p1,q1,rfl,rfl,rfl,h1,r1⟩:=trodAll_cons r0
 obtain⟨v2,vs2,d2,ds2',p2,q2,rfl,rfl,rfl,h2,r2⟩:=trodAll_cons r1
 obtain⟨v3,vs3,d3,ds3',p3,q3,rfl,rfl,rfl,h3,r3⟩:=trodAll_cons r2
 obtain⟨rfl,rfl,rfl⟩:=trodAll_nil r3
 obtain rfl:args = #[v0,v1,v2,v3]:=by cases args;simp_all
 obtain⟨rfl,rfl⟩:=trodVars_none hV
 obtain⟨a0,rfl,rfl,rfl,w0⟩:=open_int Tryz.underlying5 (hval 0 5 v0 rfl rfl) h0
 have b0l:0≤a0:=by have h:=w0;simp only[Lit.wf,Bool.and_eq_true,decide_eq_true_eq] at h;exact h.1
 have b0h:a0≤255:=by have h:=w0;simp only[Lit.wf,Bool.and_eq_true,decide_eq_true_eq] at h;exact h.2
 obtain⟨a1,len1,cap1,rfl⟩:=okWide_slice Tryz.underlying49 (hval 1 49 v1 rfl rfl)
 have k1:=h1
 have lt1:∀ x ∈ p1,x.block<W.heap.size:=by obtain⟨m,hm⟩:=k1;exact DataW.trod_lt m _ _ _ hm
 obtain⟨ds1,w1⟩:∃ ds,CDosIn W a1 len1 ds:=by obtain⟨fuel,hf⟩:=h1;exact open_cds (by simpa [Value.cells] using hf)
 have k2:=h2
 have lt2:∀ x ∈ p2,x.block<W.heap.size:=by obtain⟨m,hm⟩:=k2;exact DataW.trod_lt m _ _ _ hm
 obtain⟨ds2,a2,len2,cap2,rfl,w2⟩:=open_cell (hval 2 59 v2 rfl rfl) h2
 obtain⟨a3,rfl,rfl,rfl,w3⟩:=open_int Tryz.underlying3 (hval 3 3 v3 rfl rfl) h3
 have b3l : -9223372036854775808≤a3:=by have h:=w3;simp only[Lit.wf,Bool.and_eq_true,decide_eq_true_eq] at h;exact h.1
 have b3h:a3≤9223372036854775807:=by have h:=w3;simp only[Lit.wf,Bool.and_eq_true,decide_eq_true_eq] at h;exact h.2
 clear hA0 hval0
 refine(cfull_walk a0 a1 len1 cap1 ds1 ds2 a2 len2 cap2 a3 W b0l b0h w1 w2 b3l b3h).mono fun e W' ⟨he,bel⟩=>?_
 subst he
 exact⟨_,rfl,_,_,_,[],_,[],hW',trodAll_mk1 (shut_bool Tryz.underlying4 _),(trodAll_cons_mk (shut_int Tryz.underlying5 w0) (trodAll_cons_mk (Below.trod laidOut (by kernel_rfl) (of_decide_eq_true (by kernel_rfl)) k1 bel lt1) (trodAll_cons_mk (Below.trod laidOut (by kernel_rfl) (of_decide_eq_true (by kernel_rfl)) k2 bel lt2) (trodAll_cons_mk (shut_int Tryz.underlying3 w3) trodAll_mk0)))),rfl,bel.frame _,fun h=>by cases h⟩

theorem over:Rows.cellsFullRow.holds Tryz.pinned (OpenSpec.ofChange Rows.cellsFullSpec) :=
 OpenClaim.holds_of_wide 10 Tryz.f10 rfl rfl rfl rfl rfl rfl rfl ⟨rfl,rfl,rfl,rfl,rfl⟩ rfl rfl rfl rfl rfl (by kernel_rfl) Tryz.func10 (by kernel_rfl)
  (of_decide_eq_true (by kernel_rfl)) (by unfold Func.isWrapper;first|(rw[if_pos (by decide +kernel)];kernel_rfl)|(rw[if_neg (by decide +kernel)];exact⟨rfl,rfl⟩))
  (fun os started H enc _=>lifted os started H enc)

/-- The statement. -/
theorem proved:Rows.CellsFullSaid:=over
end Go.Proofs.YtmhikkbdhboodaaGreat.cellsFull
