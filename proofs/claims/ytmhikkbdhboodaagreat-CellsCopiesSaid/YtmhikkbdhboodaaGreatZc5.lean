/-
  Cells in memory: their box, their table, their map.
  What cells' small functions answer: a cell copied, a cell as new, how many.
  What cells' Len and drop do.
  What cells' New makes.
  What limiter.Most answers.
  What cells' Look answers.
  What cells' Look answers.
  What the two questions of spare answer; the oldest key, the next.
  What cells' oldest answers.
  What cells' spare does.
  What cells' Set does.
  No condition.
-/
import Derived.Test.YtmhikkbdhboodaaGreatZc1
import Derived.Test.YtmhikkbdhboodaaGreatZc2
import Derived.Test.YtmhikkbdhboodaaGreatZc3
import Derived.Test.YtmhikkbdhboodaaGreatZc4
set_option maxHeartbeats 8000000
set_option maxRecDepth 100000
namespace Go.Proofs.YtmhikkbdhboodaaGreat
open Go.RowKit Go.Maps
set_option linter.unusedVariables false
set_option linter.unusedSimpArgs false

def Cl.v (x:Cl) (a:Option Addr) (n c:Nat):Value:=.agg #[.string (ktx x.key),.int .i64 x.pol.kind,.int .i64 x.pol.limit,.int .i64 x.pol.period,.int .i64 x.pol.burst,.int .i64 x.pol.cap,.bool x.pol.opn,.int .i64 x.st.at_,.int .i64 x.st.level,.int .i64 x.st.held,.slice a n c]
/-- A cell as it lies: its number, its log. -/
structure CI where
 v:Int
 x:Cl
 a:Option Addr
 n:Nat
 c:Nat
def CI.val (i:CI):Value:=i.x.v i.a i.n i.c
def CI.kv (i:CI):Key × Int:=(i.x.key,i.v)
structure CsP where
 b:Nat
 tp:TbP
 mb:Nat
def CF (p:CsP) (q:Nat):Prop:=q=p.b∨q=p.mb∨TF p.tp q
theorem log_only {F:Nat→Prop} {w w':World} {a:Option Addr} {n c:Nat} {L:List (Int × Int)} (h:LogAt w a n c L) (ho:Only F w w') (hf:∀ ad,a=some ad→n≠0→¬ F ad.block):LogAt w' a n c L :=
 ⟨h.1,h.2.1,h.2.2.1,fun i hi=>by
  obtain⟨b,off,e,h1,h2⟩:=h.2.2.2 i hi
  have:=hf _ e (by omega)
  exact⟨b,off,e,only_cell ho h1 this,only_cell ho h2 this⟩⟩
theorem clog_lt {w:World} {a:Option Addr} {n c:Nat} {L:List (Int × Int)} (h:LogAt w a n c L):∀ ad,a=some ad→n≠0→ad.block<w.heap.size:=fun ad e hn=>by
 obtain⟨b,off,e2,h1,-⟩:=h.2.2.2 0 (by omega)
 rw[e] at e2
 injection e2 with e2
 subst e2
 exact World.block_lt_of_cell? w _ h1
/-- The box, and the map. -/
structure CsM (w:World) (p:CsP) (room nx:Nat) (m:List (Int × Value)):Prop where
 c0:w.cell? ⟨p.b,0,none⟩=some (.int .i64 room)
 c1:w.cell? ⟨p.b,1,none⟩=some (.pointer (some ⟨p.tp.b,0,none⟩))
 c2:w.cell? ⟨p.b,2,none⟩=some (.map (some p.mb))
 c3:w.cell? ⟨p.b,3,none⟩=some (.int .i64 nx)
 fz:∀ i,i<4→w.frozen? ⟨p.b,i,none⟩=false
 mp:IMap Tryz.prog w 3 p.mb id m
 bt:¬ TF p.tp p.b
 mt:¬ TF p.tp p.mb
 bm:p.b≠p.mb
/-- One cell as it lies. -/
structure CiAt (w:World) (p:CsP) (nx:Nat) (m:List (Int × Value)) (i:CI):Prop where
 get:iGet i.v m=some i.val
 log:LogAt w i.a i.n i.c i.x.st.log
 far:∀ ad,i.a=some ad→i.n≠0→¬ CF p ad.block
 lo:0<i.v
 hi:i.v≤nx
 right:rightP i.x.pol i.x.st=true
/-- Cells in memory, as they lie. -/
structure CsI (w:World) (p:CsP) (room nx:Nat) (m:List (Int × Value)) (I:List CI):Prop where
 mm:CsM w p room nx m
 tb:TabL w p.tp room (I.map CI.kv)
 ci:∀ i ∈ I,CiAt w p nx m i
 nd:(I.map (·.v)).Nodup
 len:m.length=I.length
def CsAt (w:World) (p:CsP) (room nx:Nat) (I:List CI):Prop:=∃ m,CsI w p room nx m I
/-- Cells in memory. -/
def CellsAt (w:World) (p:CsP) (room nx:Nat) (L:List Cl):Prop:=∃ I,CsAt w p room nx I∧I.map (·.x)=L
variable {w w':World} {p p':CsP} {room nx nx':Nat} {m m':List (Int × Value)} {I:List CI}
theorem CsM.lt (h:CsM w p room nx m):p.b<w.heap.size∧p.mb<w.heap.size:=⟨World.block_lt_of_cell? w _ h.c0,imap_lt h.mp⟩
theorem CsM.frame (h:CsM w p room nx m) (hb:w'.heap[p.b]?=w.heap[p.b]?) (hm:w'.heap[p.mb]?=w.heap[p.mb]?):CsM w' p room nx m:=by
 have hc:∀ i u,w.cell? ⟨p.b,i,none⟩=some u→w'.cell? ⟨p.b,i,none⟩=some u:=fun i u hu=>by rw[World.cell?_of_block hb];exact hu
 exact⟨hc _ _ h.c0,hc _ _ h.c1,hc _ _ h.c2,hc _ _ h.c3,fun i hi=>by rw[World.frozen?_of_block hb];exact h.fz i hi,imap_frame h.mp hm,h.bt,h.mt,h.bm⟩
theorem CsI.lt (h:CsI w p room nx m I):∀ q,CF p q→q<w.heap.size:=fun q hq=>by
 rcases hq with rfl|rfl|hq
 ·exact h.mm.lt.1
 ·exact h.mm.lt.2
 ·exact h.tb.lt q hq
theorem CsI.bl (h:CsI w p room nx m I) (hb:Below w.heap.size w w'):CsI w' p room nx m I :=
 ⟨h.mm.frame (hb.block _ h.mm.lt.1) (hb.block _ h.mm.lt.2),tabl_bl h.tb hb,fun i hi => { h.ci i hi with log:=log_bl (h.ci i hi).log hb },h.nd,h.len⟩
theorem csat_bl (h:CsAt w p room nx I) (hb:Below w.heap.size w w'):CsAt w' p room nx I:=by
 obtain⟨m,h⟩:=h
 exact⟨m,h.bl hb⟩
theorem CsAt.lt (h:CsAt w p room nx I):∀ q,CF p q→q<w.heap.size:=by
 obtain⟨m,h⟩:=h
 exact h.lt
theorem cells_bl {L:List Cl} (h:CellsAt w p room nx L) (hb:Below w.heap.size w w'):CellsAt w' p room nx L:=by
 obtain⟨I,h,e⟩:=h
 exact⟨I,csat_bl h hb,e⟩
theorem cells_lt {L:List Cl} (h:CellsAt w p room nx L):∀ q,CF p q→q<w.heap.size:=by
 obtain⟨I,h,e⟩:=h
 exact h.lt
theorem CsI.keys (h:CsI w p room nx m I):Apart (I.map (·.x)):=by
 have:=h.tb.apart
 unfold Apart
 rw[List.map_map] at this ⊢
 exact this
theorem CsI.room_le (h:CsI w p room nx m I):I.length≤room∧room≤10000:=by
 have:=h.tb.room
 rw[List.length_map] at this
 exact this
theorem cells_room {L:List Cl} (h:CellsAt w p room nx L):L.length≤room∧room≤10000:=by
 obtain⟨I,⟨m,h⟩,rfl⟩:=h
 have:=h.room_le
 rw[List.length_map]
 exact this
theorem CsI.log_le (h:CsI w p room nx m I):∀ i ∈ I,i.n≤1000:=fun i hi=>by
 have h1:=right_log (h.ci i hi).right
 have h2:=(h.ci i hi).log.1
 omega
theorem CsI.short (h:CsI w p room nx m I):∀ i ∈ I,i.x.key.length≤maxLen:=fun i hi=>h.tb.short i.kv (List.mem_map.2 ⟨i,hi,rfl⟩)
/-- A key that is there, or not. -/
theorem ci_find (I:List CI) (k:Key):(∀ e ∈ I.map CI.kv,e.1≠k)∨∃ A i B,I=A ++ i :: B∧i.x.key=k:=by
 by_cases hx:∃ i ∈ I,i.x.key=k
 ·obtain⟨i,hi,e⟩:=hx
  obtain⟨A,B,rfl⟩:=List.append_of_mem hi
  exact .inr ⟨A,i,B,rfl,e⟩
 ·refine .inl fun k hk e=>?_
  obtain⟨i,hi,rfl⟩:=List.mem_map.1 hk
  exact hx ⟨i,hi,e⟩
theorem kv_mid (A B:List CI) (i:CI):(A ++ i :: B).map CI.kv=A.map CI.kv ++ (i.x.key,i.v) :: B.map CI.kv:=by simp[CI.kv]
theorem CsI.wf (h:CsI w p room nx m I) (hn:nx<4611686018427387904):∀ i ∈ I,(Lit.int .i64 i.v).wf=true:=fun i hi=>by
 have h1:=(h.ci i hi).lo
 have h2:=(h.ci i hi).hi
 have e1:IntKind.i64.min = -9223372036854775808:=by decide
 have e2:IntKind.i64.max=9223372036854775807:=by decide
 simp only[Lit.wf,Bool.and_eq_true,decide_eq_true_eq]
 omega
/-- A cell behind a step that turned cells' own blocks alone. -/
theorem CiAt.move {j:CI} (h:CiAt w p nx m j) (ho:Only (CF p) w w') (hF:∀ q,CF p' q→CF p q∨w.heap.size≤q) (hnx:nx≤nx') (hg:iGet j.v m'=iGet j.v m):CiAt w' p' nx' m' j :=
 ⟨hg.trans h.get,log_only h.log ho h.far,fun ad e hn hq=>by
  rcases hF _ hq with hq|hq
  ·exact h.far ad e hn hq
  ·have:=clog_lt h.log ad e hn
   omega,h.lo,Int.le_trans h.hi (by omega),h.right⟩
end Go.Proofs.YtmhikkbdhboodaaGreat

namespace Go.Proofs.YtmhikkbdhboodaaGreat
open Go.RowKit Go.Maps
set_option linter.unusedVariables false
set_option linter.unusedSimpArgs false

theorem cfresh_any (x:Cl) (a:Option Addr) (n c:Nat) (now:Int) (w:World) (hl:LogAt w a n c x.st.log) :
  Calls Tryz.prog 78 #[x.v a n c,.int .i64 now] w fun e w'=>e=.returned (.bool (cFresh now x))∧Below w.heap.size w w':=by
 have hkc:=fun W hW=>lfresh_any x.pol x.st a n c now W hW
 obtain⟨key,⟨k,l,d,b,cc,o⟩,⟨at_,level,held,L⟩⟩:=x
 unfold cFresh
 generalize hR:(untilP (⟨k,l,d,b,cc,o⟩:Pol) (⟨at_,level,held,L⟩:St) now == 0)=R
 dsimp only at *
 rw[hR] at hkc
 unfold Cl.v St.v Pol.v at *
 dsimp only at *
 generalize ktx key=KY
 have HKC:=Go.Lib.hid hkc
 have HL:=Go.Lib.hid hl
 clear hkc hl hR
 go_enter Tryz.func78,Tryz.ntmps78
 go_wp2_with fail
 refine(HKC.out _ (log_bl HL.out k1)).mono ?_
 rintro e w1 ⟨rfl,hb⟩
 go_wp2_with fail
 go_ret
 exact⟨rfl,bl_then k1 hb⟩
theorem own_base {w:World} {B B':Nat} {v:Value} {n:Nat} {L:List (Int × Int)} (h:OwnLog w B v n L) (hb:B'≤B):OwnLog w B' v n L:=by
 obtain⟨hl,h⟩:=h
 refine⟨hl,?_⟩
 rcases h with h|⟨g,cap,cur,e,h2,h3⟩
 ·exact .inl h
 ·exact .inr ⟨g,cap,cur,e,by omega,h3⟩
theorem results_cell {fn:Func} {x:Tmp} (h:fn.results = #[.cell x 59]) (tmps:Array Value) (w:World) {b:Nat} {v0 v1 v2 v3 v4 v5 v6 v7 v8 v9 v10:Value} (hx:tmps.getD x undef=.pointer (some ⟨b,0,none⟩))
  (i0:w.cell? ⟨b,0,none⟩=some v0) (i1:w.cell? ⟨b,1,none⟩=some v1) (i2:w.cell? ⟨b,2,none⟩=some v2) (i3:w.cell? ⟨b,3,none⟩=some v3) (i4:w.cell? ⟨b,4,none⟩=some v4) (i5:w.cell? ⟨b,5,none⟩=some v5)
  (i6:w.cell? ⟨b,6,none⟩=some v6) (i7:w.cell? ⟨b,7,none⟩=some v7) (i8:w.cell? ⟨b,8,none⟩=some v8) (i9:w.cell? ⟨b,9,none⟩=some v9) (i10:w.cell? ⟨b,10,none⟩=some v10) :
  (results fn tmps).run Tryz.prog w=.ok (.agg #[v0,v1,v2,v3,v4,v5,v6,v7,v8,v9,v10]) w:=by
 have hx':tmps[x]?.getD undef=.pointer (some ⟨b,0,none⟩):=by simpa using hx
 unfold results
 simp[h,hx',go_sem,i0,i1,i2,i3,i4,i5,i6,i7,i8,i9,i10]
theorem ccopied_any (x:Cl) (a:Option Addr) (n c:Nat) (w:World) (hl:LogAt w a n c x.st.log) (hn:n≤1000) :
  Calls Tryz.prog 77 #[x.v a n c] w fun e w'=>∃ (a':Option Addr) (c':Nat),e=.returned (x.v a' n c')∧OwnLog w' w.heap.size (.slice a' n c') n x.st.log∧Below w.heap.size w w':=by
 have hcl:=fun W hW=>clone_all a n c x.st.log W hW hn
 obtain⟨key,⟨k,l,d,b,cc,o⟩,⟨at_,level,held,L⟩⟩:=x
 dsimp only at *
 unfold Cl.v at *
 dsimp only at *
 generalize ktx key=KY
 have HCL:=Go.Lib.hid hcl
 have HL:=Go.Lib.hid hl
 clear hcl hl hn
 go_enter Tryz.func77,Tryz.ntmps77
 go_wp2_with fail
 refine(HCL.out _ (log_bl HL.out k2)).mono ?_
 rintro e w1 ⟨v',rfl,hown,hb⟩
 obtain⟨a',c',rfl,hlog⟩:=own_log hown
 have x0:=bl_cell (v:=.string KY) hb (show World.cell? _ ⟨w.heap.size,0,none⟩=_ by go_simp)
 have x1:=bl_cell (v:=.int .i64 k) hb (show World.cell? _ ⟨w.heap.size,1,none⟩=_ by go_simp)
 have x2:=bl_cell (v:=.int .i64 l) hb (show World.cell? _ ⟨w.heap.size,2,none⟩=_ by go_simp)
 have x3:=bl_cell (v:=.int .i64 d) hb (show World.cell? _ ⟨w.heap.size,3,none⟩=_ by go_simp)
 have x4:=bl_cell (v:=.int .i64 b) hb (show World.cell? _ ⟨w.heap.size,4,none⟩=_ by go_simp)
 have x5:=bl_cell (v:=.int .i64 cc) hb (show World.cell? _ ⟨w.heap.size,5,none⟩=_ by go_simp)
 have x6:=bl_cell (v:=.bool o) hb (show World.cell? _ ⟨w.heap.size,6,none⟩=_ by go_simp)
 have x7:=bl_cell (v:=.int .i64 at_) hb (show World.cell? _ ⟨w.heap.size,7,none⟩=_ by go_simp)
 have x8:=bl_cell (v:=.int .i64 level) hb (show World.cell? _ ⟨w.heap.size,8,none⟩=_ by go_simp)
 have x9:=bl_cell (v:=.int .i64 held) hb (show World.cell? _ ⟨w.heap.size,9,none⟩=_ by go_simp)
 have x10:=bl_cell (v:=.slice a n c) hb (show World.cell? _ ⟨w.heap.size,10,none⟩=_ by go_simp)
 have y0:=bl_cell (v:=.string { data := #[] }) hb (show World.cell? _ ⟨w.heap.size+1,0,none⟩=_ by go_simp)
 have y1:=bl_cell (v:=.int .i64 0) hb (show World.cell? _ ⟨w.heap.size+1,1,none⟩=_ by go_simp)
 have y2:=bl_cell (v:=.int .i64 0) hb (show World.cell? _ ⟨w.heap.size+1,2,none⟩=_ by go_simp)
 have y3:=bl_cell (v:=.int .i64 0) hb (show World.cell? _ ⟨w.heap.size+1,3,none⟩=_ by go_simp)
 have y4:=bl_cell (v:=.int .i64 0) hb (show World.cell? _ ⟨w.heap.size+1,4,none⟩=_ by go_simp)
 have y5:=bl_cell (v:=.int .i64 0) hb (show World.cell? _ ⟨w.heap.size+1,5,none⟩=_ by go_simp)
 have y6:=bl_cell (v:=.bool false) hb (show World.cell? _ ⟨w.heap.size+1,6,none⟩=_ by go_simp)
 have y7:=bl_cell (v:=.int .i64 0) hb (show World.cell? _ ⟨w.heap.size+1,7,none⟩=_ by go_simp)
 have y8:=bl_cell (v:=.int .i64 0) hb (show World.cell? _ ⟨w.heap.size+1,8,none⟩=_ by go_simp)
 have y9:=bl_cell (v:=.int .i64 0) hb (show World.cell? _ ⟨w.heap.size+1,9,none⟩=_ by go_simp)
 have y10:=bl_cell (v:=.slice none 0 0) hb (show World.cell? _ ⟨w.heap.size+1,10,none⟩=_ by go_simp)
 have fx10:w1.frozen? ⟨w.heap.size,10,none⟩=false:=by rw[hb.frozen (p:=⟨w.heap.size,10,none⟩) (by simp;omega)];go_simp
 have fy0:w1.frozen? ⟨w.heap.size+1,0,none⟩=false:=by rw[hb.frozen (p:=⟨w.heap.size+1,0,none⟩) (by simp)];go_simp
 have fy1:w1.frozen? ⟨w.heap.size+1,1,none⟩=false:=by rw[hb.frozen (p:=⟨w.heap.size+1,1,none⟩) (by simp)];go_simp
 have fy2:w1.frozen? ⟨w.heap.size+1,2,none⟩=false:=by rw[hb.frozen (p:=⟨w.heap.size+1,2,none⟩) (by simp)];go_simp
 have fy3:w1.frozen? ⟨w.heap.size+1,3,none⟩=false:=by rw[hb.frozen (p:=⟨w.heap.size+1,3,none⟩) (by simp)];go_simp
 have fy4:w1.frozen? ⟨w.heap.size+1,4,none⟩=false:=by rw[hb.frozen (p:=⟨w.heap.size+1,4,none⟩) (by simp)];go_simp
 have fy5:w1.frozen? ⟨w.heap.size+1,5,none⟩=false:=by rw[hb.frozen (p:=⟨w.heap.size+1,5,none⟩) (by simp)];go_simp
 have fy6:w1.frozen? ⟨w.heap.size+1,6,none⟩=false:=by rw[hb.frozen (p:=⟨w.heap.size+1,6,none⟩) (by simp)];go_simp
 have fy7:w1.frozen? ⟨w.heap.size+1,7,none⟩=false:=by rw[hb.frozen (p:=⟨w.heap.size+1,7,none⟩) (by simp)];go_simp
 have fy8:w1.frozen? ⟨w.heap.size+1,8,none⟩=false:=by rw[hb.frozen (p:=⟨w.heap.size+1,8,none⟩) (by simp)];go_simp
 have fy9:w1.frozen? ⟨w.heap.size+1,9,none⟩=false:=by rw[hb.frozen (p:=⟨w.heap.size+1,9,none⟩) (by simp)];go_simp
 have fy10:w1.frozen? ⟨w.heap.size+1,10,none⟩=false:=by rw[hb.frozen (p:=⟨w.heap.size+1,10,none⟩) (by simp)];go_simp
 have lb:=World.block_lt_of_cell? _ _ y0
 dsimp only at lb
 have HB:=Go.Lib.hid (bl_then (bl_alloc (bl_alloc (bl_refl w) _) _) hb)
 have HO:=Go.Lib.hid hown
 clear hb hown hlog
 go_wp2_with fail
 have hO:=((((((((((((Only.of_below (F:=fun q=>q=w.heap.size∨q=w.heap.size+1) (bl_refl w1)).set (a:=⟨w.heap.size,10,none⟩) (.inl rfl) (.slice a' n c')).set (a:=⟨w.heap.size+1,0,none⟩) (.inr rfl) (.string KY)).set (a:=⟨w.heap.size+1,1,none⟩) (.inr rfl) (.int .i64 k)).set (a:=⟨w.heap.size+1,2,none⟩) (.inr rfl) (.int .i64 l)).set (a:=⟨w.heap.size+1,3,none⟩) (.inr rfl) (.int .i64 d)).set (a:=⟨w.heap.size+1,4,none⟩) (.inr rfl) (.int .i64 b)).set (a:=⟨w.heap.size+1,5,none⟩) (.inr rfl) (.int .i64 cc)).set (a:=⟨w.heap.size+1,6,none⟩) (.inr rfl) (.bool o)).set (a:=⟨w.heap.size+1,7,none⟩) (.inr rfl) (.int .i64 at_)).set (a:=⟨w.heap.size+1,8,none⟩) (.inr rfl) (.int .i64 level)).set (a:=⟨w.heap.size+1,9,none⟩) (.inr rfl) (.int .i64 held)).set (a:=⟨w.heap.size+1,10,none⟩) (.inr rfl) (.slice a' n c')
 have hB2:=HB.out.trans (hO.below (B:=w.heap.size) (by omega) (fun q hq=>by rcases hq with rfl|rfl <;> omega))
 have hOw:OwnLog _ w.heap.size (.slice a' n c') n L:=own_base (row_frame HO.out fun g hg=>hO.block g (World.ownsRow.lt HO.out g hg).2 (by
  have:=(World.ownsRow.lt HO.out g hg).1
  simp at this
  rintro(h|h) <;> omega)) (by simp;omega)
 refine bodyPost_ret (v:=.agg #[.string KY,.int .i64 k,.int .i64 l,.int .i64 d,.int .i64 b,.int .i64 cc,.bool o,.int .i64 at_,.int .i64 level,.int .i64 held,.slice a' n c']) (results_cell rfl _ _ rfl (by go_simp) (by go_simp) (by go_simp) (by go_simp) (by go_simp) (by go_simp) (by go_simp) (by go_simp) (by go_simp) (by go_simp) (by go_simp)) rfl ⟨a',c',rfl,hOw,hB2⟩
end Go.Proofs.YtmhikkbdhboodaaGreat

namespace Go.Proofs.YtmhikkbdhboodaaGreat
open Go.RowKit Go.Maps
set_option linter.unusedVariables false
set_option linter.unusedSimpArgs false

variable {w w':World} {p p':CsP} {room nx nx':Nat} {m m':List (Int × Value)} {I A B:List CI}
theorem turn_only {F:Nat→Prop} {w w':World} {b:Nat} (h:w.mapTurned w' b) (hF:F b):Only F w w':=Only.of_grown (World.mapTurned.grown h) hF
theorem turn_cell {w w':World} {b q o:Nat} {i:Option Nat} {v:Value} (h:w.mapTurned w' b) (hc:w.cell? ⟨q,o,i⟩=some v) (hq:q≠b):w'.cell? ⟨q,o,i⟩=some v :=
 only_cell (F:=fun k=>k=b) (turn_only h rfl) hc hq
theorem turn_tab {w w':World} {b r:Nat} {p:TbP} {E:List (Key × Int)} (h:w.mapTurned w' b) (ht:TabL w p r E) (hq:¬ TF p b):TabL w' p r E :=
 ht.frame fun k hk=>(turn_only (F:=fun k=>k=b) h rfl).block k (ht.lt k hk) (fun e=>hq (e ▸ hk))
theorem Only.mono' {F G:Nat→Prop} {w w':World} (h:Only F w w') (hFG:∀ q,F q→G q):Only G w w':=⟨h.os,h.tape,h.output,h.size,fun b hb hg=>h.block b hb (fun hf=>hg (hFG b hf))⟩
theorem CsM.turn (h:CsM w p room nx m) (ht:w.mapTurned w' p.mb) (hm:IMap Tryz.prog w' 3 p.mb id m'):CsM w' p room nx m':=by
 have hO:=turn_only (F:=fun k=>k=p.mb) ht rfl
 have hb:=hO.block p.b h.lt.1 h.bm
 have hc:∀ i u,w.cell? ⟨p.b,i,none⟩=some u→w'.cell? ⟨p.b,i,none⟩=some u:=fun i u hu=>by rw[World.cell?_of_block hb];exact hu
 exact⟨hc _ _ h.c0,hc _ _ h.c1,hc _ _ h.c2,hc _ _ h.c3,fun i hi=>by rw[World.frozen?_of_block hb];exact h.fz i hi,hm,h.bt,h.mt,h.bm⟩
theorem CsM.tab (h:CsM w p room nx m) {tp:TbP} (hO:Only (TF p.tp) w w') (hTF:∀ q,TF tp q→TF p.tp q∨w.heap.size≤q) (hb:tp.b=p.tp.b):CsM w' ⟨p.b,tp,p.mb⟩ room nx m:=by
 have h1:=hO.block p.b h.lt.1 h.bt
 have h2:=hO.block p.mb h.lt.2 h.mt
 have h':=h.frame h1 h2
 refine⟨h'.c0,by rw[hb];exact h'.c1,h'.c2,h'.c3,h'.fz,h'.mp,fun hq=>?_,fun hq=>?_,h.bm⟩
 ·rcases hTF _ hq with hq|hq
  ·exact h.bt hq
  ·have:=h.lt.1;dsimp only at hq;omega
 ·rcases hTF _ hq with hq|hq
  ·exact h.mt hq
  ·have:=h.lt.2;dsimp only at hq;omega
theorem nd_mid {i:CI} (h:((A ++ i :: B).map (·.v)).Nodup):((A ++ B).map (·.v)).Nodup∧∀ j ∈ A ++ B,j.v≠i.v:=by
 rw[List.map_append,List.map_cons,List.nodup_append] at h
 obtain⟨h1,h2,h3⟩:=h
 obtain⟨h4,h5⟩:=List.nodup_cons.1 h2
 refine⟨?_,fun j hj e=>?_⟩
 ·rw[List.map_append,List.nodup_append]
  exact⟨h1,h5,fun a ha b hb=>h3 a ha b (List.mem_cons_of_mem _ hb)⟩
 ·rcases List.mem_append.1 hj with hj|hj
  ·exact h3 j.v (List.mem_map.2 ⟨j,hj,rfl⟩) i.v (List.mem_cons_self ..) e
  ·exact h4 (e ▸ List.mem_map.2 ⟨j,hj,rfl⟩)
theorem CsI.dropped {i:CI} {w1 w2 w3:World} {tp:TbP} (h:CsI w p room nx m (A ++ i :: B)) (hb:Below w.heap.size w w1) (ht:w1.mapTurned w2 p.mb) (hm:IMap Tryz.prog w2 3 p.mb id (iDel i.v m))
  (htl:TabL w3 tp room (A.map CI.kv ++ B.map CI.kv)) (hO:Only (TF p.tp) w2 w3) (hTF:∀ q,TF tp q→TF p.tp q∨w2.heap.size≤q) (hbb:tp.b=p.tp.b) :
  CsI w3 ⟨p.b,tp,p.mb⟩ room nx (iDel i.v m) (A ++ B)∧Only (CF p) w w3∧∀ q,CF ⟨p.b,tp,p.mb⟩ q→CF p q∨w.heap.size≤q:=by
 have h1:=h.bl hb
 have hO2:Only (CF p) w w2:=(Only.of_below hb).trans (turn_only ht (.inr (.inl rfl)))
 have hO3:Only (CF p) w w3:=hO2.trans (hO.mono' fun q hq => .inr (.inr hq))
 have hF:∀ q,CF ⟨p.b,tp,p.mb⟩ q→CF p q∨w.heap.size≤q:=fun q hq=>by
  rcases hq with rfl|rfl|hq
  ·exact .inl (.inl rfl)
  ·exact .inl (.inr (.inl rfl))
  ·rcases hTF q hq with hq|hq
   ·exact .inl (.inr (.inr hq))
   ·exact .inr (Nat.le_trans hO2.size hq)
 obtain⟨n1,n2⟩:=nd_mid h.nd
 have hmid:i ∈ A ++ i :: B:=by simp
 refine⟨⟨(h1.mm.turn ht hm).tab hO hTF hbb,by rw[List.map_append];exact htl,fun j hj=>?_,n1,?_⟩,hO3,hF⟩
 ·have hj':j ∈ A ++ i :: B:=by
   rcases List.mem_append.1 hj with hj|hj
   ·exact List.mem_append.2 (.inl hj)
   ·exact List.mem_append.2 (.inr (List.mem_cons_of_mem _ hj))
  exact(h.ci j hj').move hO3 hF (Nat.le_refl _) (by rw[iGet_del,if_neg (n2 j hj)])
 ·have hg:=(h.ci i hmid).get
  have hn:=imap_nodup h.mm.mp Tryz.underlying3
  have h5:=iDel_len hn (k:=i.v) (by rw[hg];rfl)
  have h6:=h.len
  rw[List.length_append,List.length_cons] at h6
  rw[List.length_append]
  omega
theorem map_und:Tryz.prog.underlying 93=some (.map 3 59):=Tryz.underlying93
theorem clen_any {L:List Cl} (h:CellsAt w p room nx L):Calls Tryz.prog 39 #[.pointer (some ⟨p.b,0,none⟩)] w fun e w'=>e=.returned (.int .i64 (L.length:Nat))∧Below w.heap.size w w':=by
 obtain⟨I,⟨m,h⟩,rfl⟩:=h
 have c1:=h.mm.c1
 have hl:=llen w h.tb
 rw[List.length_map] at hl ⊢
 generalize I.length=N at *
 have HL:=Go.Lib.hid hl
 clear hl h
 go_enter Tryz.func39,Tryz.ntmps39
 go_wp2_with fail
 refine HL.out.mono ?_
 rintro e w1 ⟨rfl,hb⟩
 go_wp2_with fail
 go_ret
 exact⟨rfl,hb⟩
theorem cdrop_none (s:ByteArray) (h:CsI w p room nx m I) (hs:s.size≤maxLen) (hx:∀ e ∈ I.map CI.kv,e.1≠s.data.toList) :
  Calls Tryz.prog 79 #[.pointer (some ⟨p.b,0,none⟩),.string s] w fun e w'=>e=.returned (.tuple #[])∧Below w.heap.size w w':=by
 have c1:=h.mm.c1
 have hl:=lpeek_none s w h.tb hs hx
 have HL:=Go.Lib.hid hl
 clear hl h hx
 go_enter Tryz.func79,Tryz.ntmps79
 go_wp2_with fail
 refine HL.out.mono ?_
 rintro e w1 ⟨rfl,hb⟩
 go_wp2_with fail
 exact bodyPost_end (v:=.tuple #[]) (by simp[results,Tryz.results79,go_sem]) rfl ⟨rfl,hb⟩
theorem cdrop_some {i:CI} (s:ByteArray) (h:CsI w p room nx m (A ++ i :: B)) (hs:s.size≤maxLen) (hk:i.x.key=s.data.toList) (hnx:nx<4611686018427387904) :
  Calls Tryz.prog 79 #[.pointer (some ⟨p.b,0,none⟩),.string s] w fun e w'=>e=.returned (.tuple #[])∧∃ p':CsP,p'.b=p.b∧CsI w' p' room nx (iDel i.v m) (A ++ B)∧Only (CF p) w w'∧∀ q,CF p' q→CF p q∨w.heap.size≤q:=by
 have c1:=h.mm.c1
 have c2:=h.mm.c2
 have hbm:=h.mm.bm
 have hmt:=h.mm.mt
 have hwf:=h.wf hnx i (by simp)
 have htb:=h.tb
 rw[kv_mid,hk] at htb
 have hkey:=keyOf_int_mk Tryz.underlying3 hwf
 have hl:=lpeek_some s w htb hs
 have hmp:=h.mm.mp
 have HL:=Go.Lib.hid hl
 have HI:=Go.Lib.hid h
 have HTB:=Go.Lib.hid htb
 have HMP:=Go.Lib.hid hmp
 clear hl h htb hmp hwf
 go_enter Tryz.func79,Tryz.ntmps79
 go_wp2_with fail
 refine HL.out.mono ?_
 rintro e w1 ⟨rfl,hb⟩
 replace c1:=bl_cell hb c1
 replace c2:=bl_cell hb c2
 have hown:IMap Tryz.prog w1 3 p.mb id m:=imap_frame HMP.out (hb.block _ (imap_lt HMP.out))
 have HB:=Go.Lib.hid hb
 clear hb
 go_wp2_with (at_delete;refine wpList_delete_own _ rfl _ _ 93 3 rfl 59 (int_keyed Tryz.underlying3) map_und _ p.mb m.length _ rfl hown _ _ rfl hkey ?_;intro w2 hown2 hturn2;have d1:=turn_cell hturn2 c1 hbm)
 rw[iD_del] at hown2
 have hmap2:=imap_tight hown2
 have htb2:=turn_tab hturn2 (tabl_bl HTB.out HB.out) hmt
 have HD:=Go.Lib.hid (ldel_some s w2 htb2 hs)
 have HM2:=Go.Lib.hid hmap2
 have HT2:=Go.Lib.hid hturn2
 clear hown2 hmap2 hturn2 htb2 hown
 refine HD.out.mono ?_
 rintro e w3 ⟨rfl,hpost⟩
 have HP:=Go.Lib.hid hpost
 clear hpost
 go_wp2_with fail
 obtain⟨tp,hbb,htl,hO,hTF⟩:=HP.out
 have:=HI.out.dropped HB.out HT2.out HM2.out htl hO hTF hbb
 exact bodyPost_end (v:=.tuple #[]) (by simp[results,Tryz.results79,go_sem]) rfl ⟨rfl,⟨p.b,tp,p.mb⟩,rfl,this⟩
end Go.Proofs.YtmhikkbdhboodaaGreat

namespace Go.Proofs.YtmhikkbdhboodaaGreat
open Go.RowKit Go.Maps
set_option linter.unusedVariables false
set_option linter.unusedSimpArgs false

theorem newCs_at {w1:World} {tp:TbP} {r:Nat} {z:Int} {ty:TypeId} (hz:z=(r:Int)) (ht:TabL w1 tp r []) :
  CellsAt ((w1.alloc (.map #[] 0)).alloc (.cells #[.int .i64 z,.pointer (some ⟨tp.b,0,none⟩),.map (some w1.heap.size),.int .i64 0] ty)) ⟨w1.heap.size+1,tp,w1.heap.size⟩ r 0 []:=by
 subst hz
 have hl:=ht.lt
 refine⟨[],⟨[],⟨?_,?_,(fun i hi=>by cases hi),List.nodup_nil,rfl⟩⟩,rfl⟩
 ·refine ⟨by simp,by simp,by simp,by simp,fun i hi=>?_,?_,fun h=>?_,fun h=>?_,by dsimp only;omega⟩
  ·have:i=0∨i=1∨i=2∨i=3:=by omega
   rcases this with rfl|rfl|rfl|rfl <;> simp
  ·exact imap_frame (imap_made w1) ((bl_alloc (bl_refl (w1.alloc (.map #[] 0))) _).block w1.heap.size (by simp))
  ·have:=hl _ h;dsimp only at this;omega
  ·have:=hl _ h;dsimp only at this;omega
 ·exact tabl_bl ht (bl_alloc (bl_alloc (bl_refl w1) _) _)
theorem csnew_any (room:Int) (w:World) :
  Calls Tryz.prog 31 #[.int .i64 room] w fun e w'=>∃ p:CsP,e=.returned (.pointer (some ⟨p.b,0,none⟩))∧CellsAt w' p (roomOf room) 0 []∧Below w.heap.size w w'∧∀ q,CF p q→w.heap.size≤q:=by
 have hmm := @run_makeMap Tryz.prog
 go_enter Tryz.func31,Tryz.ntmps31
 go_wp2_with fail
 all_goals rename_i hif
 all_goals refine(lnew _ w).mono ?_
 all_goals rintro e w1 ⟨tp,rfl,ht,hb,hq⟩
 all_goals have HT:=Go.Lib.hid ht
 all_goals have HB:=Go.Lib.hid hb
 all_goals clear ht hb
 all_goals go_wp2_with fail
 all_goals go_ret
 all_goals refine⟨⟨w1.heap.size+1,tp,w1.heap.size⟩,rfl,newCs_at (by unfold roomOf;first|omega|(split at hif <;> omega)) ?_,bl_then HB.out (bl_alloc (bl_alloc (bl_refl w1) _) _),?_⟩
 all_goals have hs:=HB.out.size
 all_goals first|exact Eq.mp (congrArg (fun r=>TabL w1 tp r []) (by unfold roomOf;first|omega|(split at hif <;> omega))) HT.out|skip
 all_goals(rintro q (rfl|rfl|h);exact Nat.le_succ_of_le hs;exact hs;exact hq q h)
end Go.Proofs.YtmhikkbdhboodaaGreat

namespace Go.Proofs.YtmhikkbdhboodaaGreat
open Go.RowKit
set_option linter.unusedVariables false
set_option linter.unusedSimpArgs false

theorem newP_log (p:Pol) (now:Int):(newP p now).log=[]:=by
 unfold newP newG newL newC newB St.none
 repeat' split
 all_goals rfl
end Go.Proofs.YtmhikkbdhboodaaGreat

namespace Go.Proofs.YtmhikkbdhboodaaGreat
open Go.RowKit Go.Maps
set_option linter.unusedVariables false
set_option linter.unusedSimpArgs false

variable {w w':World} {p p':CsP} {room nx nx':Nat} {m m':List (Int × Value)} {I A B:List CI}
theorem cown_set {w:World} {B:Nat} {v:Value} {n:Nat} {L:List (Int × Int)} (h:OwnLog w B v n L) {a:Addr} (ha:a.block<B) (u:Value):OwnLog (w.setCell a u) B v n L :=
 row_frame h fun k hk=>by
  have:=(World.ownsRow.lt h k hk).1
  have hne:a.block≠k:=by omega
  simp[World.setCell,Array.getElem?_modify,hne]
theorem cown_set4 {w:World} {B b:Nat} {v v0 v1 v2 v3:Value} {n:Nat} {L:List (Int × Int)} (h:OwnLog w B v n L) (hb:b<B) :
  OwnLog ((((w.setCell ⟨b,0,none⟩ v0).setCell ⟨b,1,none⟩ v1).setCell ⟨b,2,none⟩ v2).setCell ⟨b,3,none⟩ v3) B v n L:=cown_set (cown_set (cown_set (cown_set h hb _) hb _) hb _) hb _
def LKm (w:World) (mb:Nat) (v:Int) (u:Value):Prop:=∃ m:List (Int × Value),IMap Tryz.prog w 3 mb id m∧(Lit.int .i64 v).wf=true∧iGet v m=some u
theorem zero_cell (w:World):(zeroValue 59).run Tryz.prog w=.ok (.agg #[.string { data := #[] },.int .i64 0,.int .i64 0,.int .i64 0,.int .i64 0,.int .i64 0,.bool false,.int .i64 0,.int .i64 0,.int .i64 0,.slice none 0 0]) w:=by kernel_rfl
theorem LKm.run {mb:Nat} {v:Int} {u:Value} (h:LKm w mb v u):(Instr.lookup 93 (.map (some mb)) (.int .i64 v) false).run Tryz.prog w=.ok u w:=by
 obtain⟨m,h1,h2,h3⟩:=h
 rw[imap_look h1 Tryz.underlying3 map_und (zero_cell w) v h2,h3]
 rfl
theorem LKm.bl {mb:Nat} {v:Int} {u:Value} (h:LKm w mb v u) (hb:Below w.heap.size w w'):LKm w' mb v u:=by
 obtain⟨m,h1,h2,h3⟩:=h
 exact⟨m,imap_frame h1 (hb.block _ (imap_lt h1)),h2,h3⟩
theorem CsI.lk {i:CI} (h:CsI w p room nx m I) (hnx:nx<4611686018427387904) (hi:i ∈ I):LKm w p.mb i.v i.val:=⟨m,h.mm.mp,h.wf hnx i hi,(h.ci i hi).get⟩
theorem pol_eql (p q:Pol) (w:World):(binOp .eql 23 (.agg #[.int .i64 p.kind,.int .i64 p.limit,.int .i64 p.period,.int .i64 p.burst,.int .i64 p.cap,.bool p.opn]) (.agg #[.int .i64 q.kind,.int .i64 q.limit,.int .i64 q.period,.int .i64 q.burst,.int .i64 q.cap,.bool q.opn])).run Tryz.prog w=.ok (.bool (polE p q)) w:=by
 have e:polE p q=(decide (p.kind=q.kind) && (decide (p.limit=q.limit) && (decide (p.period=q.period) && (decide (p.burst=q.burst) && (decide (p.cap=q.cap) && decide (p.opn=q.opn)))))):=by
  unfold polE
  rw[Bool.eq_iff_iff]
  simp
 rw[e]
 simp[go_sem,Op.equal]
 repeat' split
 all_goals simp_all
theorem field_pol (v0 v1 v2 v3 v4 v5 v6 v7 v8 v9 v10:Value) (w:World):(Instr.field 59 (.agg #[v0,v1,v2,v3,v4,v5,v6,v7,v8,v9,v10]) 1).run Tryz.prog w=.ok (.agg #[v1,v2,v3,v4,v5,v6]) w:=by kernel_rfl
theorem field_st (v0 v1 v2 v3 v4 v5 v6 v7 v8 v9 v10:Value) (w:World):(Instr.field 59 (.agg #[v0,v1,v2,v3,v4,v5,v6,v7,v8,v9,v10]) 2).run Tryz.prog w=.ok (.agg #[v7,v8,v9,v10]) w:=by kernel_rfl
end Go.Proofs.YtmhikkbdhboodaaGreat

namespace Go.Proofs.YtmhikkbdhboodaaGreat
open Go.RowKit Go.Maps
set_option linter.unusedVariables false
set_option linter.unusedSimpArgs false

variable {w w':World} {p p':CsP} {room nx nx':Nat} {m m':List (Int × Value)} {I A B:List CI}
theorem cslook_no (s:ByteArray) (q:Pol) (now:Int) (hx:∀ e ∈ I.map CI.kv,e.1≠s.data.toList) (h:CsI w p room nx m I) (hs:s.size≤maxLen) (hnx:nx<4611686018427387904) :
  Calls Tryz.prog 41 #[.pointer (some ⟨p.b,0,none⟩),.string s,q.v,.int .i64 now] w fun e w'=>∃ (a':Option Addr) (n' c':Nat),e=.returned ((newP q now).v a' n' c')∧OwnLog w' w.heap.size (.slice a' n' c') n' (newP q now).log∧Below w.heap.size w w':=by
 have hpk:=fun W hW=>lpeek_none (r:=room) (p:=p.tp) s W hW hs hx
 have c1:=h.mm.c1
 have c2:=h.mm.c2
 obtain⟨lb_p,lb_m⟩:=h.mm.lt
 have hnw:=fun W=>lnew_any q now W
 have hnl:=newP_log q now
 have htb:=h.tb
 have HTB:=Go.Lib.hid htb
 have HPK:=Go.Lib.hid hpk
 have HNW:=Go.Lib.hid hnw
 have HNL:=Go.Lib.hid hnl
 clear hpk hnw hnl
 generalize hNP:newP q now=NP at *
 obtain⟨nat,nlev,nheld,nlog⟩:=NP
 obtain⟨k2,l2,d2,b2,cc2,o2⟩:=q
 unfold Pol.v St.v at *
 dsimp only at *
 have HNP:=Go.Lib.hid hNP
 clear hNP h htb hx
 go_enter Tryz.func41,Tryz.ntmps41
 go_wp2_with fail
 refine(HPK.out _ (tabl_bl HTB.out (bl_alloc (bl_alloc (bl_refl _) _) _))).mono ?_
 rintro e w1 ⟨rfl,hb⟩
 have hx:Below w.heap.size w w1:=bl_then (bl_alloc (bl_alloc (bl_refl _) _) _) hb
 have hsz1:w.heap.size+2≤w1.heap.size:=szl hb
 replace c1:=bl_cell hx c1
 replace c2:=bl_cell hx c2
 obtain⟨pb0,pb1,pb2,pb3,pb4,pb5⟩:=b6 (w.heap.size) k2 l2 d2 b2 cc2 o2 hb
 obtain⟨rs0,rs1,rs2,rs3⟩:=b4 (w.heap.size+1) 0 0 0 none 0 0 hb
 have rsR:=res_bl (b:=w.heap.size+1) (res_new _ _ _ _ _ _ (by simp)) hb
 have hB:Below w.heap.size w w1:=hx
 have lb_pb:=lbc pb0
 have lb_rs:=lbc rs0
 clear hb hx
 go_wp2_with fail
 refine wp_region_held_drew (S:=fun w'=>w'.cell? ⟨p.b,1,none⟩=some (.pointer (some ⟨p.tp.b,0,none⟩))∧w'.cell? ⟨p.b,2,none⟩=some (.map (some p.mb))∧P6 w' (w.heap.size) k2 l2 d2 b2 cc2 o2 (S4 w' (w.heap.size+1) 0 0 0 none 0 0 (ResB w' (w.heap.size+1)∧Below w.heap.size w w'))) (by kernel_rfl) ?_ (fun hHeld=>?_)
 ·exact⟨c1,c2,pb0,pb1,pb2,pb3,pb4,pb5,rs0,rs1,rs2,rs3,rsR,bl_drew hB⟩
 try simp only[Act.put,List.setIfInBounds_toArray,List.set_cons_zero,List.set_cons_succ]
 refine tkx 0 ?_
 refine tkx 1 ?_
 first|refine tqx 2 ?_|refine tkx 2 ?_
 first|refine tqx 3 ?_|refine tkx 3 ?_
 first|refine tqx 4 ?_|refine tkx 4 ?_
 first|refine tqx 5 ?_|refine tkx 5 ?_
 first|refine tqx 6 ?_|refine tkx 6 ?_
 first|refine tqx 7 ?_|refine tkx 7 ?_
 first|refine tqx 8 ?_|refine tkx 8 ?_
 first|refine tqx 9 ?_|refine tkx 9 ?_
 first|refine tqx 10 ?_|refine tkx 10 ?_
 refine tkx 11 ?_
 refine wpAnyH_done (by kernel_rfl) ?_ _
 refine then_abs (F:=fun w'=>w'.cell? ⟨p.b,1,none⟩=some (.pointer (some ⟨p.tp.b,0,none⟩))∧w'.cell? ⟨p.b,2,none⟩=some (.map (some p.mb))∧P6 w' (w.heap.size) k2 l2 d2 b2 cc2 o2 (S4 w' (w.heap.size+1) 0 0 0 none 0 0 (ResB w' (w.heap.size+1)∧Below w.heap.size w w'))) hHeld ?_
 clear hHeld hB c1 c2 pb0 pb1 pb2 pb3 pb4 pb5 rs0 rs1 rs2 rs3 rsR
 rintro w2 ⟨c1,c2,pb0,pb1,pb2,pb3,pb4,pb5,rs0,rs1,rs2,rs3,rsR,hB⟩
 replace lb_pb:=lbc pb0
 replace lb_rs:=lbc rs0
 go_wp2_with fail
 refine(HNW.out _).mono ?_
 rintro e w3 ⟨rfl,hb⟩
 have hsz2:w2.heap.size+0≤w3.heap.size:=szl hb
 replace c1:=bl_cell hb c1
 replace c2:=bl_cell hb c2
 replace pb0:=bl_cell hb pb0
 replace pb1:=bl_cell hb pb1
 replace pb2:=bl_cell hb pb2
 replace pb3:=bl_cell hb pb3
 replace pb4:=bl_cell hb pb4
 replace pb5:=bl_cell hb pb5
 replace rs0:=bl_cell hb rs0
 replace rs1:=bl_cell hb rs1
 replace rs2:=bl_cell hb rs2
 replace rs3:=bl_cell hb rs3
 replace rsR:=res_bl rsR hb
 replace hB:Below w.heap.size w w3:=bl_then hB hb
 replace lb_pb:=lbc pb0
 replace lb_rs:=lbc rs0
 clear hb
 obtain⟨fr0,fr1,fr2,fr3,-⟩:=res_all rsR
 go_wp2_with fail
 obtain⟨z0,z1,z2,z3⟩:=set4r (v0:=.int .i64 nat) (v1:=.int .i64 nlev) (v2:=.int .i64 nheld) (v3:=.slice none 0 0) rsR
 replace c1:=far4 (b:=w.heap.size+1) (v0:=.int .i64 nat) (v1:=.int .i64 nlev) (v2:=.int .i64 nheld) (v3:=.slice none 0 0) c1 (by dsimp only;omega)
 replace c2:=far4 (b:=w.heap.size+1) (v0:=.int .i64 nat) (v1:=.int .i64 nlev) (v2:=.int .i64 nheld) (v3:=.slice none 0 0) c2 (by dsimp only;omega)
 replace pb0:=far4 (b:=w.heap.size+1) (v0:=.int .i64 nat) (v1:=.int .i64 nlev) (v2:=.int .i64 nheld) (v3:=.slice none 0 0) pb0 (by dsimp only;omega)
 replace pb1:=far4 (b:=w.heap.size+1) (v0:=.int .i64 nat) (v1:=.int .i64 nlev) (v2:=.int .i64 nheld) (v3:=.slice none 0 0) pb1 (by dsimp only;omega)
 replace pb2:=far4 (b:=w.heap.size+1) (v0:=.int .i64 nat) (v1:=.int .i64 nlev) (v2:=.int .i64 nheld) (v3:=.slice none 0 0) pb2 (by dsimp only;omega)
 replace pb3:=far4 (b:=w.heap.size+1) (v0:=.int .i64 nat) (v1:=.int .i64 nlev) (v2:=.int .i64 nheld) (v3:=.slice none 0 0) pb3 (by dsimp only;omega)
 replace pb4:=far4 (b:=w.heap.size+1) (v0:=.int .i64 nat) (v1:=.int .i64 nlev) (v2:=.int .i64 nheld) (v3:=.slice none 0 0) pb4 (by dsimp only;omega)
 replace pb5:=far4 (b:=w.heap.size+1) (v0:=.int .i64 nat) (v1:=.int .i64 nlev) (v2:=.int .i64 nheld) (v3:=.slice none 0 0) pb5 (by dsimp only;omega)
 replace rs0:=z0
 replace rs1:=z1
 replace rs2:=z2
 replace rs3:=z3
 replace rsR:=res4 (b:=w.heap.size+1) (v0:=.int .i64 nat) (v1:=.int .i64 nlev) (v2:=.int .i64 nheld) (v3:=.slice none 0 0) rsR
 replace hB:=bl4 (b:=w.heap.size+1) (v0:=.int .i64 nat) (v1:=.int .i64 nlev) (v2:=.int .i64 nheld) (v3:=.slice none 0 0) hB (by omega)
 clear z0 z1 z2 z3 fr0 fr1 fr2 fr3
 refine bodyPost_ret (v:=.agg #[.int .i64 nat,.int .i64 nlev,.int .i64 nheld,.slice none 0 0]) (results_state rfl _ _ rfl ⟨rs0,rs1,rs2,rs3⟩) rfl ⟨none,0,0,rfl,by rw[HNL.out];exact⟨rfl,.inl ⟨rfl,rfl⟩⟩,hB⟩
theorem cslook_other (s:ByteArray) (q:Pol) (now:Int) {i:CI} (hk:i.x.key=s.data.toList) (hne:polE i.x.pol q=false) (h:CsI w p room nx m (A ++ i :: B)) (hs:s.size≤maxLen) (hnx:nx<4611686018427387904) :
  Calls Tryz.prog 41 #[.pointer (some ⟨p.b,0,none⟩),.string s,q.v,.int .i64 now] w fun e w'=>∃ (a':Option Addr) (n' c':Nat),e=.returned ((newP q now).v a' n' c')∧OwnLog w' w.heap.size (.slice a' n' c') n' (newP q now).log∧Below w.heap.size w w':=by
 have htb:=h.tb
 rw[kv_mid,hk] at htb
 have hpk:=fun W hW=>lpeek_some (r:=room) (p:=p.tp) (A:=A.map CI.kv) (B:=B.map CI.kv) (v:=i.v) s W hW hs
 have hlk:=h.lk hnx (i:=i) (by simp)
 have hlog:=(h.ci i (by simp)).log
 have hle:=h.log_le i (by simp)
 have c1:=h.mm.c1
 have c2:=h.mm.c2
 obtain⟨lb_p,lb_m⟩:=h.mm.lt
 have hnw:=fun W=>lnew_any q now W
 have hnl:=newP_log q now
 obtain⟨v,⟨key,⟨k,l,d,b,cc,o⟩,⟨at_,level,held,L⟩⟩,a,n,c⟩:=i
 dsimp only at *
 have HTB:=Go.Lib.hid htb
 have HPK:=Go.Lib.hid hpk
 have HNW:=Go.Lib.hid hnw
 have HNL:=Go.Lib.hid hnl
 clear hpk hnw hnl
 have hcp:=fun W hW=>ccopied_any ⟨key,⟨k,l,d,b,cc,o⟩,⟨at_,level,held,L⟩⟩ a n c W hW hle
 have heq:=fun W=>pol_eql ⟨k,l,d,b,cc,o⟩ q W
 rw[hne] at heq
 unfold CI.val Cl.v at hlk
 unfold Cl.v at hcp
 dsimp only at hlk hcp heq hlog
 generalize ktx key=KY at *
 have HLG:=Go.Lib.hid hlog
 have HLK:=Go.Lib.hid hlk
 have HCP:=Go.Lib.hid hcp
 clear hcp
 generalize hNP:newP q now=NP at *
 obtain⟨nat,nlev,nheld,nlog⟩:=NP
 obtain⟨k2,l2,d2,b2,cc2,o2⟩:=q
 unfold Pol.v St.v at *
 dsimp only at *
 have HNP:=Go.Lib.hid hNP
 clear hNP h htb hk hne hlog hlk
 go_enter Tryz.func41,Tryz.ntmps41
 go_wp2_with fail
 refine(HPK.out _ (tabl_bl HTB.out (bl_alloc (bl_alloc (bl_refl _) _) _))).mono ?_
 rintro e w1 ⟨rfl,hb⟩
 have hx:Below w.heap.size w w1:=bl_then (bl_alloc (bl_alloc (bl_refl _) _) _) hb
 have hsz1:w.heap.size+2≤w1.heap.size:=szl hb
 replace c1:=bl_cell hx c1
 replace c2:=bl_cell hx c2
 obtain⟨pb0,pb1,pb2,pb3,pb4,pb5⟩:=b6 (w.heap.size) k2 l2 d2 b2 cc2 o2 hb
 obtain⟨rs0,rs1,rs2,rs3⟩:=b4 (w.heap.size+1) 0 0 0 none 0 0 hb
 have rsR:=res_bl (b:=w.heap.size+1) (res_new _ _ _ _ _ _ (by simp)) hb
 have hB:Below w.heap.size w w1:=hx
 have lb_pb:=lbc pb0
 have lb_rs:=lbc rs0
 clear hb hx
 have lk:=HLK.out.bl hB
 replace lk:=lk.run
 go_wp2_with fail
 have lkd:=(HLK.out.bl (bl_drew hB)).run
 have hfp := @field_pol
 have hfs := @field_st
 refine wp_region_held_drew (S:=fun w'=>w'.cell? ⟨p.b,1,none⟩=some (.pointer (some ⟨p.tp.b,0,none⟩))∧w'.cell? ⟨p.b,2,none⟩=some (.map (some p.mb))∧P6 w' (w.heap.size) k2 l2 d2 b2 cc2 o2 (S4 w' (w.heap.size+1) 0 0 0 none 0 0 (ResB w' (w.heap.size+1)∧(Instr.lookup 93 (.map (some p.mb)) (.int .i64 v) false).run Tryz.prog w'=.ok (.agg #[.string KY,.int .i64 k,.int .i64 l,.int .i64 d,.int .i64 b,.int .i64 cc,.bool o,.int .i64 at_,.int .i64 level,.int .i64 held,.slice a n c]) w'∧Below w.heap.size w w'))) (by kernel_rfl) ?_ (fun hHeld=>?_)
 ·exact⟨c1,c2,pb0,pb1,pb2,pb3,pb4,pb5,rs0,rs1,rs2,rs3,rsR,lkd,bl_drew hB⟩
 try simp only[Act.put,List.setIfInBounds_toArray,List.set_cons_zero,List.set_cons_succ]
 refine tkx 0 ?_
 refine tkx 1 ?_
 first|refine tqx 2 ?_|refine tkx 2 ?_
 first|refine tqx 3 ?_|refine tkx 3 ?_
 first|refine tqx 4 ?_|refine tkx 4 ?_
 first|refine tqx 5 ?_|refine tkx 5 ?_
 first|refine tqx 6 ?_|refine tkx 6 ?_
 first|refine tqx 7 ?_|refine tkx 7 ?_
 first|refine tqx 8 ?_|refine tkx 8 ?_
 first|refine tqx 9 ?_|refine tkx 9 ?_
 first|refine tqx 10 ?_|refine tkx 10 ?_
 refine tkx 11 ?_
 refine wpAnyH_done (by kernel_rfl) ?_ _
 refine then_abs (F:=fun w'=>w'.cell? ⟨p.b,1,none⟩=some (.pointer (some ⟨p.tp.b,0,none⟩))∧w'.cell? ⟨p.b,2,none⟩=some (.map (some p.mb))∧P6 w' (w.heap.size) k2 l2 d2 b2 cc2 o2 (S4 w' (w.heap.size+1) 0 0 0 none 0 0 (ResB w' (w.heap.size+1)∧(Instr.lookup 93 (.map (some p.mb)) (.int .i64 v) false).run Tryz.prog w'=.ok (.agg #[.string KY,.int .i64 k,.int .i64 l,.int .i64 d,.int .i64 b,.int .i64 cc,.bool o,.int .i64 at_,.int .i64 level,.int .i64 held,.slice a n c]) w'∧Below w.heap.size w w'))) hHeld ?_
 clear hHeld hB c1 c2 pb0 pb1 pb2 pb3 pb4 pb5 rs0 rs1 rs2 rs3 rsR lk
 rintro w2 ⟨c1,c2,pb0,pb1,pb2,pb3,pb4,pb5,rs0,rs1,rs2,rs3,rsR,lk,hB⟩
 replace lb_pb:=lbc pb0
 replace lb_rs:=lbc rs0
 go_wp2_with fail
 clear lk
 refine(HNW.out _).mono ?_
 rintro e w3 ⟨rfl,hb⟩
 have hsz2:w2.heap.size+0≤w3.heap.size:=szl hb
 replace c1:=bl_cell hb c1
 replace c2:=bl_cell hb c2
 replace pb0:=bl_cell hb pb0
 replace pb1:=bl_cell hb pb1
 replace pb2:=bl_cell hb pb2
 replace pb3:=bl_cell hb pb3
 replace pb4:=bl_cell hb pb4
 replace pb5:=bl_cell hb pb5
 replace rs0:=bl_cell hb rs0
 replace rs1:=bl_cell hb rs1
 replace rs2:=bl_cell hb rs2
 replace rs3:=bl_cell hb rs3
 replace rsR:=res_bl rsR hb
 replace hB:Below w.heap.size w w3:=bl_then hB hb
 replace lb_pb:=lbc pb0
 replace lb_rs:=lbc rs0
 clear hb
 obtain⟨fr0,fr1,fr2,fr3,-⟩:=res_all rsR
 go_wp2_with fail
 obtain⟨z0,z1,z2,z3⟩:=set4r (v0:=.int .i64 nat) (v1:=.int .i64 nlev) (v2:=.int .i64 nheld) (v3:=.slice none 0 0) rsR
 replace c1:=far4 (b:=w.heap.size+1) (v0:=.int .i64 nat) (v1:=.int .i64 nlev) (v2:=.int .i64 nheld) (v3:=.slice none 0 0) c1 (by dsimp only;omega)
 replace c2:=far4 (b:=w.heap.size+1) (v0:=.int .i64 nat) (v1:=.int .i64 nlev) (v2:=.int .i64 nheld) (v3:=.slice none 0 0) c2 (by dsimp only;omega)
 replace pb0:=far4 (b:=w.heap.size+1) (v0:=.int .i64 nat) (v1:=.int .i64 nlev) (v2:=.int .i64 nheld) (v3:=.slice none 0 0) pb0 (by dsimp only;omega)
 replace pb1:=far4 (b:=w.heap.size+1) (v0:=.int .i64 nat) (v1:=.int .i64 nlev) (v2:=.int .i64 nheld) (v3:=.slice none 0 0) pb1 (by dsimp only;omega)
 replace pb2:=far4 (b:=w.heap.size+1) (v0:=.int .i64 nat) (v1:=.int .i64 nlev) (v2:=.int .i64 nheld) (v3:=.slice none 0 0) pb2 (by dsimp only;omega)
 replace pb3:=far4 (b:=w.heap.size+1) (v0:=.int .i64 nat) (v1:=.int .i64 nlev) (v2:=.int .i64 nheld) (v3:=.slice none 0 0) pb3 (by dsimp only;omega)
 replace pb4:=far4 (b:=w.heap.size+1) (v0:=.int .i64 nat) (v1:=.int .i64 nlev) (v2:=.int .i64 nheld) (v3:=.slice none 0 0) pb4 (by dsimp only;omega)
 replace pb5:=far4 (b:=w.heap.size+1) (v0:=.int .i64 nat) (v1:=.int .i64 nlev) (v2:=.int .i64 nheld) (v3:=.slice none 0 0) pb5 (by dsimp only;omega)
 replace rs0:=z0
 replace rs1:=z1
 replace rs2:=z2
 replace rs3:=z3
 replace rsR:=res4 (b:=w.heap.size+1) (v0:=.int .i64 nat) (v1:=.int .i64 nlev) (v2:=.int .i64 nheld) (v3:=.slice none 0 0) rsR
 replace hB:=bl4 (b:=w.heap.size+1) (v0:=.int .i64 nat) (v1:=.int .i64 nlev) (v2:=.int .i64 nheld) (v3:=.slice none 0 0) hB (by omega)
 clear z0 z1 z2 z3 fr0 fr1 fr2 fr3
 refine bodyPost_ret (v:=.agg #[.int .i64 nat,.int .i64 nlev,.int .i64 nheld,.slice none 0 0]) (results_state rfl _ _ rfl ⟨rs0,rs1,rs2,rs3⟩) rfl ⟨none,0,0,rfl,by rw[HNL.out];exact⟨rfl,.inl ⟨rfl,rfl⟩⟩,hB⟩
theorem cslook_is (s:ByteArray) (q:Pol) (now:Int) {i:CI} (hk:i.x.key=s.data.toList) (hne:polE i.x.pol q=true) (h:CsI w p room nx m (A ++ i :: B)) (hs:s.size≤maxLen) (hnx:nx<4611686018427387904) :
  Calls Tryz.prog 41 #[.pointer (some ⟨p.b,0,none⟩),.string s,q.v,.int .i64 now] w fun e w'=>∃ (a':Option Addr) (n' c':Nat),e=.returned ((i.x.st).v a' n' c')∧OwnLog w' w.heap.size (.slice a' n' c') n' (i.x.st).log∧Below w.heap.size w w':=by
 have htb:=h.tb
 rw[kv_mid,hk] at htb
 have hpk:=fun W hW=>lpeek_some (r:=room) (p:=p.tp) (A:=A.map CI.kv) (B:=B.map CI.kv) (v:=i.v) s W hW hs
 have hlk:=h.lk hnx (i:=i) (by simp)
 have hlog:=(h.ci i (by simp)).log
 have hle:=h.log_le i (by simp)
 have c1:=h.mm.c1
 have c2:=h.mm.c2
 obtain⟨lb_p,lb_m⟩:=h.mm.lt
 have hnw:=fun W=>lnew_any q now W
 have hnl:=newP_log q now
 obtain⟨v,⟨key,⟨k,l,d,b,cc,o⟩,⟨at_,level,held,L⟩⟩,a,n,c⟩:=i
 dsimp only at *
 have HTB:=Go.Lib.hid htb
 have HPK:=Go.Lib.hid hpk
 have HNW:=Go.Lib.hid hnw
 have HNL:=Go.Lib.hid hnl
 clear hpk hnw hnl
 have hcp:=fun W hW=>ccopied_any ⟨key,⟨k,l,d,b,cc,o⟩,⟨at_,level,held,L⟩⟩ a n c W hW hle
 have heq:=fun W=>pol_eql ⟨k,l,d,b,cc,o⟩ q W
 rw[hne] at heq
 unfold CI.val Cl.v at hlk
 unfold Cl.v at hcp
 dsimp only at hlk hcp heq hlog
 generalize ktx key=KY at *
 have HLG:=Go.Lib.hid hlog
 have HLK:=Go.Lib.hid hlk
 have HCP:=Go.Lib.hid hcp
 clear hcp
 generalize hNP:newP q now=NP at *
 obtain⟨nat,nlev,nheld,nlog⟩:=NP
 obtain⟨k2,l2,d2,b2,cc2,o2⟩:=q
 unfold Pol.v St.v at *
 dsimp only at *
 have HNP:=Go.Lib.hid hNP
 clear hNP h htb hk hne hlog hlk
 go_enter Tryz.func41,Tryz.ntmps41
 go_wp2_with fail
 refine(HPK.out _ (tabl_bl HTB.out (bl_alloc (bl_alloc (bl_refl _) _) _))).mono ?_
 rintro e w1 ⟨rfl,hb⟩
 have hx:Below w.heap.size w w1:=bl_then (bl_alloc (bl_alloc (bl_refl _) _) _) hb
 have hsz1:w.heap.size+2≤w1.heap.size:=szl hb
 replace c1:=bl_cell hx c1
 replace c2:=bl_cell hx c2
 obtain⟨pb0,pb1,pb2,pb3,pb4,pb5⟩:=b6 (w.heap.size) k2 l2 d2 b2 cc2 o2 hb
 obtain⟨rs0,rs1,rs2,rs3⟩:=b4 (w.heap.size+1) 0 0 0 none 0 0 hb
 have rsR:=res_bl (b:=w.heap.size+1) (res_new _ _ _ _ _ _ (by simp)) hb
 have hB:Below w.heap.size w w1:=hx
 have lb_pb:=lbc pb0
 have lb_rs:=lbc rs0
 clear hb hx
 have lk:=HLK.out.bl hB
 replace lk:=lk.run
 go_wp2_with fail
 have lkd:=(HLK.out.bl (bl_drew hB)).run
 have hfp := @field_pol
 have hfs := @field_st
 refine wp_region_held_drew (S:=fun w'=>w'.cell? ⟨p.b,1,none⟩=some (.pointer (some ⟨p.tp.b,0,none⟩))∧w'.cell? ⟨p.b,2,none⟩=some (.map (some p.mb))∧P6 w' (w.heap.size) k2 l2 d2 b2 cc2 o2 (S4 w' (w.heap.size+1) 0 0 0 none 0 0 (ResB w' (w.heap.size+1)∧(Instr.lookup 93 (.map (some p.mb)) (.int .i64 v) false).run Tryz.prog w'=.ok (.agg #[.string KY,.int .i64 k,.int .i64 l,.int .i64 d,.int .i64 b,.int .i64 cc,.bool o,.int .i64 at_,.int .i64 level,.int .i64 held,.slice a n c]) w'∧Below w.heap.size w w'))) (by kernel_rfl) ?_ (fun hHeld=>?_)
 ·exact⟨c1,c2,pb0,pb1,pb2,pb3,pb4,pb5,rs0,rs1,rs2,rs3,rsR,lkd,bl_drew hB⟩
 try simp only[Act.put,List.setIfInBounds_toArray,List.set_cons_zero,List.set_cons_succ]
 refine tkx 0 ?_
 refine tkx 1 ?_
 first|refine tqx 2 ?_|refine tkx 2 ?_
 first|refine tqx 3 ?_|refine tkx 3 ?_
 first|refine tqx 4 ?_|refine tkx 4 ?_
 first|refine tqx 5 ?_|refine tkx 5 ?_
 first|refine tqx 6 ?_|refine tkx 6 ?_
 first|refine tqx 7 ?_|refine tkx 7 ?_
 first|refine tqx 8 ?_|refine tkx 8 ?_
 first|refine tqx 9 ?_|refine tkx 9 ?_
 first|refine tqx 10 ?_|refine tkx 10 ?_
 refine tkx 11 ?_
 refine wpAnyH_done (by kernel_rfl) ?_ _
 refine then_abs (F:=fun w'=>w'.cell? ⟨p.b,1,none⟩=some (.pointer (some ⟨p.tp.b,0,none⟩))∧w'.cell? ⟨p.b,2,none⟩=some (.map (some p.mb))∧P6 w' (w.heap.size) k2 l2 d2 b2 cc2 o2 (S4 w' (w.heap.size+1) 0 0 0 none 0 0 (ResB w' (w.heap.size+1)∧(Instr.lookup 93 (.map (some p.mb)) (.int .i64 v) false).run Tryz.prog w'=.ok (.agg #[.string KY,.int .i64 k,.int .i64 l,.int .i64 d,.int .i64 b,.int .i64 cc,.bool o,.int .i64 at_,.int .i64 level,.int .i64 held,.slice a n c]) w'∧Below w.heap.size w w'))) hHeld ?_
 clear hHeld hB c1 c2 pb0 pb1 pb2 pb3 pb4 pb5 rs0 rs1 rs2 rs3 rsR lk
 rintro w2 ⟨c1,c2,pb0,pb1,pb2,pb3,pb4,pb5,rs0,rs1,rs2,rs3,rsR,lk,hB⟩
 replace lb_pb:=lbc pb0
 replace lb_rs:=lbc rs0
 go_wp2_with fail
 clear lk
 have hbs:=hB.size
 have hl2:=res_lt rsR
 refine(HCP.out _ (log_bl HLG.out hB)).mono ?_
 rintro e w3 ⟨a',c',rfl,hown,hb⟩
 have hsz2:w2.heap.size+0≤w3.heap.size:=szl hb
 replace c1:=bl_cell hb c1
 replace c2:=bl_cell hb c2
 replace pb0:=bl_cell hb pb0
 replace pb1:=bl_cell hb pb1
 replace pb2:=bl_cell hb pb2
 replace pb3:=bl_cell hb pb3
 replace pb4:=bl_cell hb pb4
 replace pb5:=bl_cell hb pb5
 replace rs0:=bl_cell hb rs0
 replace rs1:=bl_cell hb rs1
 replace rs2:=bl_cell hb rs2
 replace rs3:=bl_cell hb rs3
 replace rsR:=res_bl rsR hb
 replace hB:Below w.heap.size w w3:=bl_then hB hb
 replace lb_pb:=lbc pb0
 replace lb_rs:=lbc rs0
 clear hb
 have HO:=Go.Lib.hid hown
 clear hown
 obtain⟨fr0,fr1,fr2,fr3,-⟩:=res_all rsR
 go_wp2_with fail
 obtain⟨z0,z1,z2,z3⟩:=set4r (v0:=.int .i64 at_) (v1:=.int .i64 level) (v2:=.int .i64 held) (v3:=.slice a' n c') rsR
 replace c1:=far4 (b:=w.heap.size+1) (v0:=.int .i64 at_) (v1:=.int .i64 level) (v2:=.int .i64 held) (v3:=.slice a' n c') c1 (by dsimp only;omega)
 replace c2:=far4 (b:=w.heap.size+1) (v0:=.int .i64 at_) (v1:=.int .i64 level) (v2:=.int .i64 held) (v3:=.slice a' n c') c2 (by dsimp only;omega)
 replace pb0:=far4 (b:=w.heap.size+1) (v0:=.int .i64 at_) (v1:=.int .i64 level) (v2:=.int .i64 held) (v3:=.slice a' n c') pb0 (by dsimp only;omega)
 replace pb1:=far4 (b:=w.heap.size+1) (v0:=.int .i64 at_) (v1:=.int .i64 level) (v2:=.int .i64 held) (v3:=.slice a' n c') pb1 (by dsimp only;omega)
 replace pb2:=far4 (b:=w.heap.size+1) (v0:=.int .i64 at_) (v1:=.int .i64 level) (v2:=.int .i64 held) (v3:=.slice a' n c') pb2 (by dsimp only;omega)
 replace pb3:=far4 (b:=w.heap.size+1) (v0:=.int .i64 at_) (v1:=.int .i64 level) (v2:=.int .i64 held) (v3:=.slice a' n c') pb3 (by dsimp only;omega)
 replace pb4:=far4 (b:=w.heap.size+1) (v0:=.int .i64 at_) (v1:=.int .i64 level) (v2:=.int .i64 held) (v3:=.slice a' n c') pb4 (by dsimp only;omega)
 replace pb5:=far4 (b:=w.heap.size+1) (v0:=.int .i64 at_) (v1:=.int .i64 level) (v2:=.int .i64 held) (v3:=.slice a' n c') pb5 (by dsimp only;omega)
 replace rs0:=z0
 replace rs1:=z1
 replace rs2:=z2
 replace rs3:=z3
 replace rsR:=res4 (b:=w.heap.size+1) (v0:=.int .i64 at_) (v1:=.int .i64 level) (v2:=.int .i64 held) (v3:=.slice a' n c') rsR
 replace hB:=bl4 (b:=w.heap.size+1) (v0:=.int .i64 at_) (v1:=.int .i64 level) (v2:=.int .i64 held) (v3:=.slice a' n c') hB (by omega)
 clear z0 z1 z2 z3 fr0 fr1 fr2 fr3
 have hO2:=cown_set4 (b:=w.heap.size+1) (v0:=.int .i64 at_) (v1:=.int .i64 level) (v2:=.int .i64 held) (v3:=.slice a' n c') HO.out (by omega)
 refine bodyPost_ret (v:=.agg #[.int .i64 at_,.int .i64 level,.int .i64 held,.slice a' n c']) (results_state rfl _ _ rfl ⟨rs0,rs1,rs2,rs3⟩) rfl ⟨a',n,c',rfl,own_base hO2 (by omega),hB⟩
end Go.Proofs.YtmhikkbdhboodaaGreat

namespace Go.Proofs.YtmhikkbdhboodaaGreat
open Go.RowKit Go.Maps
set_option linter.unusedVariables false
set_option linter.unusedSimpArgs false

variable {w w':World} {p p':CsP} {room nx nx':Nat} {m m':List (Int × Value)} {I A B:List CI}
def oK:List (Key × Int)→ByteArray
 | [] => { data := #[] }
 | e :: _=>ktx e.1
def oV:List (Key × Int)→Int
 | []=>0
 | e :: _=>e.2
def oB:List (Key × Int)→Bool
 | []=>false
 | _ :: _=>true
theorem loldest_any {p:TbP} {r:Nat} {E:List (Key × Int)} (w:World) (h:TabL w p r E) :
  Calls Tryz.prog 166 #[.pointer (some ⟨p.b,0,none⟩)] w fun e w'=>e=.returned (.tuple #[.string (oK E),.int .i64 (oV E),.bool (oB E)])∧Below w.heap.size w w':=by
 cases E with
 | nil=>exact loldest_none w h
 | cons e B=>exact loldest_some w h
theorem lnext_any {p:TbP} {r:Nat} {A B:List (Key × Int)} {v:Int} (s:ByteArray) (w:World) (h:TabL w p r (A ++ (s.data.toList,v) :: B)) (hs:s.size≤maxLen) :
  Calls Tryz.prog 167 #[.pointer (some ⟨p.b,0,none⟩),.string s] w fun e w'=>e=.returned (.tuple #[.string (oK B),.bool (oB B)])∧Below w.heap.size w w':=by
 cases B with
 | nil=>exact lnext_none s w h hs
 | cons e B=>exact lnext_some s w h hs
def leftK (ks:List Key):Value→Value→Nat
 | .string s,.bool true=>ks.length - ks.idxOf s.data.toList
 | _,_=>0
theorem leftK_eq {ks pre rest:List Key} {k:Key} (hn:ks.Nodup) (h:ks=pre ++ k :: rest):leftK ks (.string (ktx k)) (.bool true)=rest.length+1:=by
 subst h
 have hp:k ∉ pre:=fun hk=>by rw[List.nodup_append] at hn;exact hn.2.2 k hk k (List.mem_cons_self ..) rfl
 show(pre ++ k :: rest).length - (pre ++ k :: rest).idxOf (ktx k).data.toList=_
 rw[ktx_list,List.idxOf_append,if_neg hp,List.idxOf_cons_self]
 simp only[List.length_append,List.length_cons]
 omega
theorem may1_any (x:Cl) (a:Option Addr) (n c:Nat) (now:Int) (bq:Nat) (w:World) (hl:LogAt w a n c x.st.log) (hq:w.cell? ⟨bq,0,none⟩=some (.int .i64 now)) :
  Calls Tryz.prog 145 #[x.v a n c,.pointer (some ⟨bq,0,none⟩)] w fun e w'=>e=.returned (.bool (cFresh now x))∧Below w.heap.size w w':=by
 have hfr:=fun W hW=>cfresh_any x a n c now W hW
 have lb_q:=lbc hq
 generalize cFresh now x=R at *
 obtain⟨key,⟨k,l,d,b,cc,o⟩,⟨at_,level,held,L⟩⟩:=x
 unfold Cl.v at *
 dsimp only at *
 generalize ktx key=KY at *
 have HL:=Go.Lib.hid hl
 clear hl
 have HFR:=Go.Lib.hid hfr
 clear hfr
 go_enter Tryz.func145,Tryz.ntmps145
 go_wp2_with fail
 refine(HFR.out _ (log_bl HL.out k1)).mono ?_
 rintro e w1 ⟨rfl,hb⟩
 go_wp2_with fail
 go_ret
 exact⟨rfl,bl_then k1 hb⟩
theorem may2_any (x:Cl) (a:Option Addr) (n c:Nat) (w:World) :
  Calls Tryz.prog 146 #[x.v a n c] w fun e w'=>e=.returned (.bool (cOpen x))∧Below w.heap.size w w':=by
 obtain⟨key,⟨k,l,d,b,cc,o⟩,⟨at_,level,held,L⟩⟩:=x
 unfold Cl.v cOpen
 dsimp only
 generalize ktx key=KY
 have hB:=bl_alloc (bl_refl w) (.cells #[.string KY,.int .i64 k,.int .i64 l,.int .i64 d,.int .i64 b,.int .i64 cc,.bool o,.int .i64 at_,.int .i64 level,.int .i64 held,.slice a n c] 59)
 have HB:=Go.Lib.hid hB
 clear hB
 cases o
 all_goals(by_cases hh:held=0)
 all_goals(try subst hh)
 all_goals(go_enter Tryz.func146,Tryz.ntmps146)
 all_goals go_wp2_with fail
 all_goals go_ret
 all_goals exact⟨by simp_all,HB.out⟩
end Go.Proofs.YtmhikkbdhboodaaGreat

namespace Go.Proofs.YtmhikkbdhboodaaGreat
open Go.RowKit Go.Maps
set_option linter.unusedVariables false
set_option linter.unusedSimpArgs false

variable {w w':World} {p p':CsP} {room nx nx':Nat} {m m':List (Int × Value)} {I A B:List CI}
/-- The oldest of those that may be, or none. -/
def OldP (f:Cl→Bool) (I:List CI) (e:Ending):Prop :=
 (∃ A i B,I=A ++ i :: B∧(∀ j ∈ A,f j.x=false)∧f i.x=true∧e=.returned (.tuple #[.string (ktx i.x.key),.bool true]))∨((∀ j ∈ I,f j.x=false)∧∃ s,e=.returned (.tuple #[.string s,.bool false]))
theorem csold1_any (now:Int) (bq:Nat) (hq:w.cell? ⟨bq,0,none⟩=some (.int .i64 now)) (h:CsI w p room nx m I) (hnx:nx<4611686018427387904) :
  Calls Tryz.prog 147 #[.pointer (some ⟨p.b,0,none⟩),.func (.func 145) #[] #[.pointer (some ⟨bq,0,none⟩)]] w fun e w'=>OldP (cFresh now) I e∧Below w.heap.size w w':=by
 have HQ0:=Go.Lib.hid hq
 have c1:=h.mm.c1
 have c2:=h.mm.c2
 have hold:=fun W hW=>loldest_any (p:=p.tp) (r:=room) (E:=I.map CI.kv) W hW
 have hks:(I.map (fun i=>i.x.key)).Nodup:=by have:=h.keys;unfold Apart at this;rw[List.map_map] at this;exact this
 have HI:=Go.Lib.hid h
 have HKS:=Go.Lib.hid hks
 clear h hks
 have HOLD:=Go.Lib.hid hold
 clear hold
 go_enter Tryz.func147,Tryz.ntmps147
 have hB:=bl_refl w
 go_wp2_with go_step3
 refine(HOLD.out _ HI.out.tb).mono ?_
 rintro e w1 ⟨rfl,hb⟩
 have hsz1:w.heap.size+0≤w1.heap.size:=szl hb
 replace c1:=bl_cell hb c1
 replace c2:=bl_cell hb c2
 replace hq:=bl_cell hb hq
 replace hB:Below w.heap.size w w1:=bl_then hB hb
 clear hb
 go_wp2_with go_step3
 go_loopw [6,8] (fun s6 s8 wr=>∃ dn rs:List CI,s6=.string (oK (rs.map CI.kv))∧s8=.bool (oB (rs.map CI.kv))∧I=dn ++ rs∧(∀ j ∈ dn,(cFresh now) j.x=false)∧Hid (Below w.heap.size w wr)) (fun s6 s8 _=>leftK (I.map (fun i=>i.x.key)) s6 s8)
 case atStart=>exact⟨[],I,rfl,rfl,rfl,(fun j hj=>by cases hj),hB⟩
 case round =>
  clear c1 c2 hB hq
  obtain⟨dn,rs,rfl,rfl,hI,hdn,H⟩:=hrel
  have hB:=H.out
  clear H
  have hCI:=HI.out.bl hB
  have c1:=hCI.mm.c1
  have c2:=hCI.mm.c2
  have hq:=bl_cell hB HQ0.out
  cases rs with
  | nil =>
   rw[show oK (([]:List CI).map CI.kv) = { data := #[] } from rfl,show oB (([]:List CI).map CI.kv)=false from rfl]
   have HDN:=Go.Lib.hid hdn
   have HIe:=Go.Lib.hid hI
   clear hdn hI hCI
   go_wp2_with go_step3
   (try simp only[Exit.inBlock,Exit.then,Exit.noGoto_ret])
   refine bodyPost_ret (v:=.tuple #[.string { data := #[] },.bool false]) (by simp[results,Tryz.results147,go_sem]) rfl ⟨.inr ⟨fun j hj=>HDN.out j (by rw[HIe.out,List.append_nil] at hj;exact hj),_,rfl⟩,hB⟩
  | cons i rs =>
   rw[show oK ((i :: rs).map CI.kv)=ktx i.x.key from rfl,show oB ((i :: rs).map CI.kv)=true from rfl]
   have hi:i ∈ I:=by rw[hI];simp
   have hlk:=hCI.lk hnx hi
   have hlog:=(hCI.ci i hi).log
   have hsh:=hCI.short i hi
   have htb:=hCI.tb
   rw[hI,kv_mid] at htb
   have hsz:(ktx i.x.key).size≤maxLen:=by rw[show(ktx i.x.key).size=i.x.key.length from by simp[ktx,ByteArray.size]];exact hsh
   rw[show i.x.key=(ktx i.x.key).data.toList from(ktx_list _).symm] at htb
   have hpk:=lpeek_some (ktx i.x.key) wr htb hsz
   have hnxt:=fun W hW=>lnext_any (p:=p.tp) (r:=room) (A:=dn.map CI.kv) (B:=rs.map CI.kv) (v:=i.v) (ktx i.x.key) W hW hsz
   have hmy:=fun W hW hQ=>may1_any i.x i.a i.n i.c now bq W hW hQ
   have hrun:=hlk.run
   generalize hF:(cFresh now) i.x=R at *
   obtain⟨v,x,a,n,c⟩:=i
   unfold CI.val at *
   dsimp only at *
   have HTB:=Go.Lib.hid htb
   have HLK:=Go.Lib.hid hlk
   have HLG:=Go.Lib.hid hlog
   have HDN:=Go.Lib.hid hdn
   have HIe:=Go.Lib.hid hI
   have HF:=Go.Lib.hid hF
   clear htb hlk hlog hdn hI hCI hsz hsh hi hF
   have HPK:=Go.Lib.hid hpk
   have HNXT:=Go.Lib.hid hnxt
   have HMY:=Go.Lib.hid hmy
   clear hpk hnxt hmy
   go_wp2_with go_step3
   refine HPK.out.mono ?_
   rintro e w2 ⟨rfl,hb⟩
   replace c1:=bl_cell hb c1
   replace c2:=bl_cell hb c2
   replace hq:=bl_cell hb hq
   have hrun2:=(HLK.out.bl hb).run
   have HT2:=Go.Lib.hid (tabl_bl HTB.out hb)
   have HLG2:=Go.Lib.hid (log_bl HLG.out hb)
   replace hB:=bl_then hB hb
   clear hb hrun
   go_wp2_with go_step3
   refine(HMY.out _ HLG2.out hq).mono ?_
   rintro e w3 ⟨rfl,hb⟩
   replace c1:=bl_cell hb c1
   replace c2:=bl_cell hb c2
   replace hq:=bl_cell hb hq
   have HT3:=Go.Lib.hid (tabl_bl HT2.out hb)
   replace hB:=bl_then hB hb
   clear hb hrun2
   cases R with
   | true =>
    go_wp2_with go_step3
    (try simp only[Exit.inBlock,Exit.then,Exit.noGoto_ret])
    refine bodyPost_ret (v:=.tuple #[.string (ktx x.key),.bool true]) (by simp[results,Tryz.results147,go_sem]) rfl ⟨.inl ⟨dn,⟨v,x,a,n,c⟩,rs,HIe.out,HDN.out,HF.out,rfl⟩,hB⟩
   | false =>
    go_wp2_with go_step3
    refine(HNXT.out _ HT3.out).mono ?_
    rintro e w4 ⟨rfl,hb⟩
    replace hB:=bl_then hB hb
    clear hb
    go_wp2_with go_step3
    refine⟨?_,?_⟩
    ·exact ⟨dn ++ [⟨v,x,a,n,c⟩],rs,rfl,rfl,by rw[HIe.out];simp,fun j hj=>by
      rcases List.mem_append.1 hj with hj|hj
      ·exact HDN.out j hj
      ·rw[List.mem_singleton.1 hj];exact HF.out,hB⟩
    ·have e1:I.map (fun i=>i.x.key)=dn.map (fun i=>i.x.key) ++ x.key :: rs.map (fun i=>i.x.key):=by rw[HIe.out];simp
     show leftK _ (.string (oK (rs.map CI.kv))) (.bool (oB (rs.map CI.kv)))<leftK _ (.string (ktx x.key)) (.bool true)
     rw[leftK_eq HKS.out e1]
     cases rs with
     | nil=>exact Nat.succ_pos _
     | cons j rs =>
      show leftK _ (.string (ktx j.x.key)) (.bool true)<_
      rw[leftK_eq (pre:=dn.map (fun i=>i.x.key) ++ [x.key]) (rest:=rs.map (fun i=>i.x.key)) HKS.out (by rw[e1];simp)]
      simp
theorem csold2_any (h:CsI w p room nx m I) (hnx:nx<4611686018427387904) :
  Calls Tryz.prog 147 #[.pointer (some ⟨p.b,0,none⟩),.func (.func 146) #[] #[]] w fun e w'=>OldP (cOpen) I e∧Below w.heap.size w w':=by
 have c1:=h.mm.c1
 have c2:=h.mm.c2
 have hold:=fun W hW=>loldest_any (p:=p.tp) (r:=room) (E:=I.map CI.kv) W hW
 have hks:(I.map (fun i=>i.x.key)).Nodup:=by have:=h.keys;unfold Apart at this;rw[List.map_map] at this;exact this
 have HI:=Go.Lib.hid h
 have HKS:=Go.Lib.hid hks
 clear h hks
 have HOLD:=Go.Lib.hid hold
 clear hold
 go_enter Tryz.func147,Tryz.ntmps147
 have hB:=bl_refl w
 go_wp2_with go_step3
 refine(HOLD.out _ HI.out.tb).mono ?_
 rintro e w1 ⟨rfl,hb⟩
 have hsz1:w.heap.size+0≤w1.heap.size:=szl hb
 replace c1:=bl_cell hb c1
 replace c2:=bl_cell hb c2
 replace hB:Below w.heap.size w w1:=bl_then hB hb
 clear hb
 go_wp2_with go_step3
 go_loopw [6,8] (fun s6 s8 wr=>∃ dn rs:List CI,s6=.string (oK (rs.map CI.kv))∧s8=.bool (oB (rs.map CI.kv))∧I=dn ++ rs∧(∀ j ∈ dn,(cOpen) j.x=false)∧Hid (Below w.heap.size w wr)) (fun s6 s8 _=>leftK (I.map (fun i=>i.x.key)) s6 s8)
 case atStart=>exact⟨[],I,rfl,rfl,rfl,(fun j hj=>by cases hj),hB⟩
 case round =>
  clear c1 c2 hB 
  obtain⟨dn,rs,rfl,rfl,hI,hdn,H⟩:=hrel
  have hB:=H.out
  clear H
  have hCI:=HI.out.bl hB
  have c1:=hCI.mm.c1
  have c2:=hCI.mm.c2
  cases rs with
  | nil =>
   rw[show oK (([]:List CI).map CI.kv) = { data := #[] } from rfl,show oB (([]:List CI).map CI.kv)=false from rfl]
   have HDN:=Go.Lib.hid hdn
   have HIe:=Go.Lib.hid hI
   clear hdn hI hCI
   go_wp2_with go_step3
   (try simp only[Exit.inBlock,Exit.then,Exit.noGoto_ret])
   refine bodyPost_ret (v:=.tuple #[.string { data := #[] },.bool false]) (by simp[results,Tryz.results147,go_sem]) rfl ⟨.inr ⟨fun j hj=>HDN.out j (by rw[HIe.out,List.append_nil] at hj;exact hj),_,rfl⟩,hB⟩
  | cons i rs =>
   rw[show oK ((i :: rs).map CI.kv)=ktx i.x.key from rfl,show oB ((i :: rs).map CI.kv)=true from rfl]
   have hi:i ∈ I:=by rw[hI];simp
   have hlk:=hCI.lk hnx hi
   have hlog:=(hCI.ci i hi).log
   have hsh:=hCI.short i hi
   have htb:=hCI.tb
   rw[hI,kv_mid] at htb
   have hsz:(ktx i.x.key).size≤maxLen:=by rw[show(ktx i.x.key).size=i.x.key.length from by simp[ktx,ByteArray.size]];exact hsh
   rw[show i.x.key=(ktx i.x.key).data.toList from(ktx_list _).symm] at htb
   have hpk:=lpeek_some (ktx i.x.key) wr htb hsz
   have hnxt:=fun W hW=>lnext_any (p:=p.tp) (r:=room) (A:=dn.map CI.kv) (B:=rs.map CI.kv) (v:=i.v) (ktx i.x.key) W hW hsz
   have hmy:=fun W=>may2_any i.x i.a i.n i.c W
   have hrun:=hlk.run
   generalize hF:cOpen i.x=R at *
   obtain⟨v,x,a,n,c⟩:=i
   unfold CI.val at *
   dsimp only at *
   have HTB:=Go.Lib.hid htb
   have HLK:=Go.Lib.hid hlk
   have HLG:=Go.Lib.hid hlog
   have HDN:=Go.Lib.hid hdn
   have HIe:=Go.Lib.hid hI
   have HF:=Go.Lib.hid hF
   clear htb hlk hlog hdn hI hCI hsz hsh hi hF
   have HPK:=Go.Lib.hid hpk
   have HNXT:=Go.Lib.hid hnxt
   have HMY:=Go.Lib.hid hmy
   clear hpk hnxt hmy
   go_wp2_with go_step3
   refine HPK.out.mono ?_
   rintro e w2 ⟨rfl,hb⟩
   replace c1:=bl_cell hb c1
   replace c2:=bl_cell hb c2
   have hrun2:=(HLK.out.bl hb).run
   have HT2:=Go.Lib.hid (tabl_bl HTB.out hb)
   have HLG2:=Go.Lib.hid (log_bl HLG.out hb)
   replace hB:=bl_then hB hb
   clear hb hrun
   go_wp2_with go_step3
   refine(HMY.out _).mono ?_
   rintro e w3 ⟨rfl,hb⟩
   replace c1:=bl_cell hb c1
   replace c2:=bl_cell hb c2
   have HT3:=Go.Lib.hid (tabl_bl HT2.out hb)
   replace hB:=bl_then hB hb
   clear hb hrun2
   cases R with
   | true =>
    go_wp2_with go_step3
    (try simp only[Exit.inBlock,Exit.then,Exit.noGoto_ret])
    refine bodyPost_ret (v:=.tuple #[.string (ktx x.key),.bool true]) (by simp[results,Tryz.results147,go_sem]) rfl ⟨.inl ⟨dn,⟨v,x,a,n,c⟩,rs,HIe.out,HDN.out,HF.out,rfl⟩,hB⟩
   | false =>
    go_wp2_with go_step3
    refine(HNXT.out _ HT3.out).mono ?_
    rintro e w4 ⟨rfl,hb⟩
    replace hB:=bl_then hB hb
    clear hb
    go_wp2_with go_step3
    refine⟨?_,?_⟩
    ·exact ⟨dn ++ [⟨v,x,a,n,c⟩],rs,rfl,rfl,by rw[HIe.out];simp,fun j hj=>by
      rcases List.mem_append.1 hj with hj|hj
      ·exact HDN.out j hj
      ·rw[List.mem_singleton.1 hj];exact HF.out,hB⟩
    ·have e1:I.map (fun i=>i.x.key)=dn.map (fun i=>i.x.key) ++ x.key :: rs.map (fun i=>i.x.key):=by rw[HIe.out];simp
     show leftK _ (.string (oK (rs.map CI.kv))) (.bool (oB (rs.map CI.kv)))<leftK _ (.string (ktx x.key)) (.bool true)
     rw[leftK_eq HKS.out e1]
     cases rs with
     | nil=>exact Nat.succ_pos _
     | cons j rs =>
      show leftK _ (.string (ktx j.x.key)) (.bool true)<_
      rw[leftK_eq (pre:=dn.map (fun i=>i.x.key) ++ [x.key]) (rest:=rs.map (fun i=>i.x.key)) HKS.out (by rw[e1];simp)]
      simp
end Go.Proofs.YtmhikkbdhboodaaGreat

namespace Go.Proofs.YtmhikkbdhboodaaGreat
open Go.RowKit Go.Maps
set_option linter.unusedVariables false
set_option linter.unusedSimpArgs false

variable {w w':World} {p p':CsP} {room nx nx':Nat} {m m':List (Int × Value)} {I A B:List CI}
theorem cfind_mid {f:Cl→Bool} {i:CI} (hA:∀ j ∈ A,f j.x=false) (hi:f i.x=true):((A ++ i :: B).map (·.x)).find? f=some i.x:=by
 induction A with
 | nil=>simp[hi]
 | cons a A ih =>
  have ha:=hA a (List.mem_cons_self ..)
  show(a.x :: (A ++ i :: B).map (·.x)).find? f=_
  rw[List.find?_cons,ha]
  exact ih fun j hj=>hA j (List.mem_cons_of_mem _ hj)
theorem cfind_none {f:Cl→Bool} (hA:∀ j ∈ I,f j.x=false):(I.map (·.x)).find? f=none:=by
 rw[List.find?_eq_none]
 intro x hx
 obtain⟨j,hj,rfl⟩:=List.mem_map.1 hx
 simp[hA j hj]
/-- What spare leaves. -/
def SpareP (w:World) (p:CsP) (room nx:Nat) (L:List Cl) (now:Int) (e:Ending) (w':World):Prop :=
 (∃ (p':CsP) (M:List Cl),e=.returned (.bool true)∧cRoom room L now=some M∧M.length<room∧p'.b=p.b∧CellsAt w' p' room nx M∧Only (CF p) w w'∧∀ q,CF p' q→CF p q∨w.heap.size≤q)∨(e=.returned (.bool false)∧cRoom room L now=none∧Below w.heap.size w w')
theorem room_victim {i:CI} {now:Int} (hap:Apart ((A ++ i :: B).map (·.x))) (hr:(A ++ i :: B).length≤room) (hl:¬ (A ++ i :: B).length<room) (hv:cVictim ((A ++ i :: B).map (·.x)) now=some i.x) :
  cRoom room ((A ++ i :: B).map (·.x)) now=some ((A ++ B).map (·.x))∧((A ++ B).map (·.x)).length<room:=by
 constructor
 ·unfold cRoom
  rw[List.length_map,if_neg hl,hv]
  show some (cWithout ((A ++ i :: B).map (·.x)) i.x.key)=_
  rw[List.map_append,List.map_cons] at hap ⊢
  rw[without_mid hap,List.map_append]
 ·rw[List.length_map]
  rw[List.length_append,List.length_cons] at hr
  rw[List.length_append]
  omega
theorem cspare_any (now:Int) (h:CsI w p room nx m I) (hnx:nx<4611686018427387904) :
  Calls Tryz.prog 81 #[.pointer (some ⟨p.b,0,none⟩),.int .i64 now] w (SpareP w p room nx (I.map (·.x)) now):=by
 have c0:=h.mm.c0
 have c1:=h.mm.c1
 obtain⟨lb_p,lb_m⟩:=h.mm.lt
 have hlen:=fun W hW=>llen (p:=p.tp) (r:=room) (E:=I.map CI.kv) W hW
 rw[List.length_map] at hlen
 have hrl:=h.room_le
 have hap:=h.keys
 have HI:=Go.Lib.hid h
 have HAP:=Go.Lib.hid hap
 clear h hap
 have HLEN:=Go.Lib.hid hlen
 clear hlen
 by_cases hlt:(I.length:Int)<(room:Int)
 ·have HLT:=Go.Lib.hid hlt
  obtain⟨N,hN⟩:∃ N,N=I.length:=⟨_,rfl⟩
  rw[← hN] at hlt HLEN
  have HN:=Go.Lib.hid hN
  clear hN
  go_enter Tryz.func81,Tryz.ntmps81
  go_wp2_with fail
  have hB:=bl_alloc (bl_refl w) (.cells #[.int .i64 now] 3)
  skip
  refine wp_abs (S0:=fun X=>(fun w'=>w'.cell? ⟨p.b,0,none⟩=some (.int .i64 room)∧w'.cell? ⟨p.b,1,none⟩=some (.pointer (some ⟨p.tp.b,0,none⟩))∧w'.cell? ⟨w.heap.size,0,none⟩=some (.int .i64 now)∧Below w.heap.size w w') X∧w.heap.size+1≤X.heap.size) ⟨⟨bl_cell k1 c0,bl_cell k1 c1,by go_simp,k1⟩,by simp⟩ ?_
  clear c0 c1
  rintro w1 ⟨⟨c0,c1,bq0,hB⟩,hsz1⟩
  have lb_c:=lbc c0
  have lb_bq:=lbc bq0
  refine wp_region_held_drew (S:=fun w'=>w'.cell? ⟨p.b,0,none⟩=some (.int .i64 room)∧w'.cell? ⟨p.b,1,none⟩=some (.pointer (some ⟨p.tp.b,0,none⟩))∧w'.cell? ⟨w.heap.size,0,none⟩=some (.int .i64 now)∧Below w.heap.size w w') (by kernel_rfl) ?_ (fun hHeld=>?_)
  ·exact⟨c0,c1,bq0,bl_drew hB⟩
  try simp only[Act.put,List.setIfInBounds_toArray,List.set_cons_zero,List.set_cons_succ]
  refine tkx 0 ?_
  refine tkx 1 ?_
  refine tkx 2 ?_
  refine tkx 3 ?_
  refine tkx 5 ?_
  refine tkx 6 ?_
  refine tkx 7 ?_
  refine tkx 8 ?_
  (refine callH (i:=4) rfl hHeld (fun W hW K hK=>?_);clear hHeld;(try dsimp only at hW);obtain⟨h_c0,h_c1,h_bq0,h_B⟩:=hW;go_simp;refine(HLEN.out W ((HI.out.bl h_B).tb)).mono ?_;rintro e w9 ⟨rfl,hb⟩;go_wp2_with fail;refine hK.out _ _ ?_ (fun hHeld=>?_);(focus((try dsimp only);exact⟨bl_cell hb h_c0,bl_cell hb h_c1,bl_cell hb h_bq0,bl_then h_B hb⟩));clear hK K;clear h_c0 h_c1 h_bq0 h_B;try simp only[Act.put,List.setIfInBounds_toArray,List.set_cons_zero,List.set_cons_succ])
  refine tkx 9 ?_
  refine wpAnyH_done (by kernel_rfl) ?_ _
  refine then_abs (F:=fun w'=>w'.cell? ⟨p.b,0,none⟩=some (.int .i64 room)∧w'.cell? ⟨p.b,1,none⟩=some (.pointer (some ⟨p.tp.b,0,none⟩))∧w'.cell? ⟨w.heap.size,0,none⟩=some (.int .i64 now)∧Below w.heap.size w w') hHeld ?_
  clear hHeld hB c0 c1 bq0
  rintro w2 ⟨c0,c1,bq0,hB⟩
  replace lb_c:=lbc c0
  replace lb_bq:=lbc bq0
  go_wp2_with fail
  go_ret
  refine .inl ⟨p,I.map (·.x),rfl,?_,?_,rfl,⟨I,⟨m,HI.out.bl hB⟩,rfl⟩,Only.of_below hB,fun q hq => .inl hq⟩
  ·unfold cRoom
   rw[if_pos (by rw[List.length_map];have:=HLT.out;omega)]
  ·rw[List.length_map];have:=HLT.out;omega
 ·have HNL:=Go.Lib.hid hlt
  have hge:¬ I.length<room:=by omega
  have HGE:=Go.Lib.hid hge
  clear hge
  obtain⟨N,hN⟩:∃ N,N=I.length:=⟨_,rfl⟩
  rw[← hN] at hlt HLEN
  have HN:=Go.Lib.hid hN
  clear hN
  go_enter Tryz.func81,Tryz.ntmps81
  go_wp2_with fail
  have hB:=bl_alloc (bl_refl w) (.cells #[.int .i64 now] 3)
  skip
  refine wp_abs (S0:=fun X=>(fun w'=>w'.cell? ⟨p.b,0,none⟩=some (.int .i64 room)∧w'.cell? ⟨p.b,1,none⟩=some (.pointer (some ⟨p.tp.b,0,none⟩))∧w'.cell? ⟨w.heap.size,0,none⟩=some (.int .i64 now)∧Below w.heap.size w w') X∧w.heap.size+1≤X.heap.size) ⟨⟨bl_cell k1 c0,bl_cell k1 c1,by go_simp,k1⟩,by simp⟩ ?_
  clear c0 c1
  rintro w1 ⟨⟨c0,c1,bq0,hB⟩,hsz1⟩
  have lb_c:=lbc c0
  have lb_bq:=lbc bq0
  refine wp_region_held_drew (S:=fun w'=>w'.cell? ⟨p.b,0,none⟩=some (.int .i64 room)∧w'.cell? ⟨p.b,1,none⟩=some (.pointer (some ⟨p.tp.b,0,none⟩))∧w'.cell? ⟨w.heap.size,0,none⟩=some (.int .i64 now)∧Below w.heap.size w w') (by kernel_rfl) ?_ (fun hHeld=>?_)
  ·exact⟨c0,c1,bq0,bl_drew hB⟩
  try simp only[Act.put,List.setIfInBounds_toArray,List.set_cons_zero,List.set_cons_succ]
  refine tkx 0 ?_
  refine tkx 1 ?_
  refine tkx 2 ?_
  refine tkx 3 ?_
  refine tkx 5 ?_
  refine tkx 6 ?_
  refine tkx 7 ?_
  refine tkx 8 ?_
  (refine callH (i:=4) rfl hHeld (fun W hW K hK=>?_);clear hHeld;(try dsimp only at hW);obtain⟨h_c0,h_c1,h_bq0,h_B⟩:=hW;go_simp;refine(HLEN.out W ((HI.out.bl h_B).tb)).mono ?_;rintro e w9 ⟨rfl,hb⟩;go_wp2_with fail;refine hK.out _ _ ?_ (fun hHeld=>?_);(focus((try dsimp only);exact⟨bl_cell hb h_c0,bl_cell hb h_c1,bl_cell hb h_bq0,bl_then h_B hb⟩));clear hK K;clear h_c0 h_c1 h_bq0 h_B;try simp only[Act.put,List.setIfInBounds_toArray,List.set_cons_zero,List.set_cons_succ])
  refine tkx 9 ?_
  refine wpAnyH_done (by kernel_rfl) ?_ _
  refine then_abs (F:=fun w'=>w'.cell? ⟨p.b,0,none⟩=some (.int .i64 room)∧w'.cell? ⟨p.b,1,none⟩=some (.pointer (some ⟨p.tp.b,0,none⟩))∧w'.cell? ⟨w.heap.size,0,none⟩=some (.int .i64 now)∧Below w.heap.size w w') hHeld ?_
  clear hHeld hB c0 c1 bq0
  rintro w2 ⟨c0,c1,bq0,hB⟩
  replace lb_c:=lbc c0
  replace lb_bq:=lbc bq0
  go_wp2_with fail
  rw[show decide (N<room)=false from decide_eq_false (by omega)]
  go_loopw [21] (fun s21 wr=>∃ j:Nat,s21=.int .i64 j∧j≤2∧(1≤j→∀ i ∈ I,cFresh now i.x=false)∧(2≤j→∀ i ∈ I,cOpen i.x=false)∧Hid (Below w.heap.size w wr∧wr.cell? ⟨w.heap.size,0,none⟩=some (.int .i64 now))) (fun s21 _=>2 - (intOf s21).toNat)
  case atStart=>exact⟨0,rfl,by omega,(fun h=>absurd h (by omega)),(fun h=>absurd h (by omega)),⟨hB,bq0⟩⟩
  case round =>
   clear c0 c1 hB bq0 lb_c lb_bq
   obtain⟨j,rfl,hj,hj1,hj2,H⟩:=hrel
   obtain⟨hB,bq0⟩:=H.out
   clear H
   have hCI:=HI.out.bl hB
   have HJ1:=Go.Lib.hid hj1
   have HJ2:=Go.Lib.hid hj2
   clear hj1 hj2
   have hcase:j=0∨j=1∨j=2:=by omega
   rcases hcase with rfl|rfl|rfl
   ·have hix:=fun(a b:Value) (w:World)=>(by kernel_rfl:(Instr.index 127 (.agg #[a,b]) (.int .i64 0)).run Tryz.prog w=.ok a w)
    have hold:=csold1_any now w.heap.size bq0 hCI hnx
    have HOLD:=Go.Lib.hid hold
    clear hold
    have HC:=Go.Lib.hid hCI
    clear hCI hj
    go_wp2_with fail
    refine HOLD.out.mono ?_
    rintro e w9 ⟨hpost,hb⟩
    have HB:=Go.Lib.hid (bl_then hB hb)
    have HQ:=Go.Lib.hid (bl_cell hb bq0)
    have HC9:=Go.Lib.hid (HC.out.bl hb)
    clear hb bq0 hB
    rcases hpost with⟨A,i,B,hI,hA,hi,rfl⟩|⟨hno,s,rfl⟩
    ·subst hI
     have hci:=HC9.out
     have hsh:=hci.short i (by simp)
     have hsz:(ktx i.x.key).size≤maxLen:=by rw[show(ktx i.x.key).size=i.x.key.length from by simp[ktx,ByteArray.size]];exact hsh
     have hdr:=cdrop_some (ktx i.x.key) hci hsz (ktx_list _).symm hnx
     have HDR:=Go.Lib.hid hdr
     have HI9:=Go.Lib.hid (And.intro hA hi)
     clear hci hsh hsz hdr hA hi
     go_wp2_with fail
     refine HDR.out.mono ?_
     rintro e w8 ⟨rfl,hpost⟩
     have HP:=Go.Lib.hid hpost
     clear hpost
     go_wp2_with fail
     go_ret
     obtain⟨p',hpb,hcs,hO,hF⟩:=HP.out
     obtain⟨hA,hi⟩:=HI9.out
     have hvic:cVictim ((A ++ i :: B).map (·.x)) now=some i.x:=by
      unfold cVictim
      rw[cfind_mid hA hi]
      rfl
     obtain⟨hr1,hr2⟩:=room_victim HAP.out (HI.out.room_le.1) HGE.out hvic
     exact .inl ⟨p',(A ++ B).map (·.x),rfl,hr1,hr2,hpb,⟨A ++ B,⟨_,hcs⟩,rfl⟩,(Only.of_below HB.out).trans hO,fun q hq=>(hF q hq).imp id (fun e=>Nat.le_trans HB.out.size e)⟩
    ·have HNO:=Go.Lib.hid hno
     clear hno
     go_wp2_with fail
     go_roundw
     case rel=>exact⟨1,rfl,by omega,(fun _=>HNO.out),(fun h=>absurd h (by omega)),⟨HB.out,HQ.out⟩⟩
     case measure=>simp[intOf]
   ·have hix:=fun(a b:Value) (w:World)=>(by kernel_rfl:(Instr.index 127 (.agg #[a,b]) (.int .i64 1)).run Tryz.prog w=.ok b w)
    have hold:=csold2_any hCI hnx
    have HOLD:=Go.Lib.hid hold
    clear hold
    have HC:=Go.Lib.hid hCI
    clear hCI hj
    go_wp2_with fail
    refine HOLD.out.mono ?_
    rintro e w9 ⟨hpost,hb⟩
    have HB:=Go.Lib.hid (bl_then hB hb)
    have HQ:=Go.Lib.hid (bl_cell hb bq0)
    have HC9:=Go.Lib.hid (HC.out.bl hb)
    clear hb bq0 hB
    rcases hpost with⟨A,i,B,hI,hA,hi,rfl⟩|⟨hno,s,rfl⟩
    ·subst hI
     have hci:=HC9.out
     have hsh:=hci.short i (by simp)
     have hsz:(ktx i.x.key).size≤maxLen:=by rw[show(ktx i.x.key).size=i.x.key.length from by simp[ktx,ByteArray.size]];exact hsh
     have hdr:=cdrop_some (ktx i.x.key) hci hsz (ktx_list _).symm hnx
     have HDR:=Go.Lib.hid hdr
     have HI9:=Go.Lib.hid (And.intro hA hi)
     clear hci hsh hsz hdr hA hi
     go_wp2_with fail
     refine HDR.out.mono ?_
     rintro e w8 ⟨rfl,hpost⟩
     have HP:=Go.Lib.hid hpost
     clear hpost
     go_wp2_with fail
     go_ret
     obtain⟨p',hpb,hcs,hO,hF⟩:=HP.out
     obtain⟨hA,hi⟩:=HI9.out
     have hvic:cVictim ((A ++ i :: B).map (·.x)) now=some i.x:=by
      unfold cVictim
      rw[cfind_none (HJ1.out (by omega)),cfind_mid hA hi]
      rfl
     obtain⟨hr1,hr2⟩:=room_victim HAP.out (HI.out.room_le.1) HGE.out hvic
     exact .inl ⟨p',(A ++ B).map (·.x),rfl,hr1,hr2,hpb,⟨A ++ B,⟨_,hcs⟩,rfl⟩,(Only.of_below HB.out).trans hO,fun q hq=>(hF q hq).imp id (fun e=>Nat.le_trans HB.out.size e)⟩
    ·have HNO:=Go.Lib.hid hno
     clear hno
     go_wp2_with fail
     go_roundw
     case rel=>exact⟨2,rfl,by omega,(fun _=>HJ1.out (by omega)),(fun _=>HNO.out),⟨HB.out,HQ.out⟩⟩
     case measure=>simp[intOf]
   ·go_wp2_with fail
    go_ret
    refine .inr ⟨rfl,?_,hB⟩
    unfold cRoom
    rw[List.length_map,if_neg HGE.out]
    unfold cVictim
    rw[cfind_none (HJ1.out (by omega)),cfind_none (HJ2.out (by omega))]
    rfl
end Go.Proofs.YtmhikkbdhboodaaGreat

namespace Go.Proofs.YtmhikkbdhboodaaGreat
open Go.RowKit Go.Maps
set_option linter.unusedVariables false
set_option linter.unusedSimpArgs false

variable {w w':World} {p p':CsP} {room nx nx':Nat} {m m':List (Int × Value)} {I A B:List CI}
theorem ktx_size (k:Key):(ktx k).size=k.length:=by simp[ktx,ByteArray.size]
theorem CsM.next (h:CsM w p room nx m):CsM (w.setCell ⟨p.b,3,none⟩ (.int .i64 ((nx:Int)+1))) p room (nx+1) m:=by
 refine⟨?_,?_,?_,?_,fun i hi=>by rw[World.frozen?_setCell];exact h.fz i hi,?_,h.bt,h.mt,h.bm⟩
 ·exact set_other h.c0 _ (by simp)
 ·exact set_other h.c1 _ (by simp)
 ·exact set_other h.c2 _ (by simp)
 ·rw[World.cell?_setCell_same' _ _ _ (by rw[h.c3];rfl)]
  rfl
 ·exact imap_frame h.mp (by simp[World.setCell,Array.getElem?_modify,h.bm])
theorem tab_set {r:Nat} {E:List (Key × Int)} {tp:TbP} (h:TabL w tp r E) {ad:Addr} (hb:¬ TF tp ad.block) (u:Value):TabL (w.setCell ad u) tp r E :=
 h.frame fun k hk=>by
  have hne:ad.block≠k:=fun e=>hb (e ▸ hk)
  simp[World.setCell,Array.getElem?_modify,hne]
/-- Behind a Set of a key that was there, or was not: I is what stays. -/
theorem CsI.laid {w':World} {x:Cl} {v:Int} {a':Option Addr} {n c' base:Nat} (hci:∀ j ∈ I,CiAt w p nx m j) (hnd:(I.map (·.v)).Nodup) (hnx:nx≤nx') (hm:CsM w' p' room nx' (iPut v (x.v a' n c') m')) (ht:TabL w' p'.tp room (I.map CI.kv ++ [(x.key,v)]))
  (hO:Only (CF p) w w') (hF:∀ q,CF p' q→CF p q∨w.heap.size≤q) (hlg:OwnLog w' base (.slice a' n c') n x.st.log) (hfar:∀ q,CF p' q→q<base) (hr:rightP x.pol x.st=true)
  (hv0:0<v) (hv1:v≤nx') (hnew:∀ j ∈ I,j.v≠v) (hget:∀ j ∈ I,iGet j.v m'=iGet j.v m) (hlen:(iPut v (x.v a' n c') m').length=I.length+1) :
  CsI w' p' room nx' (iPut v (x.v a' n c') m') (I ++ [⟨v,x,a',n,c'⟩]):=by
 refine⟨hm,by rw[List.map_append];exact ht,fun j hj=>?_,?_,by rw[hlen,List.length_append];rfl⟩
 ·rcases List.mem_append.1 hj with hj|hj
  ·exact(hci j hj).move hO hF hnx (by rw[iGet_put,if_neg (fun e=>hnew j hj e.symm)];exact hget j hj)
  ·have:=List.mem_singleton.1 hj
   subst this
   obtain⟨a2,c2,e2,hl2⟩:=own_log hlg
   injection e2 with e3 e4 e5
   subst e3 e5
   refine⟨by rw[iGet_put,if_pos rfl];rfl,hl2,fun ad e hn hq=>?_,hv0,hv1,hr⟩
   have h1:=hfar _ hq
   have h2:(Value.slice a' n c').ownBlock=some ad.block:=by rw[show a'=some ad from e];rfl
   have h3:=(World.ownsRow.lt hlg _ h2).1
   omega
 ·rw[List.map_append,List.nodup_append]
  refine⟨hnd,by simp,fun b hb d hd=>?_⟩
  obtain⟨j,hj,rfl⟩:=List.mem_map.1 hb
  have:d=v:=by simpa using hd
  rw[this]
  exact hnew j hj
theorem csset_arg (x:Cl) (a:Option Addr) (n c:Nat) (now:Int) (h:CsI w p room nx m I) (hl:LogAt w a n c x.st.log) (hs:x.key.length≤maxLen) (hnx:nx<4611686018427387904) (hr:rightP x.pol x.st=false) :
  Calls Tryz.prog 40 #[.pointer (some ⟨p.b,0,none⟩),x.v a n c,.int .i64 now] w fun e w'=>e=.returned (.int .i64 2)∧Below w.heap.size w w':=by
 have c1:=h.mm.c1
 obtain⟨lb_p,lb_m⟩:=h.mm.lt
 have hsz:(ktx x.key).size≤maxLen:=by rw[ktx_size];exact hs
 have hpk:∃ (v:Int) (b:Bool),∀ W,TabL W p.tp room (I.map CI.kv)→Calls Tryz.prog 76 #[.pointer (some ⟨p.tp.b,0,none⟩),.string (ktx x.key)] W fun e w'=>e=.returned (.tuple #[.int .i64 v,.bool b])∧Below W.heap.size W w':=by
  rcases ci_find I x.key with hx|⟨A,i,B,rfl,hk⟩
  ·exact⟨0,false,fun W hW=>lpeek_none (ktx x.key) W hW hsz (by rw[ktx_list];exact hx)⟩
  ·refine⟨i.v,true,fun W hW=>?_⟩
   rw[kv_mid,hk,← ktx_list x.key] at hW
   exact lpeek_some (ktx x.key) W hW hsz
 obtain⟨kv,kb,hpk⟩:=hpk
 have htb:=h.tb
 have hrt:=fun W hW=>lright_any x.pol x.st a n c W hW
 rw[hr] at hrt
 obtain⟨key,⟨k,l,d,b,cc,o⟩,⟨at_,level,held,L⟩⟩:=x
 unfold Cl.v at *
 unfold Pol.v St.v at *
 dsimp only at *
 generalize ktx key=KY at *
 have HLG:=Go.Lib.hid hl
 have HTB:=Go.Lib.hid htb
 have HI:=Go.Lib.hid h
 clear h hl htb hr
 have HPK:=Go.Lib.hid hpk
 have HRT:=Go.Lib.hid hrt
 clear hpk hrt
 go_enter Tryz.func40,Tryz.ntmps40
 go_wp2_with fail
 skip
 refine wp_abs (S0:=fun X=>(fun w'=>w'.cell? ⟨p.b,1,none⟩=some (.pointer (some ⟨p.tp.b,0,none⟩))∧w'.cell? ⟨w.heap.size,0,none⟩=some (.string KY)∧w'.cell? ⟨w.heap.size,1,none⟩=some (.int .i64 k)∧w'.cell? ⟨w.heap.size,2,none⟩=some (.int .i64 l)∧w'.cell? ⟨w.heap.size,3,none⟩=some (.int .i64 d)∧w'.cell? ⟨w.heap.size,4,none⟩=some (.int .i64 b)∧w'.cell? ⟨w.heap.size,5,none⟩=some (.int .i64 cc)∧w'.cell? ⟨w.heap.size,6,none⟩=some (.bool o)∧w'.cell? ⟨w.heap.size,7,none⟩=some (.int .i64 at_)∧w'.cell? ⟨w.heap.size,8,none⟩=some (.int .i64 level)∧w'.cell? ⟨w.heap.size,9,none⟩=some (.int .i64 held)∧w'.cell? ⟨w.heap.size,10,none⟩=some (.slice a n c)∧Below w.heap.size w w') X∧w.heap.size+1≤X.heap.size) ⟨⟨bl_cell k1 c1,by go_simp,by go_simp,by go_simp,by go_simp,by go_simp,by go_simp,by go_simp,by go_simp,by go_simp,by go_simp,by go_simp,k1⟩,by simp⟩ ?_
 clear c1
 rintro w1 ⟨⟨c1,xb0,xb1,xb2,xb3,xb4,xb5,xb6,xb7,xb8,xb9,xb10,hB⟩,hsz1⟩
 have lb_xb:=lbc xb0
 have lb_xb1:=lbc xb10
 refine wp_region_held_drew (S:=fun w'=>w'.cell? ⟨p.b,1,none⟩=some (.pointer (some ⟨p.tp.b,0,none⟩))∧w'.cell? ⟨w.heap.size,0,none⟩=some (.string KY)∧w'.cell? ⟨w.heap.size,1,none⟩=some (.int .i64 k)∧w'.cell? ⟨w.heap.size,2,none⟩=some (.int .i64 l)∧w'.cell? ⟨w.heap.size,3,none⟩=some (.int .i64 d)∧w'.cell? ⟨w.heap.size,4,none⟩=some (.int .i64 b)∧w'.cell? ⟨w.heap.size,5,none⟩=some (.int .i64 cc)∧w'.cell? ⟨w.heap.size,6,none⟩=some (.bool o)∧w'.cell? ⟨w.heap.size,7,none⟩=some (.int .i64 at_)∧w'.cell? ⟨w.heap.size,8,none⟩=some (.int .i64 level)∧w'.cell? ⟨w.heap.size,9,none⟩=some (.int .i64 held)∧w'.cell? ⟨w.heap.size,10,none⟩=some (.slice a n c)∧Below w.heap.size w w') (by kernel_rfl) ?_ (fun hHeld=>?_)
 ·exact⟨c1,xb0,xb1,xb2,xb3,xb4,xb5,xb6,xb7,xb8,xb9,xb10,bl_drew hB⟩
 try simp only[Act.put,List.setIfInBounds_toArray,List.set_cons_zero,List.set_cons_succ]
 refine tkx 0 ?_
 refine tkx 1 ?_
 refine tkx 2 ?_
 refine tkx 3 ?_
 refine tkx 4 ?_
 refine tkx 5 ?_
 (refine callH (i:=6) rfl hHeld (fun W hW K hK=>?_);clear hHeld;(try dsimp only at hW);obtain⟨h_c1,h_xb0,h_xb1,h_xb2,h_xb3,h_xb4,h_xb5,h_xb6,h_xb7,h_xb8,h_xb9,h_xb10,h_B⟩:=hW;go_simp;refine(HPK.out W (tabl_bl HTB.out h_B)).mono ?_;rintro e w9 ⟨rfl,hb⟩;go_wp2_with fail;refine hK.out _ _ ?_ (fun hHeld=>?_);(focus((try dsimp only);exact⟨bl_cell hb h_c1,bl_cell hb h_xb0,bl_cell hb h_xb1,bl_cell hb h_xb2,bl_cell hb h_xb3,bl_cell hb h_xb4,bl_cell hb h_xb5,bl_cell hb h_xb6,bl_cell hb h_xb7,bl_cell hb h_xb8,bl_cell hb h_xb9,bl_cell hb h_xb10,bl_then h_B hb⟩));clear hK K;clear h_c1 h_xb0 h_xb1 h_xb2 h_xb3 h_xb4 h_xb5 h_xb6 h_xb7 h_xb8 h_xb9 h_xb10 h_B;try simp only[Act.put,List.setIfInBounds_toArray,List.set_cons_zero,List.set_cons_succ])
 refine tkx 7 ?_
 refine tkx 8 ?_
 refine tkx 9 ?_
 refine tkx 10 ?_
 refine tkx 11 ?_
 refine wpAnyH_done (by kernel_rfl) ?_ _
 refine then_abs (F:=fun w'=>w'.cell? ⟨p.b,1,none⟩=some (.pointer (some ⟨p.tp.b,0,none⟩))∧w'.cell? ⟨w.heap.size,0,none⟩=some (.string KY)∧w'.cell? ⟨w.heap.size,1,none⟩=some (.int .i64 k)∧w'.cell? ⟨w.heap.size,2,none⟩=some (.int .i64 l)∧w'.cell? ⟨w.heap.size,3,none⟩=some (.int .i64 d)∧w'.cell? ⟨w.heap.size,4,none⟩=some (.int .i64 b)∧w'.cell? ⟨w.heap.size,5,none⟩=some (.int .i64 cc)∧w'.cell? ⟨w.heap.size,6,none⟩=some (.bool o)∧w'.cell? ⟨w.heap.size,7,none⟩=some (.int .i64 at_)∧w'.cell? ⟨w.heap.size,8,none⟩=some (.int .i64 level)∧w'.cell? ⟨w.heap.size,9,none⟩=some (.int .i64 held)∧w'.cell? ⟨w.heap.size,10,none⟩=some (.slice a n c)∧Below w.heap.size w w') hHeld ?_
 clear hHeld hB c1 xb0 xb1 xb2 xb3 xb4 xb5 xb6 xb7 xb8 xb9 xb10
 rintro w2 ⟨c1,xb0,xb1,xb2,xb3,xb4,xb5,xb6,xb7,xb8,xb9,xb10,hB⟩
 replace lb_xb:=lbc xb0
 replace lb_xb1:=lbc xb10
 go_wp2_with fail
 refine(HRT.out _ (log_bl HLG.out hB)).mono ?_
 rintro e w3 ⟨rfl,hb⟩
 have hsz2:w2.heap.size+0≤w3.heap.size:=szl hb
 replace c1:=bl_cell hb c1
 replace xb0:=bl_cell hb xb0
 replace xb1:=bl_cell hb xb1
 replace xb2:=bl_cell hb xb2
 replace xb3:=bl_cell hb xb3
 replace xb4:=bl_cell hb xb4
 replace xb5:=bl_cell hb xb5
 replace xb6:=bl_cell hb xb6
 replace xb7:=bl_cell hb xb7
 replace xb8:=bl_cell hb xb8
 replace xb9:=bl_cell hb xb9
 replace xb10:=bl_cell hb xb10
 replace hB:Below w.heap.size w w3:=bl_then hB hb
 replace lb_xb:=lbc xb0
 replace lb_xb1:=lbc xb10
 clear hb
 go_wp2_with fail
 go_ret
 exact⟨rfl,hB⟩
theorem csset_freshno (x:Cl) (a:Option Addr) (n c:Nat) (now:Int) (hx:∀ e ∈ I.map CI.kv,e.1≠x.key) (h:CsI w p room nx m I) (hl:LogAt w a n c x.st.log) (hs:x.key.length≤maxLen) (hnx:nx<4611686018427387904) (hr:rightP x.pol x.st=true) (hf:cFresh now x=true) :
  Calls Tryz.prog 40 #[.pointer (some ⟨p.b,0,none⟩),x.v a n c,.int .i64 now] w fun e w'=>e=.returned (.int .i64 0)∧Below w.heap.size w w':=by
 have c1:=h.mm.c1
 obtain⟨lb_p,lb_m⟩:=h.mm.lt
 have hsz:(ktx x.key).size≤maxLen:=by rw[ktx_size];exact hs
 have hpk:=fun W hW=>lpeek_none (p:=p.tp) (r:=room) (ktx x.key) W hW hsz (by rw[ktx_list];exact hx)
 have htb:=h.tb
 have hdr:=fun W (hW:CsI W p room nx m I)=>cdrop_none (ktx x.key) hW hsz (by rw[ktx_list];exact hx)
 have hrt:=fun W hW=>lright_any x.pol x.st a n c W hW
 rw[hr] at hrt
 have hfr:=fun W hW=>cfresh_any x a n c now W hW
 rw[hf] at hfr
 obtain⟨key,⟨k,l,d,b,cc,o⟩,⟨at_,level,held,L⟩⟩:=x
 unfold Cl.v at *
 unfold Pol.v St.v at *
 dsimp only at *
 generalize ktx key=KY at *
 have HLG:=Go.Lib.hid hl
 have HTB:=Go.Lib.hid htb
 have HI:=Go.Lib.hid h
 clear h hl htb hr hf hx
 have HPK:=Go.Lib.hid hpk
 have HRT:=Go.Lib.hid hrt
 have HFR:=Go.Lib.hid hfr
 have HDR:=Go.Lib.hid hdr
 clear hpk hrt hfr hdr
 go_enter Tryz.func40,Tryz.ntmps40
 go_wp2_with fail
 skip
 refine wp_abs (S0:=fun X=>(fun w'=>w'.cell? ⟨p.b,1,none⟩=some (.pointer (some ⟨p.tp.b,0,none⟩))∧w'.cell? ⟨w.heap.size,0,none⟩=some (.string KY)∧w'.cell? ⟨w.heap.size,1,none⟩=some (.int .i64 k)∧w'.cell? ⟨w.heap.size,2,none⟩=some (.int .i64 l)∧w'.cell? ⟨w.heap.size,3,none⟩=some (.int .i64 d)∧w'.cell? ⟨w.heap.size,4,none⟩=some (.int .i64 b)∧w'.cell? ⟨w.heap.size,5,none⟩=some (.int .i64 cc)∧w'.cell? ⟨w.heap.size,6,none⟩=some (.bool o)∧w'.cell? ⟨w.heap.size,7,none⟩=some (.int .i64 at_)∧w'.cell? ⟨w.heap.size,8,none⟩=some (.int .i64 level)∧w'.cell? ⟨w.heap.size,9,none⟩=some (.int .i64 held)∧w'.cell? ⟨w.heap.size,10,none⟩=some (.slice a n c)∧Below w.heap.size w w') X∧w.heap.size+1≤X.heap.size) ⟨⟨bl_cell k1 c1,by go_simp,by go_simp,by go_simp,by go_simp,by go_simp,by go_simp,by go_simp,by go_simp,by go_simp,by go_simp,by go_simp,k1⟩,by simp⟩ ?_
 clear c1
 rintro w1 ⟨⟨c1,xb0,xb1,xb2,xb3,xb4,xb5,xb6,xb7,xb8,xb9,xb10,hB⟩,hsz1⟩
 have lb_xb:=lbc xb0
 have lb_xb1:=lbc xb10
 refine wp_region_held_drew (S:=fun w'=>w'.cell? ⟨p.b,1,none⟩=some (.pointer (some ⟨p.tp.b,0,none⟩))∧w'.cell? ⟨w.heap.size,0,none⟩=some (.string KY)∧w'.cell? ⟨w.heap.size,1,none⟩=some (.int .i64 k)∧w'.cell? ⟨w.heap.size,2,none⟩=some (.int .i64 l)∧w'.cell? ⟨w.heap.size,3,none⟩=some (.int .i64 d)∧w'.cell? ⟨w.heap.size,4,none⟩=some (.int .i64 b)∧w'.cell? ⟨w.heap.size,5,none⟩=some (.int .i64 cc)∧w'.cell? ⟨w.heap.size,6,none⟩=some (.bool o)∧w'.cell? ⟨w.heap.size,7,none⟩=some (.int .i64 at_)∧w'.cell? ⟨w.heap.size,8,none⟩=some (.int .i64 level)∧w'.cell? ⟨w.heap.size,9,none⟩=some (.int .i64 held)∧w'.cell? ⟨w.heap.size,10,none⟩=some (.slice a n c)∧Below w.heap.size w w') (by kernel_rfl) ?_ (fun hHeld=>?_)
 ·exact⟨c1,xb0,xb1,xb2,xb3,xb4,xb5,xb6,xb7,xb8,xb9,xb10,bl_drew hB⟩
 try simp only[Act.put,List.setIfInBounds_toArray,List.set_cons_zero,List.set_cons_succ]
 refine tkx 0 ?_
 refine tkx 1 ?_
 refine tkx 2 ?_
 refine tkx 3 ?_
 refine tkx 4 ?_
 refine tkx 5 ?_
 (refine callH (i:=6) rfl hHeld (fun W hW K hK=>?_);clear hHeld;(try dsimp only at hW);obtain⟨h_c1,h_xb0,h_xb1,h_xb2,h_xb3,h_xb4,h_xb5,h_xb6,h_xb7,h_xb8,h_xb9,h_xb10,h_B⟩:=hW;go_simp;refine(HPK.out W (tabl_bl HTB.out h_B)).mono ?_;rintro e w9 ⟨rfl,hb⟩;go_wp2_with fail;refine hK.out _ _ ?_ (fun hHeld=>?_);(focus((try dsimp only);exact⟨bl_cell hb h_c1,bl_cell hb h_xb0,bl_cell hb h_xb1,bl_cell hb h_xb2,bl_cell hb h_xb3,bl_cell hb h_xb4,bl_cell hb h_xb5,bl_cell hb h_xb6,bl_cell hb h_xb7,bl_cell hb h_xb8,bl_cell hb h_xb9,bl_cell hb h_xb10,bl_then h_B hb⟩));clear hK K;clear h_c1 h_xb0 h_xb1 h_xb2 h_xb3 h_xb4 h_xb5 h_xb6 h_xb7 h_xb8 h_xb9 h_xb10 h_B;try simp only[Act.put,List.setIfInBounds_toArray,List.set_cons_zero,List.set_cons_succ])
 refine tkx 7 ?_
 refine tkx 8 ?_
 refine tkx 9 ?_
 refine tkx 10 ?_
 refine tkx 11 ?_
 refine wpAnyH_done (by kernel_rfl) ?_ _
 refine then_abs (F:=fun w'=>w'.cell? ⟨p.b,1,none⟩=some (.pointer (some ⟨p.tp.b,0,none⟩))∧w'.cell? ⟨w.heap.size,0,none⟩=some (.string KY)∧w'.cell? ⟨w.heap.size,1,none⟩=some (.int .i64 k)∧w'.cell? ⟨w.heap.size,2,none⟩=some (.int .i64 l)∧w'.cell? ⟨w.heap.size,3,none⟩=some (.int .i64 d)∧w'.cell? ⟨w.heap.size,4,none⟩=some (.int .i64 b)∧w'.cell? ⟨w.heap.size,5,none⟩=some (.int .i64 cc)∧w'.cell? ⟨w.heap.size,6,none⟩=some (.bool o)∧w'.cell? ⟨w.heap.size,7,none⟩=some (.int .i64 at_)∧w'.cell? ⟨w.heap.size,8,none⟩=some (.int .i64 level)∧w'.cell? ⟨w.heap.size,9,none⟩=some (.int .i64 held)∧w'.cell? ⟨w.heap.size,10,none⟩=some (.slice a n c)∧Below w.heap.size w w') hHeld ?_
 clear hHeld hB c1 xb0 xb1 xb2 xb3 xb4 xb5 xb6 xb7 xb8 xb9 xb10
 rintro w2 ⟨c1,xb0,xb1,xb2,xb3,xb4,xb5,xb6,xb7,xb8,xb9,xb10,hB⟩
 replace lb_xb:=lbc xb0
 replace lb_xb1:=lbc xb10
 go_wp2_with fail
 refine(HRT.out _ (log_bl HLG.out hB)).mono ?_
 rintro e w3 ⟨rfl,hb⟩
 have hsz2:w2.heap.size+0≤w3.heap.size:=szl hb
 replace c1:=bl_cell hb c1
 replace xb0:=bl_cell hb xb0
 replace xb1:=bl_cell hb xb1
 replace xb2:=bl_cell hb xb2
 replace xb3:=bl_cell hb xb3
 replace xb4:=bl_cell hb xb4
 replace xb5:=bl_cell hb xb5
 replace xb6:=bl_cell hb xb6
 replace xb7:=bl_cell hb xb7
 replace xb8:=bl_cell hb xb8
 replace xb9:=bl_cell hb xb9
 replace xb10:=bl_cell hb xb10
 replace hB:Below w.heap.size w w3:=bl_then hB hb
 replace lb_xb:=lbc xb0
 replace lb_xb1:=lbc xb10
 clear hb
 go_wp2_with fail
 refine(HFR.out _ (log_bl HLG.out hB)).mono ?_
 rintro e w4 ⟨rfl,hb⟩
 have hsz3:w3.heap.size+0≤w4.heap.size:=szl hb
 replace c1:=bl_cell hb c1
 replace xb0:=bl_cell hb xb0
 replace xb1:=bl_cell hb xb1
 replace xb2:=bl_cell hb xb2
 replace xb3:=bl_cell hb xb3
 replace xb4:=bl_cell hb xb4
 replace xb5:=bl_cell hb xb5
 replace xb6:=bl_cell hb xb6
 replace xb7:=bl_cell hb xb7
 replace xb8:=bl_cell hb xb8
 replace xb9:=bl_cell hb xb9
 replace xb10:=bl_cell hb xb10
 replace hB:Below w.heap.size w w4:=bl_then hB hb
 replace lb_xb:=lbc xb0
 replace lb_xb1:=lbc xb10
 clear hb
 go_wp2_with fail
 refine(HDR.out _ (HI.out.bl hB)).mono ?_
 rintro e w5 ⟨rfl,hb⟩
 have hsz4:w4.heap.size+0≤w5.heap.size:=szl hb
 replace c1:=bl_cell hb c1
 replace xb0:=bl_cell hb xb0
 replace xb1:=bl_cell hb xb1
 replace xb2:=bl_cell hb xb2
 replace xb3:=bl_cell hb xb3
 replace xb4:=bl_cell hb xb4
 replace xb5:=bl_cell hb xb5
 replace xb6:=bl_cell hb xb6
 replace xb7:=bl_cell hb xb7
 replace xb8:=bl_cell hb xb8
 replace xb9:=bl_cell hb xb9
 replace xb10:=bl_cell hb xb10
 replace hB:Below w.heap.size w w5:=bl_then hB hb
 replace lb_xb:=lbc xb0
 replace lb_xb1:=lbc xb10
 clear hb
 go_wp2_with fail
 go_ret
 exact⟨rfl,hB⟩
theorem csset_fresh (x:Cl) (a:Option Addr) (n c:Nat) (now:Int) {i:CI} (hk:i.x.key=x.key) (h:CsI w p room nx m (A ++ i :: B)) (hl:LogAt w a n c x.st.log) (hs:x.key.length≤maxLen) (hnx:nx<4611686018427387904) (hr:rightP x.pol x.st=true) (hf:cFresh now x=true) :
  Calls Tryz.prog 40 #[.pointer (some ⟨p.b,0,none⟩),x.v a n c,.int .i64 now] w fun e w'=>e=.returned (.int .i64 0)∧∃ p':CsP,p'.b=p.b∧CsI w' p' room nx (iDel i.v m) (A ++ B)∧Only (CF p) w w'∧∀ q,CF p' q→CF p q∨w.heap.size≤q:=by
 have c1:=h.mm.c1
 obtain⟨lb_p,lb_m⟩:=h.mm.lt
 have hsz:(ktx x.key).size≤maxLen:=by rw[ktx_size];exact hs
 have htb:=h.tb
 rw[kv_mid,hk,← ktx_list x.key] at htb
 have hpk:=fun W hW=>lpeek_some (p:=p.tp) (r:=room) (A:=A.map CI.kv) (B:=B.map CI.kv) (v:=i.v) (ktx x.key) W hW hsz
 have hdr:=fun W (hW:CsI W p room nx m (A ++ i :: B))=>cdrop_some (ktx x.key) hW hsz (by rw[ktx_list];exact hk) hnx
 have hrt:=fun W hW=>lright_any x.pol x.st a n c W hW
 rw[hr] at hrt
 have hfr:=fun W hW=>cfresh_any x a n c now W hW
 rw[hf] at hfr
 obtain⟨key,⟨k,l,d,b,cc,o⟩,⟨at_,level,held,L⟩⟩:=x
 unfold Cl.v at *
 unfold Pol.v St.v at *
 dsimp only at *
 generalize ktx key=KY at *
 have HLG:=Go.Lib.hid hl
 have HTB:=Go.Lib.hid htb
 have HI:=Go.Lib.hid h
 clear h hl htb hr hf hk
 have HPK:=Go.Lib.hid hpk
 have HRT:=Go.Lib.hid hrt
 have HFR:=Go.Lib.hid hfr
 have HDR:=Go.Lib.hid hdr
 clear hpk hrt hfr hdr
 go_enter Tryz.func40,Tryz.ntmps40
 go_wp2_with fail
 skip
 refine wp_abs (S0:=fun X=>(fun w'=>w'.cell? ⟨p.b,1,none⟩=some (.pointer (some ⟨p.tp.b,0,none⟩))∧w'.cell? ⟨w.heap.size,0,none⟩=some (.string KY)∧w'.cell? ⟨w.heap.size,1,none⟩=some (.int .i64 k)∧w'.cell? ⟨w.heap.size,2,none⟩=some (.int .i64 l)∧w'.cell? ⟨w.heap.size,3,none⟩=some (.int .i64 d)∧w'.cell? ⟨w.heap.size,4,none⟩=some (.int .i64 b)∧w'.cell? ⟨w.heap.size,5,none⟩=some (.int .i64 cc)∧w'.cell? ⟨w.heap.size,6,none⟩=some (.bool o)∧w'.cell? ⟨w.heap.size,7,none⟩=some (.int .i64 at_)∧w'.cell? ⟨w.heap.size,8,none⟩=some (.int .i64 level)∧w'.cell? ⟨w.heap.size,9,none⟩=some (.int .i64 held)∧w'.cell? ⟨w.heap.size,10,none⟩=some (.slice a n c)∧Below w.heap.size w w') X∧w.heap.size+1≤X.heap.size) ⟨⟨bl_cell k1 c1,by go_simp,by go_simp,by go_simp,by go_simp,by go_simp,by go_simp,by go_simp,by go_simp,by go_simp,by go_simp,by go_simp,k1⟩,by simp⟩ ?_
 clear c1
 rintro w1 ⟨⟨c1,xb0,xb1,xb2,xb3,xb4,xb5,xb6,xb7,xb8,xb9,xb10,hB⟩,hsz1⟩
 have lb_xb:=lbc xb0
 have lb_xb1:=lbc xb10
 refine wp_region_held_drew (S:=fun w'=>w'.cell? ⟨p.b,1,none⟩=some (.pointer (some ⟨p.tp.b,0,none⟩))∧w'.cell? ⟨w.heap.size,0,none⟩=some (.string KY)∧w'.cell? ⟨w.heap.size,1,none⟩=some (.int .i64 k)∧w'.cell? ⟨w.heap.size,2,none⟩=some (.int .i64 l)∧w'.cell? ⟨w.heap.size,3,none⟩=some (.int .i64 d)∧w'.cell? ⟨w.heap.size,4,none⟩=some (.int .i64 b)∧w'.cell? ⟨w.heap.size,5,none⟩=some (.int .i64 cc)∧w'.cell? ⟨w.heap.size,6,none⟩=some (.bool o)∧w'.cell? ⟨w.heap.size,7,none⟩=some (.int .i64 at_)∧w'.cell? ⟨w.heap.size,8,none⟩=some (.int .i64 level)∧w'.cell? ⟨w.heap.size,9,none⟩=some (.int .i64 held)∧w'.cell? ⟨w.heap.size,10,none⟩=some (.slice a n c)∧Below w.heap.size w w') (by kernel_rfl) ?_ (fun hHeld=>?_)
 ·exact⟨c1,xb0,xb1,xb2,xb3,xb4,xb5,xb6,xb7,xb8,xb9,xb10,bl_drew hB⟩
 try simp only[Act.put,List.setIfInBounds_toArray,List.set_cons_zero,List.set_cons_succ]
 refine tkx 0 ?_
 refine tkx 1 ?_
 refine tkx 2 ?_
 refine tkx 3 ?_
 refine tkx 4 ?_
 refine tkx 5 ?_
 (refine callH (i:=6) rfl hHeld (fun W hW K hK=>?_);clear hHeld;(try dsimp only at hW);obtain⟨h_c1,h_xb0,h_xb1,h_xb2,h_xb3,h_xb4,h_xb5,h_xb6,h_xb7,h_xb8,h_xb9,h_xb10,h_B⟩:=hW;go_simp;refine(HPK.out W (tabl_bl HTB.out h_B)).mono ?_;rintro e w9 ⟨rfl,hb⟩;go_wp2_with fail;refine hK.out _ _ ?_ (fun hHeld=>?_);(focus((try dsimp only);exact⟨bl_cell hb h_c1,bl_cell hb h_xb0,bl_cell hb h_xb1,bl_cell hb h_xb2,bl_cell hb h_xb3,bl_cell hb h_xb4,bl_cell hb h_xb5,bl_cell hb h_xb6,bl_cell hb h_xb7,bl_cell hb h_xb8,bl_cell hb h_xb9,bl_cell hb h_xb10,bl_then h_B hb⟩));clear hK K;clear h_c1 h_xb0 h_xb1 h_xb2 h_xb3 h_xb4 h_xb5 h_xb6 h_xb7 h_xb8 h_xb9 h_xb10 h_B;try simp only[Act.put,List.setIfInBounds_toArray,List.set_cons_zero,List.set_cons_succ])
 refine tkx 7 ?_
 refine tkx 8 ?_
 refine tkx 9 ?_
 refine tkx 10 ?_
 refine tkx 11 ?_
 refine wpAnyH_done (by kernel_rfl) ?_ _
 refine then_abs (F:=fun w'=>w'.cell? ⟨p.b,1,none⟩=some (.pointer (some ⟨p.tp.b,0,none⟩))∧w'.cell? ⟨w.heap.size,0,none⟩=some (.string KY)∧w'.cell? ⟨w.heap.size,1,none⟩=some (.int .i64 k)∧w'.cell? ⟨w.heap.size,2,none⟩=some (.int .i64 l)∧w'.cell? ⟨w.heap.size,3,none⟩=some (.int .i64 d)∧w'.cell? ⟨w.heap.size,4,none⟩=some (.int .i64 b)∧w'.cell? ⟨w.heap.size,5,none⟩=some (.int .i64 cc)∧w'.cell? ⟨w.heap.size,6,none⟩=some (.bool o)∧w'.cell? ⟨w.heap.size,7,none⟩=some (.int .i64 at_)∧w'.cell? ⟨w.heap.size,8,none⟩=some (.int .i64 level)∧w'.cell? ⟨w.heap.size,9,none⟩=some (.int .i64 held)∧w'.cell? ⟨w.heap.size,10,none⟩=some (.slice a n c)∧Below w.heap.size w w') hHeld ?_
 clear hHeld hB c1 xb0 xb1 xb2 xb3 xb4 xb5 xb6 xb7 xb8 xb9 xb10
 rintro w2 ⟨c1,xb0,xb1,xb2,xb3,xb4,xb5,xb6,xb7,xb8,xb9,xb10,hB⟩
 replace lb_xb:=lbc xb0
 replace lb_xb1:=lbc xb10
 go_wp2_with fail
 refine(HRT.out _ (log_bl HLG.out hB)).mono ?_
 rintro e w3 ⟨rfl,hb⟩
 have hsz2:w2.heap.size+0≤w3.heap.size:=szl hb
 replace c1:=bl_cell hb c1
 replace xb0:=bl_cell hb xb0
 replace xb1:=bl_cell hb xb1
 replace xb2:=bl_cell hb xb2
 replace xb3:=bl_cell hb xb3
 replace xb4:=bl_cell hb xb4
 replace xb5:=bl_cell hb xb5
 replace xb6:=bl_cell hb xb6
 replace xb7:=bl_cell hb xb7
 replace xb8:=bl_cell hb xb8
 replace xb9:=bl_cell hb xb9
 replace xb10:=bl_cell hb xb10
 replace hB:Below w.heap.size w w3:=bl_then hB hb
 replace lb_xb:=lbc xb0
 replace lb_xb1:=lbc xb10
 clear hb
 go_wp2_with fail
 refine(HFR.out _ (log_bl HLG.out hB)).mono ?_
 rintro e w4 ⟨rfl,hb⟩
 have hsz3:w3.heap.size+0≤w4.heap.size:=szl hb
 replace c1:=bl_cell hb c1
 replace xb0:=bl_cell hb xb0
 replace xb1:=bl_cell hb xb1
 replace xb2:=bl_cell hb xb2
 replace xb3:=bl_cell hb xb3
 replace xb4:=bl_cell hb xb4
 replace xb5:=bl_cell hb xb5
 replace xb6:=bl_cell hb xb6
 replace xb7:=bl_cell hb xb7
 replace xb8:=bl_cell hb xb8
 replace xb9:=bl_cell hb xb9
 replace xb10:=bl_cell hb xb10
 replace hB:Below w.heap.size w w4:=bl_then hB hb
 replace lb_xb:=lbc xb0
 replace lb_xb1:=lbc xb10
 clear hb
 go_wp2_with fail
 refine(HDR.out _ (HI.out.bl hB)).mono ?_
 rintro e w9 ⟨rfl,hpost⟩
 have HP:=Go.Lib.hid hpost
 clear hpost
 go_wp2_with fail
 go_ret
 obtain⟨p',h1,h2,h3,h4⟩:=HP.out
 exact⟨rfl,p',h1,h2,(Only.of_below hB).trans h3,fun q hq=>(h4 q hq).imp id (fun e=>Nat.le_trans hB.size e)⟩
end Go.Proofs.YtmhikkbdhboodaaGreat
