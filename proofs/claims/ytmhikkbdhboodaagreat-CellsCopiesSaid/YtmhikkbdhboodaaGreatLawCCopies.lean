/-
  The statement CellsCopies of this seat: for every input the law returns true, and each argument reads afterwards as it read before. No condition.
-/
import Derived.Test.YtmhikkbdhboodaaGreatZcX
import Derived.Test.YtmhikkbdhboodaaGreatRows
import Derived.WalkKit
import Derived.ProofKit
import Derived.OpenShut
import Derived.ShutString
import Derived.ChangeOld
import Derived.Below
namespace Go.Proofs.YtmhikkbdhboodaaGreat
open Go.RowKit Go.Maps
set_option linter.unusedVariables false
set_option linter.unusedSimpArgs false

theorem Only.trans' {F G:Nat→Prop} {a b c:World} (h:Only F a b) (k:Only G b c) (hG:∀ q,G q→F q∨a.heap.size≤q):Only F a c :=
 ⟨k.os.trans h.os,k.tape.trans h.tape,k.output.trans h.output,Nat.le_trans h.size k.size,fun i hi hf=>(k.block i (Nat.lt_of_lt_of_le hi h.size) (fun hg=>(hG i hg).elim hf (fun hh=>by omega))).trans (h.block i hi hf)⟩
variable {w w':World} {p p':CsP} {room nx nx':Nat} {m m':List (Int × Value)} {I:List CI} {L:List Cl}
theorem cells_right (h:CellsAt w p room nx L):∀ x ∈ L,rightP x.pol x.st=true∧x.key.length≤maxLen:=by
 obtain⟨I,⟨m,h⟩,rfl⟩:=h
 intro x hx
 obtain⟨i,hi,rfl⟩:=List.mem_map.1 hx
 exact⟨(h.ci i hi).right,h.tb.short i.kv (List.mem_map.2 ⟨i,hi,rfl⟩)⟩
/-- A cell laid behind the others, its log where it lies. -/
theorem CsI.laid2 {x:Cl} {v:Int} {a':Option Addr} {n c':Nat} (hci:∀ j ∈ I,CiAt w p nx m j) (hnd:(I.map (·.v)).Nodup) (hnx:nx≤nx') (hm:CsM w' p' room nx' (iPut v (x.v a' n c') m')) (ht:TabL w' p'.tp room (I.map CI.kv ++ [(x.key,v)]))
  (hO:Only (CF p) w w') (hF:∀ q,CF p' q→CF p q∨w.heap.size≤q) (hlg:LogAt w' a' n c' x.st.log) (hfar:∀ ad,a'=some ad→n≠0→¬ CF p' ad.block) (hr:rightP x.pol x.st=true)
  (hv0:0<v) (hv1:v≤nx') (hnew:∀ j ∈ I,j.v≠v) (hget:∀ j ∈ I,iGet j.v m'=iGet j.v m) (hlen:(iPut v (x.v a' n c') m').length=I.length+1) :
  CsI w' p' room nx' (iPut v (x.v a' n c') m') (I ++ [⟨v,x,a',n,c'⟩]):=by
 refine⟨hm,by rw[List.map_append];exact ht,fun j hj=>?_,?_,by rw[hlen,List.length_append];rfl⟩
 ·rcases List.mem_append.1 hj with hj|hj
  ·exact(hci j hj).move hO hF hnx (by rw[iGet_put,if_neg (fun e=>hnew j hj e.symm)];exact hget j hj)
  ·have:=List.mem_singleton.1 hj
   subst this
   exact⟨by rw[iGet_put,if_pos rfl];rfl,hlg,hfar,hv0,hv1,hr⟩
 ·rw[List.map_append,List.nodup_append]
  refine⟨hnd,by simp,fun b hb d hd=>?_⟩
  obtain⟨j,hj,rfl⟩:=List.mem_map.1 hb
  have:d=v:=by simpa using hd
  rw[this]
  exact hnew j hj
set_option maxHeartbeats 8000000 in
set_option maxRecDepth 100000 in
theorem ccopy_any (h:CellsAt w p room nx L) (hnx:nx<1000000):Calls Tryz.prog 45 #[.pointer (some ⟨p.b,0,none⟩)] w fun e w'=>∃ p':CsP,e=.returned (.pointer (some ⟨p'.b,0,none⟩))∧CellsAt w' p' room L.length L∧Below w.heap.size w w'∧∀ q,CF p' q→w.heap.size≤q:=by
 have hrm:=(cells_room h).2
 have hL:=(cells_room h).1
 have hro:roomOf (room:Int)=room:=by unfold roomOf;omega
 have HAP:=Go.Lib.hid (cells_apart h)
 have HRI:=Go.Lib.hid (cells_right h)
 have HC:=Go.Lib.hid h
 have c0:w.cell? ⟨p.b,0,none⟩=some (.int .i64 (room:Int)):=by obtain⟨I,⟨m,h⟩,-⟩:=h;exact h.mm.c0
 clear h
 go_enter Tryz.func45,Tryz.ntmps45
 go_wp2_with fail
 refine(csnew_any (room:Int) _).mono ?_
 rintro e w1 ⟨p1,rfl,hc1,hb1,hF1⟩
 rw[hro] at hc1
 have HC1:=Go.Lib.hid (cells_bl HC.out hb1)
 have hall:=csall_any HC1.out (by omega)
 have hs01:=hb1.size
 have HB1:=Go.Lib.hid hb1
 have HC2:=Go.Lib.hid hc1
 have HF1:=Go.Lib.hid hF1
 have HALL:=Go.Lib.hid hall
 clear hc1 hb1 hF1 hall c0 HC
 go_wp2_with fail
 refine HALL.out.mono ?_
 rintro e w2 ⟨v,Js,rfl,hrow,hmj,how,hb2⟩
 obtain⟨ra,rc,rfl⟩:=cs_form hrow.1
 obtain⟨N,hN⟩:∃ N,N=Js.length:=⟨_,rfl⟩
 rw[← hN]
 have hNL:N=L.length:=by rw[hN,← hmj,List.length_map]
 have hs12:=hb2.size
 have hge:∀ i ∈ Js,∀ ad,i.a=some ad→i.n≠0→w1.heap.size≤ad.block:=fun i hi ad e hn=>own_ge (how i hi) ad e hn
 have hlt:∀ i ∈ Js,∀ ad,i.a=some ad→i.n≠0→ad.block<w2.heap.size:=fun i hi ad e hn=>clog_lt (hrow.2 i hi) ad e hn
 have hrow2:CRow w2 w1.heap.size (.slice ra N rc) Js:=by rw[hN];exact hrow
 have HROW:=Go.Lib.hid hrow2
 have HGE:=Go.Lib.hid hge
 have HLT:=Go.Lib.hid hlt
 have HMJ:=Go.Lib.hid hmj
 have HN:=Go.Lib.hid hN
 have hcp:=cells_bl HC2.out hb2
 have HCP:=Go.Lib.hid hcp
 have hfl:∀ q,CF p1 q→w.heap.size≤q∧q<w1.heap.size:=fun q hq=>⟨HF1.out q hq,cells_lt HC2.out q hq⟩
 have HFL:=Go.Lib.hid hfl
 have HB2:=Go.Lib.hid (bl_then HB1.out hb2)
 have HNL:=Go.Lib.hid hNL
 have HL:=Go.Lib.hid hL
 have hN1:N≤room:=by omega
 clear hrow hrow2 hmj how hb2 hge hlt hcp hfl hN hNL hL hro HALL HC1 HC2 HF1
 go_wp2_with fail
 go_loopw [16] (fun s16 wr=>∃ j:Nat,s16=.int .i64 j∧j≤N∧Hid (∃ (p2:CsP) (I:List CI) (m:List (Int × Value)),p2.b=p1.b∧CsI wr p2 room j m I∧I.map (·.x)=L.take j∧(∀ q,CF p2 q→(w.heap.size≤q∧q<w1.heap.size)∨w2.heap.size≤q)∧Only (fun q=>w.heap.size≤q∧q<w1.heap.size) w2 wr)) (fun s16 _=>N - (intOf s16).toNat)
 case atStart =>
  obtain⟨I,⟨m,hI⟩,hIe⟩:=HCP.out
  exact⟨0,rfl,Nat.zero_le _,⟨p1,I,m,rfl,hI,by rw[hIe];rfl,fun q hq => .inl (HFL.out q hq),Only.of_below (bl_refl _)⟩⟩
 case round =>
  obtain⟨j,rfl,hj,H⟩:=hrel
  obtain⟨⟨b1,tp1,mb1⟩,I,m,hpb,hI,hIL,hCF,hO⟩:=H.out
  clear H
  dsimp only at hpb
  subst hpb
  have hsr:=hO.size
  by_cases hjN:j<N
  ·obtain ⟨i,hij⟩:∃ i,Js[j]?=some i:=⟨Js[j]'(by rw[← HN.out];exact hjN),List.getElem?_eq_getElem _⟩
   have hrw:CRow wr w1.heap.size (.slice ra N rc) Js:=⟨row_frame HROW.out.1 fun k hk=>hO.block k (World.ownsRow.lt HROW.out.1 k hk).2 (fun hq=>by have:=(World.ownsRow.lt HROW.out.1 k hk).1;omega),fun i hi=>log_only (HROW.out.2 i hi) hO fun ad e hn hq=>by have:=HGE.out i hi ad e hn;omega⟩
   have hlog:=hrw.2 i (List.mem_of_getElem? hij)
   obtain⟨g,cap,e,rc0,rc1,rc2,rc3,rc4,rc5,rc6,rc7,rc8,rc9,rc10⟩:=crow_at hrw hij
   injection e with e1 e2 e3
   subst e1 e3
   have k0:(0:Int)≤(j:Int):=by omega
   have k1:(j:Int)<(N:Int):=by omega
   have hms:N - (j+1)<N - j:=by omega
   have hLj:L[j]?=some i.x:=by rw[← HMJ.out,List.getElem?_map,hij];rfl
   have hge:=HGE.out i (List.mem_of_getElem? hij)
   have hlt:=HLT.out i (List.mem_of_getElem? hij)
   have hxr:=HRI.out i.x (List.mem_of_getElem? hLj)
   have hnew:∀ e ∈ I.map CI.kv,e.1≠i.x.key:=fun e he=>by
    obtain⟨i',hi',rfl⟩:=List.mem_map.1 he
    have h1:i'.x ∈ L.take j:=by rw[← hIL];exact List.mem_map.2 ⟨i',hi',rfl⟩
    have hnd:=HAP.out
    unfold Apart at hnd
    rw[(split_nth hLj).1,List.map_append,List.map_cons,List.nodup_append] at hnd
    exact hnd.2.2 _ (List.mem_map.2 ⟨i'.x,h1,rfl⟩) _ (List.mem_cons_self ..)
   have hIl:I.length=j:=by have hNL:=HNL.out;have h1:=congrArg List.length hIL;rw[List.length_map,List.length_take] at h1;omega
   have hlen:(I.map CI.kv).length<room:=by rw[List.length_map];omega
   have hml:m.length<maxLen:=by rw[hI.len];simp only[maxLen];omega
   have htk:=(split_nth hLj).2
   have hput:=fun v W (h:TabL W tp1 room (I.map CI.kv))=>lput_new (ktx i.x.key) v W h (by rw[ktx_size];exact hxr.2) (by rw[ktx_list];exact hnew) hlen
   have hwf:=wf_next (nx:=j) (by omega)
   have hfar:∀ ad,i.a=some ad→i.n≠0→¬ CF (⟨p1.b,tp1,mb1⟩:CsP) ad.block:=fun ad e hn hq=>by have h1:=hge ad e hn;have h2:=hlt ad e hn;rcases hCF _ hq with h|h <;> omega
   have c1:=hI.mm.c1
   have c2:=hI.mm.c2
   have c3:=hI.mm.c3
   have fz3:=hI.mm.fz 3 (by omega)
   have hbt:=hI.mm.bt
   have hbm:=hI.mm.bm
   dsimp only at c1 c2 c3 fz3 hbt hbm
   have lbb:=World.block_lt_of_cell? _ _ c1
   dsimp only at lbb
   have hcflt:=hI.lt
   simp only[ktx_list] at hput
   have HI:=Go.Lib.hid hI
   have HIL:=Go.Lib.hid hIL
   have HCFO:=Go.Lib.hid hCF
   have HOO:=Go.Lib.hid hO
   have HIJ:=Go.Lib.hid hij
   have HTK:=Go.Lib.hid htk
   have HXR:=Go.Lib.hid hxr
   have HNEW:=Go.Lib.hid hnew
   have HML:=Go.Lib.hid hml
   have HFAR:=Go.Lib.hid hfar
   have HLG:=Go.Lib.hid hlog
   have HGEI:=Go.Lib.hid hge
   have HLTI:=Go.Lib.hid hlt
   have HIL2:=Go.Lib.hid hIl
   have HWF:=Go.Lib.hid hwf
   have HPUT:=Go.Lib.hid hput
   have HCLT:=Go.Lib.hid hcflt
   clear hI hIL hCF hO hij htk hxr hnew hml hfar hlog hge hlt hIl hwf hput hrw hLj hlen e2 hcflt
   obtain⟨⟨key,⟨k,l,d,b,cc,o⟩,⟨at_,level,held,LG⟩⟩,a,n,c⟩:=i
   dsimp only at *
   generalize hKT:ktx key=KY at *
   have HKT:=Go.Lib.hid hKT
   clear hKT
   go_wp2_with fail
   have hm1:=HI.out.mm.next
   have hB0:Below (wr.setCell ⟨p1.b,3,none⟩ (.int .i64 ((j:Int)+1))).heap.size (wr.setCell ⟨p1.b,3,none⟩ (.int .i64 ((j:Int)+1))) ((wr.setCell ⟨p1.b,3,none⟩ (.int .i64 ((j:Int)+1))).alloc (.cells #[.string KY,.int .i64 k,.int .i64 l,.int .i64 d,.int .i64 b,.int .i64 cc,.bool o,.int .i64 at_,.int .i64 level,.int .i64 held,.slice a n c] 59)):=bl_alloc (bl_refl _) _
   have hm0:=hm1.frame (hB0.block _ hm1.lt.1) (hB0.block _ hm1.lt.2)
   have ht0:=tabl_bl (tab_set (ad:=⟨p1.b,3,none⟩) HI.out.tb hbt (.int .i64 ((j:Int)+1))) hB0
   have hO0:Only (CF (⟨p1.b,tp1,mb1⟩:CsP)) wr ((wr.setCell ⟨p1.b,3,none⟩ (.int .i64 ((j:Int)+1))).alloc (.cells #[.string KY,.int .i64 k,.int .i64 l,.int .i64 d,.int .i64 b,.int .i64 cc,.bool o,.int .i64 at_,.int .i64 level,.int .i64 held,.slice a n c] 59)):=((Only.of_below (bl_refl wr)).set (a:=⟨p1.b,3,none⟩) (.inl rfl) (.int .i64 ((j:Int)+1))).trans (Only.of_below hB0)
   clear hm1
   dsimp only at hm0 ht0
   have hqne:p1.b≠wr.heap.size:=by omega
   have hqne2:wr.heap.size≠p1.b:=by omega
   refine wp_abs (S0:=fun X=>CsM X (⟨p1.b,tp1,mb1⟩:CsP) room (j+1) m∧TabL X tp1 room (I.map CI.kv)∧Only (CF (⟨p1.b,tp1,mb1⟩:CsP)) wr X∧wr.heap.size<X.heap.size∧X.cell? ⟨wr.heap.size,0,none⟩=some (.string KY)∧X.cell? ⟨wr.heap.size,1,none⟩=some (.int .i64 k)∧X.cell? ⟨wr.heap.size,2,none⟩=some (.int .i64 l)∧X.cell? ⟨wr.heap.size,3,none⟩=some (.int .i64 d)∧X.cell? ⟨wr.heap.size,4,none⟩=some (.int .i64 b)∧X.cell? ⟨wr.heap.size,5,none⟩=some (.int .i64 cc)∧X.cell? ⟨wr.heap.size,6,none⟩=some (.bool o)∧X.cell? ⟨wr.heap.size,7,none⟩=some (.int .i64 at_)∧X.cell? ⟨wr.heap.size,8,none⟩=some (.int .i64 level)∧X.cell? ⟨wr.heap.size,9,none⟩=some (.int .i64 held)∧X.cell? ⟨wr.heap.size,10,none⟩=some (.slice a n c)) ⟨hm0,ht0,hO0,by simp,by go_simp,by go_simp,by go_simp,by go_simp,by go_simp,by go_simp,by go_simp,by go_simp,by go_simp,by go_simp,by go_simp⟩ ?_
   clear hm0 ht0 hO0 hB0 c1 c2 c3 fz3 rc0 rc1 rc2 rc3 rc4 rc5 rc6 rc7 rc8 rc9 rc10
   rintro v1 ⟨hm0,ht0,hO0,hsv,xb0,xb1,xb2,xb3,xb4,xb5,xb6,xb7,xb8,xb9,xb10⟩
   have c1:=hm0.c1
   have c2:=hm0.c2
   have c3:=hm0.c3
   dsimp only at c1 c2 c3
   have hxF:¬ CF (⟨p1.b,tp1,mb1⟩:CsP) wr.heap.size:=fun hq=>by have:=HCLT.out _ hq;omega
   have hTx:¬ TF tp1 wr.heap.size:=fun hq=>hxF (.inr (.inr hq))
   have hxm:wr.heap.size≠mb1:=fun e=>hxF (.inr (.inl e))
   have hTF1:∀ q,TF tp1 q→CF (⟨p1.b,tp1,mb1⟩:CsP) q∨wr.heap.size≤q:=fun q hq => .inl (.inr (.inr hq))
   refine wp_region_held_drew (S:=fun X=>X.cell? ⟨p1.b,1,none⟩=some (.pointer (some ⟨tp1.b,0,none⟩))∧X.cell? ⟨wr.heap.size,0,none⟩=some (.string KY)∧X.cell? ⟨p1.b,3,none⟩=some (.int .i64 ((j:Int)+1))) (by kernel_rfl) ?_ (fun hHeld=>?_)
   ·exact⟨c1,xb0,c3⟩
   try simp only[Act.put,List.setIfInBounds_toArray,List.set_cons_zero,List.set_cons_succ]
   refine wpAnyH_abs (F:=fun X=>CsM X (⟨p1.b,tp1,mb1⟩:CsP) room (j+1) m∧TabL X tp1 room (I.map CI.kv)∧Only (CF (⟨p1.b,tp1,mb1⟩:CsP)) wr X∧wr.heap.size<X.heap.size∧X.cell? ⟨p1.b,2,none⟩=some (.map (some mb1))∧X.cell? ⟨wr.heap.size,0,none⟩=some (.string KY)∧X.cell? ⟨wr.heap.size,1,none⟩=some (.int .i64 k)∧X.cell? ⟨wr.heap.size,2,none⟩=some (.int .i64 l)∧X.cell? ⟨wr.heap.size,3,none⟩=some (.int .i64 d)∧X.cell? ⟨wr.heap.size,4,none⟩=some (.int .i64 b)∧X.cell? ⟨wr.heap.size,5,none⟩=some (.int .i64 cc)∧X.cell? ⟨wr.heap.size,6,none⟩=some (.bool o)∧X.cell? ⟨wr.heap.size,7,none⟩=some (.int .i64 at_)∧X.cell? ⟨wr.heap.size,8,none⟩=some (.int .i64 level)∧X.cell? ⟨wr.heap.size,9,none⟩=some (.int .i64 held)∧X.cell? ⟨wr.heap.size,10,none⟩=some (.slice a n c)) hHeld ⟨hm0.frame rfl rfl,ht0.frame (fun _ _=>rfl),hO0.drew,hsv,c2,xb0,xb1,xb2,xb3,xb4,xb5,xb6,xb7,xb8,xb9,xb10⟩ ?_
   clear hHeld hm0 ht0 hO0 c1 c2 c3 hsv xb0 xb1 xb2 xb3 xb4 xb5 xb6 xb7 xb8 xb9 xb10
   rintro X0 hHeld ⟨hm0,ht0,hO0,hsv,c2,xb0,xb1,xb2,xb3,xb4,xb5,xb6,xb7,xb8,xb9,xb10⟩
   refine tkx 0 ?_
   refine tkx 1 ?_
   refine tkx 2 ?_
   refine tkx 3 ?_
   refine tkx 4 ?_
   refine tkx 5 ?_
   refine tkx 6 ?_
   refine tkx 7 ?_
   refine tkx 8 ?_
   refine tkx 9 ?_
   refine callC (i:=10) rfl (fun K hK=>?_)
   obtain⟨h_c1,h_xb0,h_c3⟩:=(id hHeld)
   go_simp
   refine(HPUT.out _ _ ht0).mono ?_
   rintro e X7 ⟨rfl,tp2,hb2,htl,hO,hTF⟩
   have HO7:=Go.Lib.hid hO
   have HTL7:=Go.Lib.hid htl
   clear hO htl
   go_wp2_with fail
   refine hK.out _ _ ?_ (fun hHeld2=>?_)
   ·exact⟨only_cell HO7.out h_c1 hbt,only_cell HO7.out h_xb0 hTx,only_cell HO7.out h_c3 hbt⟩
   have c3:=only_cell HO7.out h_c3 hbt
   clear hHeld hK K h_c1 h_xb0 h_c3
   have hHeld:=hHeld2
   clear hHeld2
   try simp only[Act.put,List.setIfInBounds_toArray,List.set_cons_zero,List.set_cons_succ]
   refine wpAnyH_done (by kernel_rfl) ?_ _
   clear hHeld
   have hm7:=hm0.tab (tp:=tp2) HO7.out hTF hb2
   have hO7:Only (CF (⟨p1.b,tp1,mb1⟩:CsP)) wr X7:=only_grow hO0 HO7.out hTF1
   have hF7:∀ q,CF ⟨p1.b,tp2,mb1⟩ q→CF (⟨p1.b,tp1,mb1⟩:CsP) q∨wr.heap.size≤q:=fun q hq=>by
    rcases hq with rfl|rfl|hq
    ·exact .inl (.inl rfl)
    ·exact .inl (.inr (.inl rfl))
    ·exact(hTF q hq).elim (fun h=>hTF1 q h) (fun h => .inr (Nat.le_trans hO0.size h))
   replace c2:=only_cell HO7.out c2 hbt
   replace xb0:=only_cell HO7.out xb0 hTx
   replace xb1:=only_cell HO7.out xb1 hTx
   replace xb2:=only_cell HO7.out xb2 hTx
   replace xb3:=only_cell HO7.out xb3 hTx
   replace xb4:=only_cell HO7.out xb4 hTx
   replace xb5:=only_cell HO7.out xb5 hTx
   replace xb6:=only_cell HO7.out xb6 hTx
   replace xb7:=only_cell HO7.out xb7 hTx
   replace xb8:=only_cell HO7.out xb8 hTx
   replace xb9:=only_cell HO7.out xb9 hTx
   replace xb10:=only_cell HO7.out xb10 hTx
   have hsv7:=Nat.lt_of_lt_of_le hsv HO7.out.size
   have HTL:=Go.Lib.hid HTL7.out
   have HM7:=Go.Lib.hid hm7
   have HO77:=Go.Lib.hid hO7
   have HF7:=Go.Lib.hid hF7
   have hsvx:=hsv7
   clear hm0 ht0 hO0 hm7 hO7 hF7 HO7 HTL7 hTF hsv hsv7
   go_wp2_with fail
   refine wp_region_held_drew (S:=fun X=>X.cell? ⟨p1.b,2,none⟩=some (.map (some mb1))∧X.cell? ⟨p1.b,3,none⟩=some (.int .i64 ((j:Int)+1))∧X.cell? ⟨wr.heap.size,0,none⟩=some (.string KY)∧X.cell? ⟨wr.heap.size,1,none⟩=some (.int .i64 k)∧X.cell? ⟨wr.heap.size,2,none⟩=some (.int .i64 l)∧X.cell? ⟨wr.heap.size,3,none⟩=some (.int .i64 d)∧X.cell? ⟨wr.heap.size,4,none⟩=some (.int .i64 b)∧X.cell? ⟨wr.heap.size,5,none⟩=some (.int .i64 cc)∧X.cell? ⟨wr.heap.size,6,none⟩=some (.bool o)∧X.cell? ⟨wr.heap.size,7,none⟩=some (.int .i64 at_)∧X.cell? ⟨wr.heap.size,8,none⟩=some (.int .i64 level)∧X.cell? ⟨wr.heap.size,9,none⟩=some (.int .i64 held)∧X.cell? ⟨wr.heap.size,10,none⟩=some (.slice a n c)) (by kernel_rfl) ?_ (fun hHeld=>?_)
   ·exact⟨c2,c3,xb0,xb1,xb2,xb3,xb4,xb5,xb6,xb7,xb8,xb9,xb10⟩
   try simp only[Act.put,List.setIfInBounds_toArray,List.set_cons_zero,List.set_cons_succ]
   refine wpAnyH_abs (F:=fun X=>CsM X ⟨p1.b,tp2,mb1⟩ room (j+1) m∧TabL X tp2 room (I.map CI.kv ++ [(key,(j:Int)+1)])∧Only (CF (⟨p1.b,tp1,mb1⟩:CsP)) wr X) hHeld ⟨HM7.out.frame rfl rfl,HTL.out.frame (fun _ _=>rfl),HO77.out.drew⟩ ?_
   clear hHeld c2 c3 HM7 HTL HO77 xb0 xb1 xb2 xb3 xb4 xb5 xb6 xb7 xb8 xb9 xb10
   rintro Y6 hHeld ⟨hm,htl,hO⟩
   refine tkx 0 ?_
   refine tkx 1 ?_
   refine tkx 2 ?_
   refine tkx 3 ?_
   refine tkx 4 ?_
   refine tkx 5 ?_
   refine tkx 6 ?_
   refine tkx 7 ?_
   refine tkx 8 ?_
   have hmb:=hm.lt
   have htlt:=htl.lt
   obtain⟨Y7,hrun,hmap,hturn⟩:=imap_store hm.mp Tryz.underlying3 map_und HML.out ((j:Int)+1) HWF.out (.agg #[.string KY,.int .i64 k,.int .i64 l,.int .i64 d,.int .i64 b,.int .i64 cc,.bool o,.int .i64 at_,.int .i64 level,.int .i64 held,.slice a n c])
   replace hrun:(Instr.mapUpdate 93 (.map (some mb1)) (.int .i64 ((j:Int)+1)) (.agg #[.string KY,.int .i64 k,.int .i64 l,.int .i64 d,.int .i64 b,.int .i64 cc,.bool o,.int .i64 at_,.int .i64 level,.int .i64 held,.slice a n c])).run Tryz.prog Y6=.ok () Y7:=hrun
   have HM:=Go.Lib.hid (hm.turn hturn hmap)
   have HTL:=Go.Lib.hid (turn_tab hturn htl hm.mt)
   have HOM:=Go.Lib.hid (only_grow hO (turn_only (F:=fun k=>k=mb1) hturn rfl) (fun q hq=>by subst hq;exact .inl (.inr (.inl rfl))))
   clear hm htl hmap hO
   refine callC (i:=9) rfl (fun K hK=>?_)
   obtain⟨h_c2,h_c3,h_xb0,h_xb1,h_xb2,h_xb3,h_xb4,h_xb5,h_xb6,h_xb7,h_xb8,h_xb9,h_xb10⟩:=(id hHeld)
   go_simp
   refine hK.out _ _ ?_ (fun hHeld2=>?_)
   ·exact⟨turn_cell hturn h_c2 hbm,turn_cell hturn h_c3 hbm,turn_cell hturn h_xb0 hxm,turn_cell hturn h_xb1 hxm,turn_cell hturn h_xb2 hxm,turn_cell hturn h_xb3 hxm,turn_cell hturn h_xb4 hxm,turn_cell hturn h_xb5 hxm,turn_cell hturn h_xb6 hxm,turn_cell hturn h_xb7 hxm,turn_cell hturn h_xb8 hxm,turn_cell hturn h_xb9 hxm,turn_cell hturn h_xb10 hxm⟩
   clear hHeld hK K h_c2 h_c3 h_xb0 h_xb1 h_xb2 h_xb3 h_xb4 h_xb5 h_xb6 h_xb7 h_xb8 h_xb9 h_xb10
   have hHeld:=hHeld2
   clear hHeld2
   try simp only[Act.put,List.setIfInBounds_toArray,List.set_cons_zero,List.set_cons_succ]
   refine wpAnyH_done (by kernel_rfl) ?_ _
   clear hHeld
   have HTU:=Go.Lib.hid hturn
   clear hturn hrun
   go_wp2_with fail
   go_roundw
   case rel =>
    have hne:∀ i ∈ I,i.v≠(j:Int)+1:=fun i hi e=>by have:=(HI.out.ci i hi).hi;omega
    have hno:=HI.out.none_at hne
    have hlen:(iPut ((j:Int)+1) (Cl.v ⟨key,⟨k,l,d,b,cc,o⟩,⟨at_,level,held,LG⟩⟩ a n c) m).length=I.length+1:=by
     rw[iPut_len _ _ (imap_nodup HI.out.mm.mp Tryz.underlying3),hno,HI.out.len]
     rfl
    have hmm:CsM Y7 ⟨p1.b,tp2,mb1⟩ room (j+1) (iPut ((j:Int)+1) (Cl.v ⟨key,⟨k,l,d,b,cc,o⟩,⟨at_,level,held,LG⟩⟩ a n c) m):=by unfold Cl.v;dsimp only;rw[HKT.out];exact HM.out
    have hf7:∀ ad,a=some ad→n≠0→¬ CF (⟨p1.b,tp2,mb1⟩:CsP) ad.block:=fun ad e hn hq=>(HF7.out _ hq).elim (HFAR.out ad e hn) (fun h=>by have:=HLTI.out ad e hn;omega)
    have hlg:LogAt Y7 a n c LG:=log_only HLG.out HOM.out (HFAR.out)
    have hcs:=CsI.laid2 (x:=⟨key,⟨k,l,d,b,cc,o⟩,⟨at_,level,held,LG⟩⟩) (I:=I) (p:=(⟨p1.b,tp1,mb1⟩:CsP)) (nx:=j) (m:=m) (fun i hi=>HI.out.ci i hi) HI.out.nd (Nat.le_succ _) hmm HTL.out HOM.out HF7.out hlg hf7 HXR.out.1 (by omega) (by omega) hne (fun _ _=>rfl) hlen
    refine⟨j+1,by go_num,by omega,⟨⟨p1.b,tp2,mb1⟩,_,_,rfl,hcs,by rw[List.map_append,HIL.out,HTK.out];rfl,fun q hq=>?_,HOO.out.trans' HOM.out HCFO.out⟩⟩
    exact(HF7.out q hq).elim (fun h=>HCFO.out q h) (fun h => .inr (Nat.le_trans hsr h))
   case measure=>(simp[intOf];first|exact hms|omega)
  ·have hjn:j=N:=by omega
   subst hjn
   have hk1:¬ (j:Int)<(j:Int):=by omega
   go_wp2_with fail
   go_ret
   refine⟨⟨p1.b,tp1,mb1⟩,rfl,⟨I,⟨m,by rw[← HNL.out];exact hI⟩,by rw[hIL,List.take_of_length_le (by rw[← HNL.out];exact Nat.le_refl _)]⟩,bl_then2 HB2.out hO (fun q hq=>hq.1) (Nat.le_refl _),fun q hq=>?_⟩
   rcases hCF q hq with h|h
   ·exact h.1
   ·have:=HB2.out.size;omega
end Go.Proofs.YtmhikkbdhboodaaGreat

namespace Go.Proofs.YtmhikkbdhboodaaGreat
open Go.RowKit Go.Maps
set_option linter.unusedVariables false
set_option linter.unusedSimpArgs false

theorem leaves5 {α β γ δ ε:Type} {P:α→β→γ→δ→ε→Prop} {Goal:Prop} (G:α→β→γ→δ→ε→Prop) (main:(∀ a b c d e,P a b c d e→G a b c d e)→Goal) (cont:∀ a b c d e,P a b c d e→G a b c d e):Goal:=main cont
theorem sd_start2 {w1 wr w4:World} {tb b0 room k nx n c:Nat} {p p':CsP} {L:List Cl} {a:Option Addr} {Js:List LC} (h:Sd w1 wr tb b0 room k p nx L (.slice a n c) Js) (hc:CellsAt w4 p' room L.length L) (hb:Below wr.heap.size wr w4) (hF:∀ q,CF p' q→wr.heap.size≤q) :
  Sd wr (w4.alloc (.cells #[.int .i64 (room:Int),.slice a n c] 55)) w4.heap.size p'.b room L.length p' L.length L (.slice a n c) Js:=by
 have h2:=cells_lt hc
 have hz:=hb.size
 have hb4:=bl_then hb (bl_alloc (bl_refl w4) (.cells #[.int .i64 (room:Int),.slice a n c] 55))
 refine⟨rfl,cells_bl hc (bl_alloc (bl_refl _) _),Nat.le_refl _,crow_bl h.row hb4,by simp,by simp,fb_new #[_,_] _ rfl,(fun q hq=>by simp;omega),fun q hq=>⟨hF q hq,by have:=h2 q hq;omega⟩,fun i hi ad e hn=>?_,fun q hq=>?_,hz,hb4⟩
 ·have:=clog_lt (h.row.2 i hi) ad e hn
  exact⟨fun hq=>by have:=hF _ hq;omega,by omega⟩
 ·have:=(World.ownsRow.lt h.row.1 q hq).2
  exact⟨fun hx=>by have:=hF _ hx;omega,by omega⟩
/-- The logs of a row may be written. -/
def LogsW (w:World) (Ks:List LC):Prop:=∀ i ∈ Ks,∀ k,k<i.n→∃ b off,i.a=some ⟨b,off,none⟩∧(w.cell? ⟨b,off+k*2+1,none⟩).isSome=true∧w.frozen? ⟨b,off+k*2+1,none⟩=false
theorem logsw_set {w:World} {Ks:List LC} (h:LogsW w Ks) (a:Addr) (u:Value):LogsW (w.setCell a u) Ks:=fun i hi k hk=>by
 obtain⟨b,off,e,h1,h2⟩:=h i hi k hk
 exact⟨b,off,e,isSome_set h1,by rw[World.frozen?_setCell];exact h2⟩
theorem logsw_own {w:World} {base:Nat} {Ks:List LC} (h:∀ i ∈ Ks,OwnLog w base (.slice i.a i.n i.c) i.n i.x.st.log):LogsW w Ks:=fun i hi k hk=>by
 obtain⟨a2,c2,e2,hl⟩:=own_log (h i hi)
 injection e2 with e3 e4 e5
 subst e3 e5
 obtain⟨b,off,e,h1,h2⟩:=hl.2.2.2 k hk
 have hr:=h i hi
 rw[e] at hr
 have ho:off=0:=by
  rcases hr.2 with⟨h0,-⟩|⟨g,cap,cur,h0,-⟩
  ·cases h0
  ·injection h0 with e1;injection e1 with e1;injection e1
 subst ho
 exact⟨b,0,e,by rw[h2];rfl,World.ownsRow.frozenAt hr _⟩
set_option maxHeartbeats 8000000 in
set_option maxRecDepth 100000 in
theorem ccopies_long (la:Option Addr) (m lc:Nat) (ds:Nat→CD) (lb:Option Addr) (m2 lc2:Nat) (es:Nat→CD) (w:World) (hA:CDosIn w la m ds) (hA2:CDosIn w lb m2 es) (hm:(30:Int)<m):Calls Tryz.prog 12 #[.slice la m lc,.slice lb m2 lc2] w fun e w'=>e=.returned (.bool true)∧Below w.heap.size w w':=by
 have h41:30<m:=by omega
 have HKN:=Go.Lib.hid cknown
 clear hA hA2
 go_enter Tryz.func12,Tryz.ntmps12
 go_wp2_with fail
 refine(HKN.out _).mono ?_
 rintro e w1 ⟨rfl,hb⟩
 have hsz1:w.heap.size+0≤w1.heap.size:=szl hb
 have hB:Below w.heap.size w w1:=hb
 clear hb
 go_wp2_with fail
 go_ret
 exact⟨rfl,hB⟩
set_option maxHeartbeats 8000000 in
set_option maxRecDepth 100000 in
theorem ccopies_long2 (la:Option Addr) (m lc:Nat) (ds:Nat→CD) (lb:Option Addr) (m2 lc2:Nat) (es:Nat→CD) (w:World) (hA:CDosIn w la m ds) (hA2:CDosIn w lb m2 es) (hm:¬ (30:Int)<m) (hm2:(30:Int)<m2):Calls Tryz.prog 12 #[.slice la m lc,.slice lb m2 lc2] w fun e w'=>e=.returned (.bool true)∧Below w.heap.size w w':=by
 have h41:¬ 30<m:=by omega
 have h42:30<m2:=by omega
 have HKN:=Go.Lib.hid cknown
 clear hA hA2
 go_enter Tryz.func12,Tryz.ntmps12
 go_wp2_with fail
 refine(HKN.out _).mono ?_
 rintro e w1 ⟨rfl,hb⟩
 have hsz1:w.heap.size+0≤w1.heap.size:=szl hb
 have hB:Below w.heap.size w w1:=hb
 clear hb
 go_wp2_with fail
 go_ret
 exact⟨rfl,hB⟩
set_option maxHeartbeats 8000000 in
set_option maxRecDepth 100000 in
theorem ccopies_run (la:Option Addr) (m lc:Nat) (ds:Nat→CD) (lb:Option Addr) (m2 lc2:Nat) (es:Nat→CD) (w:World) (hA:CDosIn w la m ds) (hA2:CDosIn w lb m2 es) (hm:¬ (30:Int)<m) (hm2:¬ (30:Int)<m2):Calls Tryz.prog 12 #[.slice la m lc,.slice lb m2 lc2] w fun e w'=>e=.returned (.bool true)∧Below w.heap.size w w':=by
 have HKN:=Go.Lib.hid cknown
 have HA:=Go.Lib.hid hA
 have HA2:=Go.Lib.hid hA2
 have HLG:=Go.Lib.hid (fun W hW=>clong_any la m lc ds W (cds_bl hA hW))
 have HLG2:=Go.Lib.hid (fun W hW=>clong_any lb m2 lc2 es W (cds_bl hA2 hW))
 have h41:¬ 30<m:=by omega
 have h42:¬ 30<m2:=by omega
 clear hA hA2
 go_enter Tryz.func12,Tryz.ntmps12
 go_wp2_with fail
 refine(HLG.out _ (bl_refl _)).mono ?_
 rintro e w1 ⟨lq,rfl,hb⟩
 have hsz1:w.heap.size+0≤w1.heap.size:=szl hb
 have hB:Below w.heap.size w w1:=hb
 clear hb
 go_wp2_with fail
 refine(HLG2.out _ hB).mono ?_
 rintro e w2 ⟨lq2,rfl,hb⟩
 have hsz2:w1.heap.size+0≤w2.heap.size:=szl hb
 replace hB:Below w.heap.size w w2:=bl_then hB hb
 clear hb
 by_cases hq:600<wrap64 (lq+lq2)
 ·go_wp2_with fail
  refine(HKN.out _).mono ?_
  rintro e w3 ⟨rfl,hb⟩
  have hsz3:w2.heap.size+0≤w3.heap.size:=szl hb
  replace hB:Below w.heap.size w w3:=bl_then hB hb
  clear hb
  go_wp2_with fail
  go_ret
  exact⟨rfl,hB⟩
 go_wp2_with fail
 have HB1:=Go.Lib.hid hB
 clear hB
 obtain⟨BASE,hwb⟩:∃ W,W=w2:=⟨_,rfl⟩
 subst hwb
 refine(csnew_any 20 _).mono ?_
 rintro e w2 ⟨p,rfl,hc,hb,hF⟩
 have HC:=Go.Lib.hid hc
 have HB2:=Go.Lib.hid hb
 have HF:=Go.Lib.hid hF
 clear hc hb hF
 go_wp2_with fail
 refine(rnew_any 20 _).mono ?_
 rintro e w3 ⟨rfl,hb3⟩
 have HB3:=Go.Lib.hid hb3
 clear hb3
 unfold TV
 go_wp2_with fail
 go_loopw [7] (fun s7 wr=>∃ j:Nat,s7=.int .i64 j∧j≤m∧Hid (StI BASE wr w3.heap.size p.b (roomOf 20) j)) (fun s7 _=>m - (intOf s7).toNat)
 case atStart=>exact⟨0,rfl,Nat.zero_le _,Go.Lib.hid ⟨p,0,.slice none 0 0,[],sd_start HC.out HB2.out HF.out HB3.out⟩⟩
 case round =>
  obtain⟨j,rfl,hj,H⟩:=hrel
  obtain⟨p2,nx,v,Js,hsd⟩:=H.out
  clear H HC HB2 HF HB3
  by_cases hjn:j<m
  ·obtain ⟨hks,hlg,xb,xo,hla,y0,y1,y2,y3,y4,y5,y6,y7,y8,y9,y10,y11,y12,y13⟩:=(cds_bl HA.out HB1.out).2 j hjn
   subst hla
   have hap:=cells_apart hsd.cells
   have hlen:=hsd.len
   have hm40:(m:Int)≤40:=by omega
   have hj41:j≤40:=by omega
   have k0:(0:Int)≤(j:Int):=by omega
   have k1:(j:Int)<(m:Int):=by omega
   have hms:m - (j+1)<m - j:=by omega
   have hj1:j+1≤m:=hjn
   have wj:IntKind.i64.wrap ((j:Int)+1)=(j:Int)+1:=IntWalk.i64_in _ (by omega)
   obtain⟨ra,rc,rfl⟩:=cs_form hsd.row.1
   obtain⟨Z,hZ⟩:∃ Z,Z=cStep (roomOf 20) (Js.map (·.x)) (ds j):=⟨_,rfl⟩
   have hdd:=fun W (h:Sd BASE W (w3.heap.size) p.b (roomOf 20) (j) p2 nx (Js.map (·.x)) (.slice ra Js.length rc) Js)=>sd_did (d:=ds j) h hlg hks (by omega)
   have hst1:=fun p3 nx3 W (h:Sd BASE W (w3.heap.size) p.b (roomOf 20) (j+1) p3 nx3 ((cStep (roomOf 20) (Js.map (·.x)) (ds j)).1) (.slice ra Js.length rc) Js)=>sd_step1 (d:=ds j) h rfl hlen hap hlg hks
   have hst2:=fun p3 nx3 X (h:Sd BASE X (w3.heap.size) p.b (roomOf 20) (j+1) p3 nx3 ((cStep (roomOf 20) (Js.map (·.x)) (ds j)).1) (.slice ra Js.length rc) Js) W (hb:Below X.heap.size X W) rn hr hr2=>sd_step2 (d:=ds j) h hb (rn:=rn) hr hr2 rfl hlen hap hlg hks
   simp only[← hZ] at hdd hst1 hst2
   obtain⟨L2,rr⟩:=Z
   have HSD:=Go.Lib.hid hsd
   have HLG:=Go.Lib.hid hlg
   have HZ:=Go.Lib.hid hZ
   have HKS:=Go.Lib.hid hks
   clear hZ hsd hlg hap hks
   generalize hde:ds j=d at *
   have HDE:=Go.Lib.hid hde
   clear hde
   obtain⟨dk,⟨ekey,⟨ek,el,ed,eb,ec,eo⟩,⟨eat,elev,eheld,EL⟩⟩,ea,en,ecp,enow,ecost⟩:=d
   unfold TV CD.v at *
   dsimp only at *
   generalize hKE:ktx ekey=KE at *
   have HKE:=Go.Lib.hid hKE
   clear hKE
   have HY:=Go.Lib.hid (⟨y0,y1,y2,y3,y4,y5,y6,y7,y8,y9,y10,y11,y12,y13⟩:BASE.cell? ⟨xb,xo+j*14,none⟩=some (.int .i64 dk)∧BASE.cell? ⟨xb,xo+j*14+1,none⟩=some (.string KE)∧BASE.cell? ⟨xb,xo+j*14+2,none⟩=some (.int .i64 ek)∧BASE.cell? ⟨xb,xo+j*14+3,none⟩=some (.int .i64 el)∧BASE.cell? ⟨xb,xo+j*14+4,none⟩=some (.int .i64 ed)∧BASE.cell? ⟨xb,xo+j*14+5,none⟩=some (.int .i64 eb)∧BASE.cell? ⟨xb,xo+j*14+6,none⟩=some (.int .i64 ec)∧BASE.cell? ⟨xb,xo+j*14+7,none⟩=some (.bool eo)∧BASE.cell? ⟨xb,xo+j*14+8,none⟩=some (.int .i64 eat)∧BASE.cell? ⟨xb,xo+j*14+9,none⟩=some (.int .i64 elev)∧BASE.cell? ⟨xb,xo+j*14+10,none⟩=some (.int .i64 eheld)∧BASE.cell? ⟨xb,xo+j*14+11,none⟩=some (.slice ea en ecp)∧BASE.cell? ⟨xb,xo+j*14+12,none⟩=some (.int .i64 enow)∧BASE.cell? ⟨xb,xo+j*14+13,none⟩=some (.int .i64 ecost))
   clear y0 y1 y2 y3 y4 y5 y6 y7 y8 y9 y10 y11 y12 y13
   have HDD:=Go.Lib.hid hdd
   have HST1:=Go.Lib.hid hst1
   have HST2:=Go.Lib.hid hst2
   clear hdd hst1 hst2
   go_wp2_with fail
   obtain⟨y0,y1,y2,y3,y4,y5,y6,y7,y8,y9,y10,y11,y12,y13⟩:=HY.out
   have x0:=bl_cell HSD.out.bl y0
   have x1:=bl_cell HSD.out.bl y1
   have x2:=bl_cell HSD.out.bl y2
   have x3:=bl_cell HSD.out.bl y3
   have x4:=bl_cell HSD.out.bl y4
   have x5:=bl_cell HSD.out.bl y5
   have x6:=bl_cell HSD.out.bl y6
   have x7:=bl_cell HSD.out.bl y7
   have x8:=bl_cell HSD.out.bl y8
   have x9:=bl_cell HSD.out.bl y9
   have x10:=bl_cell HSD.out.bl y10
   have x11:=bl_cell HSD.out.bl y11
   have x12:=bl_cell HSD.out.bl y12
   have x13:=bl_cell HSD.out.bl y13
   clear y0 y1 y2 y3 y4 y5 y6 y7 y8 y9 y10 y11 y12 y13
   have x14:=HSD.out.t0
   have x15:=HSD.out.t1
   refine wp_region_held_drew (S:=fun X=>X.cell? ⟨xb,xo+j*14,none⟩=some (.int .i64 dk)∧X.cell? ⟨xb,xo+j*14+1,none⟩=some (.string KE)∧X.cell? ⟨xb,xo+j*14+2,none⟩=some (.int .i64 ek)∧X.cell? ⟨xb,xo+j*14+3,none⟩=some (.int .i64 el)∧X.cell? ⟨xb,xo+j*14+4,none⟩=some (.int .i64 ed)∧X.cell? ⟨xb,xo+j*14+5,none⟩=some (.int .i64 eb)∧X.cell? ⟨xb,xo+j*14+6,none⟩=some (.int .i64 ec)∧X.cell? ⟨xb,xo+j*14+7,none⟩=some (.bool eo)∧X.cell? ⟨xb,xo+j*14+8,none⟩=some (.int .i64 eat)∧X.cell? ⟨xb,xo+j*14+9,none⟩=some (.int .i64 elev)∧X.cell? ⟨xb,xo+j*14+10,none⟩=some (.int .i64 eheld)∧X.cell? ⟨xb,xo+j*14+11,none⟩=some (.slice ea en ecp)∧X.cell? ⟨xb,xo+j*14+12,none⟩=some (.int .i64 enow)∧X.cell? ⟨xb,xo+j*14+13,none⟩=some (.int .i64 ecost)∧X.cell? ⟨w3.heap.size,0,none⟩=some (.int .i64 ((roomOf 20:Nat):Int))∧X.cell? ⟨w3.heap.size,1,none⟩=some (.slice ra Js.length rc)) (by kernel_rfl) ?_ (fun hHeld=>?_)
   ·exact⟨x0,x1,x2,x3,x4,x5,x6,x7,x8,x9,x10,x11,x12,x13,x14,x15⟩
   try simp only[Act.put,List.setIfInBounds_toArray,List.set_cons_zero,List.set_cons_succ]
   refine wpAnyH_abs (F:=fun X=>Sd BASE X (w3.heap.size) p.b (roomOf 20) (j) p2 nx (Js.map (·.x)) (.slice ra Js.length rc) Js) hHeld (HSD.out.to (bl_drew (bl_refl _))) ?_
   clear hHeld HSD x0 x1 x2 x3 x4 x5 x6 x7 x8 x9 x10 x11 x12 x13 x14 x15
   rintro X0 hHeld hsd
   refine tkx 0 ?_
   refine tkx 1 ?_
   refine tkx 2 ?_
   refine tkx 3 ?_
   refine tkx 4 ?_
   refine tkx 5 ?_
   refine callC (i:=6) rfl (fun K hK=>?_)
   clear hHeld
   go_simp
   refine(HDD.out _ hsd).mono ?_
   rintro e X6 ⟨rfl,p3,nx3,hsd3,hO3⟩
   obtain⟨y0,y1,y2,y3,y4,y5,y6,y7,y8,y9,y10,y11,y12,y13⟩:=HY.out
   have x0:=bl_cell hsd3.bl y0
   have x1:=bl_cell hsd3.bl y1
   have x2:=bl_cell hsd3.bl y2
   have x3:=bl_cell hsd3.bl y3
   have x4:=bl_cell hsd3.bl y4
   have x5:=bl_cell hsd3.bl y5
   have x6:=bl_cell hsd3.bl y6
   have x7:=bl_cell hsd3.bl y7
   have x8:=bl_cell hsd3.bl y8
   have x9:=bl_cell hsd3.bl y9
   have x10:=bl_cell hsd3.bl y10
   have x11:=bl_cell hsd3.bl y11
   have x12:=bl_cell hsd3.bl y12
   have x13:=bl_cell hsd3.bl y13
   clear y0 y1 y2 y3 y4 y5 y6 y7 y8 y9 y10 y11 y12 y13
   have x14:=hsd3.t0
   have x15:=hsd3.t1
   have HX:Hid ((fun X=>X.cell? ⟨xb,xo+j*14,none⟩=some (.int .i64 dk)∧X.cell? ⟨xb,xo+j*14+1,none⟩=some (.string KE)∧X.cell? ⟨xb,xo+j*14+2,none⟩=some (.int .i64 ek)∧X.cell? ⟨xb,xo+j*14+3,none⟩=some (.int .i64 el)∧X.cell? ⟨xb,xo+j*14+4,none⟩=some (.int .i64 ed)∧X.cell? ⟨xb,xo+j*14+5,none⟩=some (.int .i64 eb)∧X.cell? ⟨xb,xo+j*14+6,none⟩=some (.int .i64 ec)∧X.cell? ⟨xb,xo+j*14+7,none⟩=some (.bool eo)∧X.cell? ⟨xb,xo+j*14+8,none⟩=some (.int .i64 eat)∧X.cell? ⟨xb,xo+j*14+9,none⟩=some (.int .i64 elev)∧X.cell? ⟨xb,xo+j*14+10,none⟩=some (.int .i64 eheld)∧X.cell? ⟨xb,xo+j*14+11,none⟩=some (.slice ea en ecp)∧X.cell? ⟨xb,xo+j*14+12,none⟩=some (.int .i64 enow)∧X.cell? ⟨xb,xo+j*14+13,none⟩=some (.int .i64 ecost)∧X.cell? ⟨w3.heap.size,0,none⟩=some (.int .i64 ((roomOf 20:Nat):Int))∧X.cell? ⟨w3.heap.size,1,none⟩=some (.slice ra Js.length rc)) X6):=Go.Lib.hid ⟨x0,x1,x2,x3,x4,x5,x6,x7,x8,x9,x10,x11,x12,x13,x14,x15⟩
   have HSD3:=Go.Lib.hid hsd3
   clear hsd hsd3 hO3 x0 x1 x2 x3 x4 x5 x6 x7 x8 x9 x10 x11 x12 x13 x14 x15
   go_wp2_with fail
   refine hK.out _ _ HX.out (fun hHeld2=>?_)
   clear hK K
   have hHeld:=hHeld2
   clear hHeld2
   try simp only[Act.put,List.setIfInBounds_toArray,List.set_cons_zero,List.set_cons_succ]
   refine wpAnyH_done (by kernel_rfl) ?_ _
   clear hHeld HX
   go_wp2_with fail
   obtain⟨y0,y1,y2,y3,y4,y5,y6,y7,y8,y9,y10,y11,y12,y13⟩:=HY.out
   have x0:=bl_cell HSD3.out.bl y0
   have x1:=bl_cell HSD3.out.bl y1
   have x2:=bl_cell HSD3.out.bl y2
   have x3:=bl_cell HSD3.out.bl y3
   have x4:=bl_cell HSD3.out.bl y4
   have x5:=bl_cell HSD3.out.bl y5
   have x6:=bl_cell HSD3.out.bl y6
   have x7:=bl_cell HSD3.out.bl y7
   have x8:=bl_cell HSD3.out.bl y8
   have x9:=bl_cell HSD3.out.bl y9
   have x10:=bl_cell HSD3.out.bl y10
   have x11:=bl_cell HSD3.out.bl y11
   have x12:=bl_cell HSD3.out.bl y12
   have x13:=bl_cell HSD3.out.bl y13
   clear y0 y1 y2 y3 y4 y5 y6 y7 y8 y9 y10 y11 y12 y13
   have x14:=HSD3.out.t0
   have x15:=HSD3.out.t1
   refine wp_region_held_drew (S:=fun X=>X.cell? ⟨xb,xo+j*14,none⟩=some (.int .i64 dk)∧X.cell? ⟨xb,xo+j*14+1,none⟩=some (.string KE)∧X.cell? ⟨xb,xo+j*14+2,none⟩=some (.int .i64 ek)∧X.cell? ⟨xb,xo+j*14+3,none⟩=some (.int .i64 el)∧X.cell? ⟨xb,xo+j*14+4,none⟩=some (.int .i64 ed)∧X.cell? ⟨xb,xo+j*14+5,none⟩=some (.int .i64 eb)∧X.cell? ⟨xb,xo+j*14+6,none⟩=some (.int .i64 ec)∧X.cell? ⟨xb,xo+j*14+7,none⟩=some (.bool eo)∧X.cell? ⟨xb,xo+j*14+8,none⟩=some (.int .i64 eat)∧X.cell? ⟨xb,xo+j*14+9,none⟩=some (.int .i64 elev)∧X.cell? ⟨xb,xo+j*14+10,none⟩=some (.int .i64 eheld)∧X.cell? ⟨xb,xo+j*14+11,none⟩=some (.slice ea en ecp)∧X.cell? ⟨xb,xo+j*14+12,none⟩=some (.int .i64 enow)∧X.cell? ⟨xb,xo+j*14+13,none⟩=some (.int .i64 ecost)∧X.cell? ⟨w3.heap.size,0,none⟩=some (.int .i64 ((roomOf 20:Nat):Int))∧X.cell? ⟨w3.heap.size,1,none⟩=some (.slice ra Js.length rc)) (by kernel_rfl) ?_ (fun hHeld=>?_)
   ·exact⟨x0,x1,x2,x3,x4,x5,x6,x7,x8,x9,x10,x11,x12,x13,x14,x15⟩
   try simp only[Act.put,List.setIfInBounds_toArray,List.set_cons_zero,List.set_cons_succ]
   clear x0 x1 x2 x3 x4 x5 x6 x7 x8 x9 x10 x11 x12 x13 x14 x15
   refine wpAnyH_abs (F:=fun X=>Below X6.heap.size X6 X) hHeld (bl_drew (bl_refl _)) ?_
   clear hHeld
   rintro Y0 hHeld hbx
   have hlt0:=HSD3.out.tlt
   have hlt1:xb<X6.heap.size:=by obtain⟨y0,-⟩:=HY.out;have h1:=World.block_lt_of_cell? _ _ y0;have h2:=HSD3.out.bl.size;dsimp only at h1;omega
   refine tkx 0 ?_
   refine tkx 1 ?_
   refine tkx 2 ?_
   refine tkx 3 ?_
   refine tkx 4 ?_
   refine callC2 (i:=5) (j:=9) rfl rfl ?brA1 ?brB1
   case' brA1 =>
    intro K hK
    obtain⟨hx0,hx1,hx2,hx3,hx4,hx5,hx6,hx7,hx8,hx9,hx10,hx11,hx12,hx13,hx14,hx15⟩:=(id hHeld)
    clear hHeld
    go_simp
    refine(HST1.out _ _ _ (HSD3.out.to hbx)).mono ?_
    rintro e Y5 ⟨v3,F3,rfl,hsn,hb⟩
    obtain⟨a3,c3,rfl⟩:=cs_form hsn.row.1
    have HX:Hid ((fun X=>X.cell? ⟨xb,xo+j*14,none⟩=some (.int .i64 dk)∧X.cell? ⟨xb,xo+j*14+1,none⟩=some (.string KE)∧X.cell? ⟨xb,xo+j*14+2,none⟩=some (.int .i64 ek)∧X.cell? ⟨xb,xo+j*14+3,none⟩=some (.int .i64 el)∧X.cell? ⟨xb,xo+j*14+4,none⟩=some (.int .i64 ed)∧X.cell? ⟨xb,xo+j*14+5,none⟩=some (.int .i64 eb)∧X.cell? ⟨xb,xo+j*14+6,none⟩=some (.int .i64 ec)∧X.cell? ⟨xb,xo+j*14+7,none⟩=some (.bool eo)∧X.cell? ⟨xb,xo+j*14+8,none⟩=some (.int .i64 eat)∧X.cell? ⟨xb,xo+j*14+9,none⟩=some (.int .i64 elev)∧X.cell? ⟨xb,xo+j*14+10,none⟩=some (.int .i64 eheld)∧X.cell? ⟨xb,xo+j*14+11,none⟩=some (.slice ea en ecp)∧X.cell? ⟨xb,xo+j*14+12,none⟩=some (.int .i64 enow)∧X.cell? ⟨xb,xo+j*14+13,none⟩=some (.int .i64 ecost)∧X.cell? ⟨w3.heap.size,0,none⟩=some (.int .i64 ((roomOf 20:Nat):Int))∧X.cell? ⟨w3.heap.size,1,none⟩=some (.slice ra Js.length rc)) Y5):=Go.Lib.hid ⟨bl_cell hb hx0,bl_cell hb hx1,bl_cell hb hx2,bl_cell hb hx3,bl_cell hb hx4,bl_cell hb hx5,bl_cell hb hx6,bl_cell hb hx7,bl_cell hb hx8,bl_cell hb hx9,bl_cell hb hx10,bl_cell hb hx11,bl_cell hb hx12,bl_cell hb hx13,bl_cell hb hx14,bl_cell hb hx15⟩
    replace hbx:=bl_then hbx hb
    clear hb hx0 hx1 hx2 hx3 hx4 hx5 hx6 hx7 hx8 hx9 hx10 hx11 hx12 hx13 hx14 hx15
    have HSN:=Go.Lib.hid hsn
    have HBX:=Go.Lib.hid hbx
    clear hsn hbx
    go_wp2_with fail
    refine hK.out _ _ HX.out (fun hHeld2=>?_)
    clear hK K HX
    have hHeld:=hHeld2
    clear hHeld2
    have hsn:=HSN.out
    have hbx:=HBX.out
    clear HSN HBX
    try simp only[Act.put,List.setIfInBounds_toArray,List.set_cons_zero,List.set_cons_succ]
    refine tkx 6 ?_
    refine tkx 7 ?_
    refine tkx 8 ?_
    refine callC (i:=9) rfl (fun K hK=>?_)
    obtain⟨hx0,hx1,hx2,hx3,hx4,hx5,hx6,hx7,hx8,hx9,hx10,hx11,hx12,hx13,hx14,hx15⟩:=(id hHeld)
    clear hHeld
    go_simp
    refine hK.out _ _ ⟨bl_cell (bl_alloc (bl_refl _) _) hx0,bl_cell (bl_alloc (bl_refl _) _) hx1,bl_cell (bl_alloc (bl_refl _) _) hx2,bl_cell (bl_alloc (bl_refl _) _) hx3,bl_cell (bl_alloc (bl_refl _) _) hx4,bl_cell (bl_alloc (bl_refl _) _) hx5,bl_cell (bl_alloc (bl_refl _) _) hx6,bl_cell (bl_alloc (bl_refl _) _) hx7,bl_cell (bl_alloc (bl_refl _) _) hx8,bl_cell (bl_alloc (bl_refl _) _) hx9,bl_cell (bl_alloc (bl_refl _) _) hx10,bl_cell (bl_alloc (bl_refl _) _) hx11,bl_cell (bl_alloc (bl_refl _) _) hx12,bl_cell (bl_alloc (bl_refl _) _) hx13,bl_cell (bl_alloc (bl_refl _) _) hx14,bl_cell (bl_alloc (bl_refl _) _) hx15⟩ (fun hHeld2=>?_)
    clear hK K hx0 hx1 hx2 hx3 hx4 hx5 hx6 hx7 hx8 hx9 hx10 hx11 hx12 hx13 hx14 hx15
    have hHeld:=hHeld2
    clear hHeld2
    try simp only[Act.put,List.setIfInBounds_toArray,List.set_cons_zero,List.set_cons_succ]
    have hrn:X6.heap.size≤Y5.heap.size:=hbx.size
    refine wpAnyH_abs (F:=fun X=>Below X6.heap.size X6 X∧Sn X (A2 p3 (w3.heap.size) Y5.heap.size) L2 (.slice a3 F3.length c3) F3∧X.cell? ⟨Y5.heap.size,0,none⟩=some (.int .i64 0)∧X.cell? ⟨Y5.heap.size,1,none⟩=some (.slice none 0 0)∧FB X Y5.heap.size 2∧Y5.heap.size<X.heap.size) hHeld ⟨bl_alloc hbx _,(hsn.new (Nat.le_refl _)).to (bl_alloc (bl_refl _) _),by simp,by simp,fb_new #[_,_] _ rfl,by simp⟩ ?_
    clear hHeld hbx hsn
    generalize Y5.heap.size=rn at *
    rintro Y29 hHeld ⟨hbx,hsn,z0,z1,hFB,hrn2⟩
    refine callC (i:=10) rfl (fun K hK=>?_)
    obtain⟨hx0,hx1,hx2,hx3,hx4,hx5,hx6,hx7,hx8,hx9,hx10,hx11,hx12,hx13,hx14,hx15⟩:=(id hHeld)
    clear hHeld
    obtain⟨⟨-,f0⟩,⟨-,f1⟩⟩:=And.intro (hFB 0 (by omega)) (hFB 1 (by omega))
    go_simp
    refine hK.out _ _ ⟨far_set (far_set hx0 _ _ (by dsimp only;omega)) _ _ (by dsimp only;omega),far_set (far_set hx1 _ _ (by dsimp only;omega)) _ _ (by dsimp only;omega),far_set (far_set hx2 _ _ (by dsimp only;omega)) _ _ (by dsimp only;omega),far_set (far_set hx3 _ _ (by dsimp only;omega)) _ _ (by dsimp only;omega),far_set (far_set hx4 _ _ (by dsimp only;omega)) _ _ (by dsimp only;omega),far_set (far_set hx5 _ _ (by dsimp only;omega)) _ _ (by dsimp only;omega),far_set (far_set hx6 _ _ (by dsimp only;omega)) _ _ (by dsimp only;omega),far_set (far_set hx7 _ _ (by dsimp only;omega)) _ _ (by dsimp only;omega),far_set (far_set hx8 _ _ (by dsimp only;omega)) _ _ (by dsimp only;omega),far_set (far_set hx9 _ _ (by dsimp only;omega)) _ _ (by dsimp only;omega),far_set (far_set hx10 _ _ (by dsimp only;omega)) _ _ (by dsimp only;omega),far_set (far_set hx11 _ _ (by dsimp only;omega)) _ _ (by dsimp only;omega),far_set (far_set hx12 _ _ (by dsimp only;omega)) _ _ (by dsimp only;omega),far_set (far_set hx13 _ _ (by dsimp only;omega)) _ _ (by dsimp only;omega),far_set (far_set hx14 _ _ (by dsimp only;omega)) _ _ (by dsimp only;omega),far_set (far_set hx15 _ _ (by dsimp only;omega)) _ _ (by dsimp only;omega)⟩ (fun hHeld2=>?_)
    replace hbx:=bl_set (bl_set hbx (a:=⟨rn,0,none⟩) hrn (.int .i64 ((roomOf 20:Nat):Int))) (a:=⟨rn,1,none⟩) hrn (.slice a3 F3.length c3)
    replace hsn:=(hsn.set (rn:=rn) (.inr rfl) 0 (.int .i64 ((roomOf 20:Nat):Int))).set (rn:=rn) (.inr rfl) 1 (.slice a3 F3.length c3)
    obtain⟨z0,z1⟩:=set2b (v0:=.int .i64 ((roomOf 20:Nat):Int)) (v1:=.slice a3 F3.length c3) z0 z1
    clear hK K f0 f1 hx0 hx1 hx2 hx3 hx4 hx5 hx6 hx7 hx8 hx9 hx10 hx11 hx12 hx13 hx14 hx15
    have hHeld:=hHeld2
    clear hHeld2
    try simp only[Act.put,List.setIfInBounds_toArray,List.set_cons_zero,List.set_cons_succ]
    refine tkx 11 ?_
    refine wpAnyH_done (by kernel_rfl) ?_ _
    refine then_abs (F:=fun X=>Below X6.heap.size X6 X∧Sn X (A2 p3 (w3.heap.size) rn) L2 (.slice a3 F3.length c3) F3∧X.cell? ⟨rn,0,none⟩=some (.int .i64 ((roomOf 20:Nat):Int))∧X.cell? ⟨rn,1,none⟩=some (.slice a3 F3.length c3)) ⟨hbx,hsn,z0,z1⟩ ?_
    clear hHeld hbx hsn z0 z1 hFB
    rintro W9 ⟨hbx,hsn,u0,u1⟩
   case' brB1 =>
    intro K hK
    obtain⟨hx0,hx1,hx2,hx3,hx4,hx5,hx6,hx7,hx8,hx9,hx10,hx11,hx12,hx13,hx14,hx15⟩:=(id hHeld)
    clear hHeld
    go_simp
    refine hK.out _ _ ⟨bl_cell (bl_alloc (bl_refl _) _) hx0,bl_cell (bl_alloc (bl_refl _) _) hx1,bl_cell (bl_alloc (bl_refl _) _) hx2,bl_cell (bl_alloc (bl_refl _) _) hx3,bl_cell (bl_alloc (bl_refl _) _) hx4,bl_cell (bl_alloc (bl_refl _) _) hx5,bl_cell (bl_alloc (bl_refl _) _) hx6,bl_cell (bl_alloc (bl_refl _) _) hx7,bl_cell (bl_alloc (bl_refl _) _) hx8,bl_cell (bl_alloc (bl_refl _) _) hx9,bl_cell (bl_alloc (bl_refl _) _) hx10,bl_cell (bl_alloc (bl_refl _) _) hx11,bl_cell (bl_alloc (bl_refl _) _) hx12,bl_cell (bl_alloc (bl_refl _) _) hx13,bl_cell (bl_alloc (bl_refl _) _) hx14,bl_cell (bl_alloc (bl_refl _) _) hx15⟩ (fun hHeld2=>?_)
    clear hK K hx0 hx1 hx2 hx3 hx4 hx5 hx6 hx7 hx8 hx9 hx10 hx11 hx12 hx13 hx14 hx15
    have hHeld:=hHeld2
    clear hHeld2
    try simp only[Act.put,List.setIfInBounds_toArray,List.set_cons_zero,List.set_cons_succ]
    have hrn:X6.heap.size≤Y0.heap.size:=hbx.size
    refine wpAnyH_abs (F:=fun X=>Below X6.heap.size X6 X∧X.cell? ⟨Y0.heap.size,0,none⟩=some (.int .i64 0)∧X.cell? ⟨Y0.heap.size,1,none⟩=some (.slice none 0 0)∧FB X Y0.heap.size 2∧Y0.heap.size<X.heap.size) hHeld ⟨bl_alloc hbx _,by simp,by simp,fb_new #[_,_] _ rfl,by simp⟩ ?_
    clear hHeld hbx
    generalize Y0.heap.size=rn at *
    rintro Y25 hHeld ⟨hbx,z0,z1,hFB,hrn2⟩
    refine callC (i:=5) rfl (fun K hK=>?_)
    obtain⟨hx0,hx1,hx2,hx3,hx4,hx5,hx6,hx7,hx8,hx9,hx10,hx11,hx12,hx13,hx14,hx15⟩:=(id hHeld)
    clear hHeld
    go_simp
    refine(HST2.out _ _ _ HSD3.out _ hbx rn hrn hrn2).mono ?_
    rintro e Y6 ⟨v3,F3,rfl,hsn,hb⟩
    obtain⟨a3,c3,rfl⟩:=cs_form hsn.row.1
    have HX:Hid ((fun X=>X.cell? ⟨xb,xo+j*14,none⟩=some (.int .i64 dk)∧X.cell? ⟨xb,xo+j*14+1,none⟩=some (.string KE)∧X.cell? ⟨xb,xo+j*14+2,none⟩=some (.int .i64 ek)∧X.cell? ⟨xb,xo+j*14+3,none⟩=some (.int .i64 el)∧X.cell? ⟨xb,xo+j*14+4,none⟩=some (.int .i64 ed)∧X.cell? ⟨xb,xo+j*14+5,none⟩=some (.int .i64 eb)∧X.cell? ⟨xb,xo+j*14+6,none⟩=some (.int .i64 ec)∧X.cell? ⟨xb,xo+j*14+7,none⟩=some (.bool eo)∧X.cell? ⟨xb,xo+j*14+8,none⟩=some (.int .i64 eat)∧X.cell? ⟨xb,xo+j*14+9,none⟩=some (.int .i64 elev)∧X.cell? ⟨xb,xo+j*14+10,none⟩=some (.int .i64 eheld)∧X.cell? ⟨xb,xo+j*14+11,none⟩=some (.slice ea en ecp)∧X.cell? ⟨xb,xo+j*14+12,none⟩=some (.int .i64 enow)∧X.cell? ⟨xb,xo+j*14+13,none⟩=some (.int .i64 ecost)∧X.cell? ⟨w3.heap.size,0,none⟩=some (.int .i64 ((roomOf 20:Nat):Int))∧X.cell? ⟨w3.heap.size,1,none⟩=some (.slice ra Js.length rc)) Y6):=Go.Lib.hid ⟨bl_cell hb hx0,bl_cell hb hx1,bl_cell hb hx2,bl_cell hb hx3,bl_cell hb hx4,bl_cell hb hx5,bl_cell hb hx6,bl_cell hb hx7,bl_cell hb hx8,bl_cell hb hx9,bl_cell hb hx10,bl_cell hb hx11,bl_cell hb hx12,bl_cell hb hx13,bl_cell hb hx14,bl_cell hb hx15⟩
    replace hbx:=bl_then hbx hb
    replace z0:=bl_cell hb z0
    replace z1:=bl_cell hb z1
    replace hFB:=fb_bl hFB hb
    replace hrn2:=Nat.lt_of_lt_of_le hrn2 hb.size
    clear hb hx0 hx1 hx2 hx3 hx4 hx5 hx6 hx7 hx8 hx9 hx10 hx11 hx12 hx13 hx14 hx15
    have HSN:=Go.Lib.hid hsn
    have HBX:=Go.Lib.hid hbx
    clear hsn hbx
    go_wp2_with fail
    refine hK.out _ _ HX.out (fun hHeld2=>?_)
    clear hK K HX
    have hHeld:=hHeld2
    clear hHeld2
    have hsn:=HSN.out
    have hbx:=HBX.out
    clear HSN HBX
    try simp only[Act.put,List.setIfInBounds_toArray,List.set_cons_zero,List.set_cons_succ]
    refine tkx 6 ?_
    refine tkx 7 ?_
    refine tkx 8 ?_
    refine callC (i:=10) rfl (fun K hK=>?_)
    obtain⟨hx0,hx1,hx2,hx3,hx4,hx5,hx6,hx7,hx8,hx9,hx10,hx11,hx12,hx13,hx14,hx15⟩:=(id hHeld)
    clear hHeld
    obtain⟨⟨-,f0⟩,⟨-,f1⟩⟩:=And.intro (hFB 0 (by omega)) (hFB 1 (by omega))
    go_simp
    refine hK.out _ _ ⟨far_set (far_set hx0 _ _ (by dsimp only;omega)) _ _ (by dsimp only;omega),far_set (far_set hx1 _ _ (by dsimp only;omega)) _ _ (by dsimp only;omega),far_set (far_set hx2 _ _ (by dsimp only;omega)) _ _ (by dsimp only;omega),far_set (far_set hx3 _ _ (by dsimp only;omega)) _ _ (by dsimp only;omega),far_set (far_set hx4 _ _ (by dsimp only;omega)) _ _ (by dsimp only;omega),far_set (far_set hx5 _ _ (by dsimp only;omega)) _ _ (by dsimp only;omega),far_set (far_set hx6 _ _ (by dsimp only;omega)) _ _ (by dsimp only;omega),far_set (far_set hx7 _ _ (by dsimp only;omega)) _ _ (by dsimp only;omega),far_set (far_set hx8 _ _ (by dsimp only;omega)) _ _ (by dsimp only;omega),far_set (far_set hx9 _ _ (by dsimp only;omega)) _ _ (by dsimp only;omega),far_set (far_set hx10 _ _ (by dsimp only;omega)) _ _ (by dsimp only;omega),far_set (far_set hx11 _ _ (by dsimp only;omega)) _ _ (by dsimp only;omega),far_set (far_set hx12 _ _ (by dsimp only;omega)) _ _ (by dsimp only;omega),far_set (far_set hx13 _ _ (by dsimp only;omega)) _ _ (by dsimp only;omega),far_set (far_set hx14 _ _ (by dsimp only;omega)) _ _ (by dsimp only;omega),far_set (far_set hx15 _ _ (by dsimp only;omega)) _ _ (by dsimp only;omega)⟩ (fun hHeld2=>?_)
    replace hbx:=bl_set (bl_set hbx (a:=⟨rn,0,none⟩) hrn (.int .i64 ((roomOf 20:Nat):Int))) (a:=⟨rn,1,none⟩) hrn (.slice a3 F3.length c3)
    replace hsn:=(hsn.set (rn:=rn) (.inr rfl) 0 (.int .i64 ((roomOf 20:Nat):Int))).set (rn:=rn) (.inr rfl) 1 (.slice a3 F3.length c3)
    obtain⟨z0,z1⟩:=set2b (v0:=.int .i64 ((roomOf 20:Nat):Int)) (v1:=.slice a3 F3.length c3) z0 z1
    clear hK K f0 f1 hx0 hx1 hx2 hx3 hx4 hx5 hx6 hx7 hx8 hx9 hx10 hx11 hx12 hx13 hx14 hx15
    have hHeld:=hHeld2
    clear hHeld2
    try simp only[Act.put,List.setIfInBounds_toArray,List.set_cons_zero,List.set_cons_succ]
    refine tkx 11 ?_
    refine wpAnyH_done (by kernel_rfl) ?_ _
    refine then_abs (F:=fun X=>Below X6.heap.size X6 X∧Sn X (A2 p3 (w3.heap.size) rn) L2 (.slice a3 F3.length c3) F3∧X.cell? ⟨rn,0,none⟩=some (.int .i64 ((roomOf 20:Nat):Int))∧X.cell? ⟨rn,1,none⟩=some (.slice a3 F3.length c3)) ⟨hbx,hsn,z0,z1⟩ ?_
    clear hHeld hbx hsn z0 z1 hFB
    rintro W9 ⟨hbx,hsn,u0,u1⟩
   all_goals
    have hsd4:=HSD3.out.to hbx
    obtain⟨⟨-,tf0⟩,⟨-,tf1⟩⟩:=And.intro (hsd4.tR 0 (by omega)) (hsd4.tR 1 (by omega))
    have t0:=hsd4.t0
    have t1:=hsd4.t1
    have hsd5:=hsd4.put hsn (fun q hq => .inl hq)
    have HSD5:=Go.Lib.hid hsd5
    have HMAP:=Go.Lib.hid hsn.map
    clear hsd4 hsd5 hsn hbx HSD3
    go_wp2_with fail
    clear tf0 tf1 t0 t1 u0 u1
    go_roundw
    case rel=>exact⟨j+1,by go_num,hj1,⟨p3,nx3,.slice a3 F3.length c3,F3,HSD5.out⟩⟩
    case measure=>(simp[intOf];first|exact hms|omega)
  ·have hk1 : ¬ (j:Int)<(m:Int):=by omega
   have hj41:j≤30:=by omega
   obtain⟨W1,hW1⟩:∃ W,W=wr:=⟨_,rfl⟩
   subst hW1
   go_wp2_with fail
   have hcp:=ccopy_any hsd.cells (by have:=hsd.nx;omega)
   rw[hsd.pb] at hcp
   obtain⟨va,vc,rfl⟩:=cs_form hsd.row.1
   have HSD1:=Go.Lib.hid hsd
   refine hcp.mono ?_
   rintro e w4 ⟨q2,rfl,hc4,hb4,hF4⟩
   have HS2:=Go.Lib.hid (sd_start2 hsd hc4 hb4 hF4)
   have hsd4:=hsd.to hb4
   have t0:=hsd4.t0
   have t1:=hsd4.t1
   obtain⟨K0,hK0⟩:∃ K,K=(Js.map (·.x)).length:=⟨_,rfl⟩
   have hK1:K0≤10000:=by rw[hK0,List.length_map];exact hsd.len
   rw[← hK0] at HS2
   have HK0:=Go.Lib.hid hK0
   clear hcp hc4 hb4 hF4 hsd4 hK0 hjn hk1 hj hsd
   go_wp2_with fail
   go_loopw [12] (fun s12 wr=>∃ j:Nat,s12=.int .i64 j∧j≤m2∧Hid (StI W1 wr w4.heap.size q2.b (roomOf 20) (K0+j))) (fun s12 _=>m2 - (intOf s12).toNat)
   case atStart=>exact⟨0,rfl,Nat.zero_le _,Go.Lib.hid ⟨q2,_,_,_,HS2.out⟩⟩
   case round =>
    clear HS2 t0 t1
    obtain⟨j2,rfl,hj,H⟩:=hrel
    obtain⟨p2,nx,v,Js2,hsd⟩:=H.out
    clear H
    by_cases hjn:j2<m2
    ·obtain ⟨hks,hlg,xb,xo,hla,y0,y1,y2,y3,y4,y5,y6,y7,y8,y9,y10,y11,y12,y13⟩:=(cds_bl HA2.out (bl_then HB1.out HSD1.out.bl)).2 j2 hjn
     subst hla
     have hap:=cells_apart hsd.cells
     have hlen:=hsd.len
     have hm40:(m2:Int)≤40:=by omega
     have hj41:j2≤40:=by omega
     have k0:(0:Int)≤(j2:Int):=by omega
     have k1:(j2:Int)<(m2:Int):=by omega
     have hms:m2 - (j2+1)<m2 - j2:=by omega
     have hj1:j2+1≤m2:=hjn
     have wj:IntKind.i64.wrap ((j2:Int)+1)=(j2:Int)+1:=IntWalk.i64_in _ (by omega)
     obtain⟨ra,rc,rfl⟩:=cs_form hsd.row.1
     obtain⟨Z,hZ⟩:∃ Z,Z=cStep (roomOf 20) (Js2.map (·.x)) (es j2):=⟨_,rfl⟩
     have hdd:=fun W (h:Sd W1 W (w4.heap.size) q2.b (roomOf 20) (K0+j2) p2 nx (Js2.map (·.x)) (.slice ra Js2.length rc) Js2)=>sd_did (d:=es j2) h hlg hks (by omega)
     have hst1:=fun p3 nx3 W (h:Sd W1 W (w4.heap.size) q2.b (roomOf 20) (K0+j2+1) p3 nx3 ((cStep (roomOf 20) (Js2.map (·.x)) (es j2)).1) (.slice ra Js2.length rc) Js2)=>sd_step1 (d:=es j2) h rfl hlen hap hlg hks
     have hst2:=fun p3 nx3 X (h:Sd W1 X (w4.heap.size) q2.b (roomOf 20) (K0+j2+1) p3 nx3 ((cStep (roomOf 20) (Js2.map (·.x)) (es j2)).1) (.slice ra Js2.length rc) Js2) W (hb:Below X.heap.size X W) rn hr hr2=>sd_step2 (d:=es j2) h hb (rn:=rn) hr hr2 rfl hlen hap hlg hks
     simp only[← hZ] at hdd hst1 hst2
     obtain⟨L2,rr⟩:=Z
     have HSD:=Go.Lib.hid hsd
     have HLG:=Go.Lib.hid hlg
     have HZ:=Go.Lib.hid hZ
     have HKS:=Go.Lib.hid hks
     clear hZ hsd hlg hap hks
     generalize hde:es j2=d at *
     have HDE:=Go.Lib.hid hde
     clear hde
     obtain⟨dk,⟨ekey,⟨ek,el,ed,eb,ec,eo⟩,⟨eat,elev,eheld,EL⟩⟩,ea,en,ecp,enow,ecost⟩:=d
     unfold TV CD.v at *
     dsimp only at *
     generalize hKE:ktx ekey=KE at *
     have HKE:=Go.Lib.hid hKE
     clear hKE
     have HY:=Go.Lib.hid (⟨y0,y1,y2,y3,y4,y5,y6,y7,y8,y9,y10,y11,y12,y13⟩:W1.cell? ⟨xb,xo+j2*14,none⟩=some (.int .i64 dk)∧W1.cell? ⟨xb,xo+j2*14+1,none⟩=some (.string KE)∧W1.cell? ⟨xb,xo+j2*14+2,none⟩=some (.int .i64 ek)∧W1.cell? ⟨xb,xo+j2*14+3,none⟩=some (.int .i64 el)∧W1.cell? ⟨xb,xo+j2*14+4,none⟩=some (.int .i64 ed)∧W1.cell? ⟨xb,xo+j2*14+5,none⟩=some (.int .i64 eb)∧W1.cell? ⟨xb,xo+j2*14+6,none⟩=some (.int .i64 ec)∧W1.cell? ⟨xb,xo+j2*14+7,none⟩=some (.bool eo)∧W1.cell? ⟨xb,xo+j2*14+8,none⟩=some (.int .i64 eat)∧W1.cell? ⟨xb,xo+j2*14+9,none⟩=some (.int .i64 elev)∧W1.cell? ⟨xb,xo+j2*14+10,none⟩=some (.int .i64 eheld)∧W1.cell? ⟨xb,xo+j2*14+11,none⟩=some (.slice ea en ecp)∧W1.cell? ⟨xb,xo+j2*14+12,none⟩=some (.int .i64 enow)∧W1.cell? ⟨xb,xo+j2*14+13,none⟩=some (.int .i64 ecost))
     clear y0 y1 y2 y3 y4 y5 y6 y7 y8 y9 y10 y11 y12 y13
     have HDD:=Go.Lib.hid hdd
     have HST1:=Go.Lib.hid hst1
     have HST2:=Go.Lib.hid hst2
     clear hdd hst1 hst2
     go_wp2_with fail
     obtain⟨y0,y1,y2,y3,y4,y5,y6,y7,y8,y9,y10,y11,y12,y13⟩:=HY.out
     have x0:=bl_cell HSD.out.bl y0
     have x1:=bl_cell HSD.out.bl y1
     have x2:=bl_cell HSD.out.bl y2
     have x3:=bl_cell HSD.out.bl y3
     have x4:=bl_cell HSD.out.bl y4
     have x5:=bl_cell HSD.out.bl y5
     have x6:=bl_cell HSD.out.bl y6
     have x7:=bl_cell HSD.out.bl y7
     have x8:=bl_cell HSD.out.bl y8
     have x9:=bl_cell HSD.out.bl y9
     have x10:=bl_cell HSD.out.bl y10
     have x11:=bl_cell HSD.out.bl y11
     have x12:=bl_cell HSD.out.bl y12
     have x13:=bl_cell HSD.out.bl y13
     clear y0 y1 y2 y3 y4 y5 y6 y7 y8 y9 y10 y11 y12 y13
     have x14:=HSD.out.t0
     have x15:=HSD.out.t1
     refine wp_region_held_drew (S:=fun X=>X.cell? ⟨xb,xo+j2*14,none⟩=some (.int .i64 dk)∧X.cell? ⟨xb,xo+j2*14+1,none⟩=some (.string KE)∧X.cell? ⟨xb,xo+j2*14+2,none⟩=some (.int .i64 ek)∧X.cell? ⟨xb,xo+j2*14+3,none⟩=some (.int .i64 el)∧X.cell? ⟨xb,xo+j2*14+4,none⟩=some (.int .i64 ed)∧X.cell? ⟨xb,xo+j2*14+5,none⟩=some (.int .i64 eb)∧X.cell? ⟨xb,xo+j2*14+6,none⟩=some (.int .i64 ec)∧X.cell? ⟨xb,xo+j2*14+7,none⟩=some (.bool eo)∧X.cell? ⟨xb,xo+j2*14+8,none⟩=some (.int .i64 eat)∧X.cell? ⟨xb,xo+j2*14+9,none⟩=some (.int .i64 elev)∧X.cell? ⟨xb,xo+j2*14+10,none⟩=some (.int .i64 eheld)∧X.cell? ⟨xb,xo+j2*14+11,none⟩=some (.slice ea en ecp)∧X.cell? ⟨xb,xo+j2*14+12,none⟩=some (.int .i64 enow)∧X.cell? ⟨xb,xo+j2*14+13,none⟩=some (.int .i64 ecost)∧X.cell? ⟨w4.heap.size,0,none⟩=some (.int .i64 ((roomOf 20:Nat):Int))∧X.cell? ⟨w4.heap.size,1,none⟩=some (.slice ra Js2.length rc)) (by kernel_rfl) ?_ (fun hHeld=>?_)
     ·exact⟨x0,x1,x2,x3,x4,x5,x6,x7,x8,x9,x10,x11,x12,x13,x14,x15⟩
     try simp only[Act.put,List.setIfInBounds_toArray,List.set_cons_zero,List.set_cons_succ]
     refine wpAnyH_abs (F:=fun X=>Sd W1 X (w4.heap.size) q2.b (roomOf 20) (K0+j2) p2 nx (Js2.map (·.x)) (.slice ra Js2.length rc) Js2) hHeld (HSD.out.to (bl_drew (bl_refl _))) ?_
     clear hHeld HSD x0 x1 x2 x3 x4 x5 x6 x7 x8 x9 x10 x11 x12 x13 x14 x15
     rintro X0 hHeld hsd
     refine tkx 0 ?_
     refine tkx 1 ?_
     refine tkx 2 ?_
     refine tkx 3 ?_
     refine tkx 4 ?_
     refine tkx 5 ?_
     refine callC (i:=6) rfl (fun K hK=>?_)
     clear hHeld
     go_simp
     refine(HDD.out _ hsd).mono ?_
     rintro e X6 ⟨rfl,p3,nx3,hsd3,hO3⟩
     obtain⟨y0,y1,y2,y3,y4,y5,y6,y7,y8,y9,y10,y11,y12,y13⟩:=HY.out
     have x0:=bl_cell hsd3.bl y0
     have x1:=bl_cell hsd3.bl y1
     have x2:=bl_cell hsd3.bl y2
     have x3:=bl_cell hsd3.bl y3
     have x4:=bl_cell hsd3.bl y4
     have x5:=bl_cell hsd3.bl y5
     have x6:=bl_cell hsd3.bl y6
     have x7:=bl_cell hsd3.bl y7
     have x8:=bl_cell hsd3.bl y8
     have x9:=bl_cell hsd3.bl y9
     have x10:=bl_cell hsd3.bl y10
     have x11:=bl_cell hsd3.bl y11
     have x12:=bl_cell hsd3.bl y12
     have x13:=bl_cell hsd3.bl y13
     clear y0 y1 y2 y3 y4 y5 y6 y7 y8 y9 y10 y11 y12 y13
     have x14:=hsd3.t0
     have x15:=hsd3.t1
     have HX:Hid ((fun X=>X.cell? ⟨xb,xo+j2*14,none⟩=some (.int .i64 dk)∧X.cell? ⟨xb,xo+j2*14+1,none⟩=some (.string KE)∧X.cell? ⟨xb,xo+j2*14+2,none⟩=some (.int .i64 ek)∧X.cell? ⟨xb,xo+j2*14+3,none⟩=some (.int .i64 el)∧X.cell? ⟨xb,xo+j2*14+4,none⟩=some (.int .i64 ed)∧X.cell? ⟨xb,xo+j2*14+5,none⟩=some (.int .i64 eb)∧X.cell? ⟨xb,xo+j2*14+6,none⟩=some (.int .i64 ec)∧X.cell? ⟨xb,xo+j2*14+7,none⟩=some (.bool eo)∧X.cell? ⟨xb,xo+j2*14+8,none⟩=some (.int .i64 eat)∧X.cell? ⟨xb,xo+j2*14+9,none⟩=some (.int .i64 elev)∧X.cell? ⟨xb,xo+j2*14+10,none⟩=some (.int .i64 eheld)∧X.cell? ⟨xb,xo+j2*14+11,none⟩=some (.slice ea en ecp)∧X.cell? ⟨xb,xo+j2*14+12,none⟩=some (.int .i64 enow)∧X.cell? ⟨xb,xo+j2*14+13,none⟩=some (.int .i64 ecost)∧X.cell? ⟨w4.heap.size,0,none⟩=some (.int .i64 ((roomOf 20:Nat):Int))∧X.cell? ⟨w4.heap.size,1,none⟩=some (.slice ra Js2.length rc)) X6):=Go.Lib.hid ⟨x0,x1,x2,x3,x4,x5,x6,x7,x8,x9,x10,x11,x12,x13,x14,x15⟩
     have HSD3:=Go.Lib.hid hsd3
     clear hsd hsd3 hO3 x0 x1 x2 x3 x4 x5 x6 x7 x8 x9 x10 x11 x12 x13 x14 x15
     go_wp2_with fail
     refine hK.out _ _ HX.out (fun hHeld2=>?_)
     clear hK K
     have hHeld:=hHeld2
     clear hHeld2
     try simp only[Act.put,List.setIfInBounds_toArray,List.set_cons_zero,List.set_cons_succ]
     refine wpAnyH_done (by kernel_rfl) ?_ _
     clear hHeld HX
     go_wp2_with fail
     apply leaves5 (P:=fun(rn:Nat) (a3:Option Addr) (c3:Nat) (F3:List LC) (W9:World)=>Below X6.heap.size X6 W9∧Sn W9 (A2 p3 (w4.heap.size) rn) L2 (.slice a3 F3.length c3) F3∧W9.cell? ⟨rn,0,none⟩=some (.int .i64 ((roomOf 20:Nat):Int))∧W9.cell? ⟨rn,1,none⟩=some (.slice a3 F3.length c3))
     case main =>
      intro HLEAF
      obtain⟨y0,y1,y2,y3,y4,y5,y6,y7,y8,y9,y10,y11,y12,y13⟩:=HY.out
      have x0:=bl_cell HSD3.out.bl y0
      have x1:=bl_cell HSD3.out.bl y1
      have x2:=bl_cell HSD3.out.bl y2
      have x3:=bl_cell HSD3.out.bl y3
      have x4:=bl_cell HSD3.out.bl y4
      have x5:=bl_cell HSD3.out.bl y5
      have x6:=bl_cell HSD3.out.bl y6
      have x7:=bl_cell HSD3.out.bl y7
      have x8:=bl_cell HSD3.out.bl y8
      have x9:=bl_cell HSD3.out.bl y9
      have x10:=bl_cell HSD3.out.bl y10
      have x11:=bl_cell HSD3.out.bl y11
      have x12:=bl_cell HSD3.out.bl y12
      have x13:=bl_cell HSD3.out.bl y13
      clear y0 y1 y2 y3 y4 y5 y6 y7 y8 y9 y10 y11 y12 y13
      have x14:=HSD3.out.t0
      have x15:=HSD3.out.t1
      refine wp_region_held_drew (S:=fun X=>X.cell? ⟨xb,xo+j2*14,none⟩=some (.int .i64 dk)∧X.cell? ⟨xb,xo+j2*14+1,none⟩=some (.string KE)∧X.cell? ⟨xb,xo+j2*14+2,none⟩=some (.int .i64 ek)∧X.cell? ⟨xb,xo+j2*14+3,none⟩=some (.int .i64 el)∧X.cell? ⟨xb,xo+j2*14+4,none⟩=some (.int .i64 ed)∧X.cell? ⟨xb,xo+j2*14+5,none⟩=some (.int .i64 eb)∧X.cell? ⟨xb,xo+j2*14+6,none⟩=some (.int .i64 ec)∧X.cell? ⟨xb,xo+j2*14+7,none⟩=some (.bool eo)∧X.cell? ⟨xb,xo+j2*14+8,none⟩=some (.int .i64 eat)∧X.cell? ⟨xb,xo+j2*14+9,none⟩=some (.int .i64 elev)∧X.cell? ⟨xb,xo+j2*14+10,none⟩=some (.int .i64 eheld)∧X.cell? ⟨xb,xo+j2*14+11,none⟩=some (.slice ea en ecp)∧X.cell? ⟨xb,xo+j2*14+12,none⟩=some (.int .i64 enow)∧X.cell? ⟨xb,xo+j2*14+13,none⟩=some (.int .i64 ecost)∧X.cell? ⟨w4.heap.size,0,none⟩=some (.int .i64 ((roomOf 20:Nat):Int))∧X.cell? ⟨w4.heap.size,1,none⟩=some (.slice ra Js2.length rc)) (by kernel_rfl) ?_ (fun hHeld=>?_)
      ·exact⟨x0,x1,x2,x3,x4,x5,x6,x7,x8,x9,x10,x11,x12,x13,x14,x15⟩
      try simp only[Act.put,List.setIfInBounds_toArray,List.set_cons_zero,List.set_cons_succ]
      clear x0 x1 x2 x3 x4 x5 x6 x7 x8 x9 x10 x11 x12 x13 x14 x15
      refine wpAnyH_abs (F:=fun X=>Below X6.heap.size X6 X) hHeld (bl_drew (bl_refl _)) ?_
      clear hHeld
      rintro Y0 hHeld hbx
      have hlt0:=HSD3.out.tlt
      have hlt1:xb<X6.heap.size:=by obtain⟨y0,-⟩:=HY.out;have h1:=World.block_lt_of_cell? _ _ y0;have h2:=HSD3.out.bl.size;dsimp only at h1;omega
      refine tkx 0 ?_
      refine tkx 1 ?_
      refine tkx 2 ?_
      refine tkx 3 ?_
      refine tkx 4 ?_
      refine callC2 (i:=5) (j:=9) rfl rfl ?brA2 ?brB2
      case' brA2 =>
       intro K hK
       obtain⟨hx0,hx1,hx2,hx3,hx4,hx5,hx6,hx7,hx8,hx9,hx10,hx11,hx12,hx13,hx14,hx15⟩:=(id hHeld)
       clear hHeld
       go_simp
       refine(HST1.out _ _ _ (HSD3.out.to hbx)).mono ?_
       rintro e Y5 ⟨v3,F3,rfl,hsn,hb⟩
       obtain⟨a3,c3,rfl⟩:=cs_form hsn.row.1
       have HX:Hid ((fun X=>X.cell? ⟨xb,xo+j2*14,none⟩=some (.int .i64 dk)∧X.cell? ⟨xb,xo+j2*14+1,none⟩=some (.string KE)∧X.cell? ⟨xb,xo+j2*14+2,none⟩=some (.int .i64 ek)∧X.cell? ⟨xb,xo+j2*14+3,none⟩=some (.int .i64 el)∧X.cell? ⟨xb,xo+j2*14+4,none⟩=some (.int .i64 ed)∧X.cell? ⟨xb,xo+j2*14+5,none⟩=some (.int .i64 eb)∧X.cell? ⟨xb,xo+j2*14+6,none⟩=some (.int .i64 ec)∧X.cell? ⟨xb,xo+j2*14+7,none⟩=some (.bool eo)∧X.cell? ⟨xb,xo+j2*14+8,none⟩=some (.int .i64 eat)∧X.cell? ⟨xb,xo+j2*14+9,none⟩=some (.int .i64 elev)∧X.cell? ⟨xb,xo+j2*14+10,none⟩=some (.int .i64 eheld)∧X.cell? ⟨xb,xo+j2*14+11,none⟩=some (.slice ea en ecp)∧X.cell? ⟨xb,xo+j2*14+12,none⟩=some (.int .i64 enow)∧X.cell? ⟨xb,xo+j2*14+13,none⟩=some (.int .i64 ecost)∧X.cell? ⟨w4.heap.size,0,none⟩=some (.int .i64 ((roomOf 20:Nat):Int))∧X.cell? ⟨w4.heap.size,1,none⟩=some (.slice ra Js2.length rc)) Y5):=Go.Lib.hid ⟨bl_cell hb hx0,bl_cell hb hx1,bl_cell hb hx2,bl_cell hb hx3,bl_cell hb hx4,bl_cell hb hx5,bl_cell hb hx6,bl_cell hb hx7,bl_cell hb hx8,bl_cell hb hx9,bl_cell hb hx10,bl_cell hb hx11,bl_cell hb hx12,bl_cell hb hx13,bl_cell hb hx14,bl_cell hb hx15⟩
       replace hbx:=bl_then hbx hb
       clear hb hx0 hx1 hx2 hx3 hx4 hx5 hx6 hx7 hx8 hx9 hx10 hx11 hx12 hx13 hx14 hx15
       have HSN:=Go.Lib.hid hsn
       have HBX:=Go.Lib.hid hbx
       clear hsn hbx
       go_wp2_with fail
       refine hK.out _ _ HX.out (fun hHeld2=>?_)
       clear hK K HX
       have hHeld:=hHeld2
       clear hHeld2
       have hsn:=HSN.out
       have hbx:=HBX.out
       clear HSN HBX
       try simp only[Act.put,List.setIfInBounds_toArray,List.set_cons_zero,List.set_cons_succ]
       refine tkx 6 ?_
       refine tkx 7 ?_
       refine tkx 8 ?_
       refine callC (i:=9) rfl (fun K hK=>?_)
       obtain⟨hx0,hx1,hx2,hx3,hx4,hx5,hx6,hx7,hx8,hx9,hx10,hx11,hx12,hx13,hx14,hx15⟩:=(id hHeld)
       clear hHeld
       go_simp
       refine hK.out _ _ ⟨bl_cell (bl_alloc (bl_refl _) _) hx0,bl_cell (bl_alloc (bl_refl _) _) hx1,bl_cell (bl_alloc (bl_refl _) _) hx2,bl_cell (bl_alloc (bl_refl _) _) hx3,bl_cell (bl_alloc (bl_refl _) _) hx4,bl_cell (bl_alloc (bl_refl _) _) hx5,bl_cell (bl_alloc (bl_refl _) _) hx6,bl_cell (bl_alloc (bl_refl _) _) hx7,bl_cell (bl_alloc (bl_refl _) _) hx8,bl_cell (bl_alloc (bl_refl _) _) hx9,bl_cell (bl_alloc (bl_refl _) _) hx10,bl_cell (bl_alloc (bl_refl _) _) hx11,bl_cell (bl_alloc (bl_refl _) _) hx12,bl_cell (bl_alloc (bl_refl _) _) hx13,bl_cell (bl_alloc (bl_refl _) _) hx14,bl_cell (bl_alloc (bl_refl _) _) hx15⟩ (fun hHeld2=>?_)
       clear hK K hx0 hx1 hx2 hx3 hx4 hx5 hx6 hx7 hx8 hx9 hx10 hx11 hx12 hx13 hx14 hx15
       have hHeld:=hHeld2
       clear hHeld2
       try simp only[Act.put,List.setIfInBounds_toArray,List.set_cons_zero,List.set_cons_succ]
       have hrn:X6.heap.size≤Y5.heap.size:=hbx.size
       refine wpAnyH_abs (F:=fun X=>Below X6.heap.size X6 X∧Sn X (A2 p3 (w4.heap.size) Y5.heap.size) L2 (.slice a3 F3.length c3) F3∧X.cell? ⟨Y5.heap.size,0,none⟩=some (.int .i64 0)∧X.cell? ⟨Y5.heap.size,1,none⟩=some (.slice none 0 0)∧FB X Y5.heap.size 2∧Y5.heap.size<X.heap.size) hHeld ⟨bl_alloc hbx _,(hsn.new (Nat.le_refl _)).to (bl_alloc (bl_refl _) _),by simp,by simp,fb_new #[_,_] _ rfl,by simp⟩ ?_
       clear hHeld hbx hsn
       generalize Y5.heap.size=rn at *
       rintro Y29 hHeld ⟨hbx,hsn,z0,z1,hFB,hrn2⟩
       refine callC (i:=10) rfl (fun K hK=>?_)
       obtain⟨hx0,hx1,hx2,hx3,hx4,hx5,hx6,hx7,hx8,hx9,hx10,hx11,hx12,hx13,hx14,hx15⟩:=(id hHeld)
       clear hHeld
       obtain⟨⟨-,f0⟩,⟨-,f1⟩⟩:=And.intro (hFB 0 (by omega)) (hFB 1 (by omega))
       go_simp
       refine hK.out _ _ ⟨far_set (far_set hx0 _ _ (by dsimp only;omega)) _ _ (by dsimp only;omega),far_set (far_set hx1 _ _ (by dsimp only;omega)) _ _ (by dsimp only;omega),far_set (far_set hx2 _ _ (by dsimp only;omega)) _ _ (by dsimp only;omega),far_set (far_set hx3 _ _ (by dsimp only;omega)) _ _ (by dsimp only;omega),far_set (far_set hx4 _ _ (by dsimp only;omega)) _ _ (by dsimp only;omega),far_set (far_set hx5 _ _ (by dsimp only;omega)) _ _ (by dsimp only;omega),far_set (far_set hx6 _ _ (by dsimp only;omega)) _ _ (by dsimp only;omega),far_set (far_set hx7 _ _ (by dsimp only;omega)) _ _ (by dsimp only;omega),far_set (far_set hx8 _ _ (by dsimp only;omega)) _ _ (by dsimp only;omega),far_set (far_set hx9 _ _ (by dsimp only;omega)) _ _ (by dsimp only;omega),far_set (far_set hx10 _ _ (by dsimp only;omega)) _ _ (by dsimp only;omega),far_set (far_set hx11 _ _ (by dsimp only;omega)) _ _ (by dsimp only;omega),far_set (far_set hx12 _ _ (by dsimp only;omega)) _ _ (by dsimp only;omega),far_set (far_set hx13 _ _ (by dsimp only;omega)) _ _ (by dsimp only;omega),far_set (far_set hx14 _ _ (by dsimp only;omega)) _ _ (by dsimp only;omega),far_set (far_set hx15 _ _ (by dsimp only;omega)) _ _ (by dsimp only;omega)⟩ (fun hHeld2=>?_)
       replace hbx:=bl_set (bl_set hbx (a:=⟨rn,0,none⟩) hrn (.int .i64 ((roomOf 20:Nat):Int))) (a:=⟨rn,1,none⟩) hrn (.slice a3 F3.length c3)
       replace hsn:=(hsn.set (rn:=rn) (.inr rfl) 0 (.int .i64 ((roomOf 20:Nat):Int))).set (rn:=rn) (.inr rfl) 1 (.slice a3 F3.length c3)
       obtain⟨z0,z1⟩:=set2b (v0:=.int .i64 ((roomOf 20:Nat):Int)) (v1:=.slice a3 F3.length c3) z0 z1
       clear hK K f0 f1 hx0 hx1 hx2 hx3 hx4 hx5 hx6 hx7 hx8 hx9 hx10 hx11 hx12 hx13 hx14 hx15
       have hHeld:=hHeld2
       clear hHeld2
       try simp only[Act.put,List.setIfInBounds_toArray,List.set_cons_zero,List.set_cons_succ]
       refine tkx 11 ?_
       refine wpAnyH_done (by kernel_rfl) ?_ _
       refine then_abs (F:=fun X=>Below X6.heap.size X6 X∧Sn X (A2 p3 (w4.heap.size) rn) L2 (.slice a3 F3.length c3) F3∧X.cell? ⟨rn,0,none⟩=some (.int .i64 ((roomOf 20:Nat):Int))∧X.cell? ⟨rn,1,none⟩=some (.slice a3 F3.length c3)) ⟨hbx,hsn,z0,z1⟩ ?_
       clear hHeld hbx hsn z0 z1 hFB
       rintro W9 ⟨hbx,hsn,u0,u1⟩
       exact HLEAF rn a3 c3 F3 W9 ⟨hbx,hsn,u0,u1⟩
      case' brB2 =>
       intro K hK
       obtain⟨hx0,hx1,hx2,hx3,hx4,hx5,hx6,hx7,hx8,hx9,hx10,hx11,hx12,hx13,hx14,hx15⟩:=(id hHeld)
       clear hHeld
       go_simp
       refine hK.out _ _ ⟨bl_cell (bl_alloc (bl_refl _) _) hx0,bl_cell (bl_alloc (bl_refl _) _) hx1,bl_cell (bl_alloc (bl_refl _) _) hx2,bl_cell (bl_alloc (bl_refl _) _) hx3,bl_cell (bl_alloc (bl_refl _) _) hx4,bl_cell (bl_alloc (bl_refl _) _) hx5,bl_cell (bl_alloc (bl_refl _) _) hx6,bl_cell (bl_alloc (bl_refl _) _) hx7,bl_cell (bl_alloc (bl_refl _) _) hx8,bl_cell (bl_alloc (bl_refl _) _) hx9,bl_cell (bl_alloc (bl_refl _) _) hx10,bl_cell (bl_alloc (bl_refl _) _) hx11,bl_cell (bl_alloc (bl_refl _) _) hx12,bl_cell (bl_alloc (bl_refl _) _) hx13,bl_cell (bl_alloc (bl_refl _) _) hx14,bl_cell (bl_alloc (bl_refl _) _) hx15⟩ (fun hHeld2=>?_)
       clear hK K hx0 hx1 hx2 hx3 hx4 hx5 hx6 hx7 hx8 hx9 hx10 hx11 hx12 hx13 hx14 hx15
       have hHeld:=hHeld2
       clear hHeld2
       try simp only[Act.put,List.setIfInBounds_toArray,List.set_cons_zero,List.set_cons_succ]
       have hrn:X6.heap.size≤Y0.heap.size:=hbx.size
       refine wpAnyH_abs (F:=fun X=>Below X6.heap.size X6 X∧X.cell? ⟨Y0.heap.size,0,none⟩=some (.int .i64 0)∧X.cell? ⟨Y0.heap.size,1,none⟩=some (.slice none 0 0)∧FB X Y0.heap.size 2∧Y0.heap.size<X.heap.size) hHeld ⟨bl_alloc hbx _,by simp,by simp,fb_new #[_,_] _ rfl,by simp⟩ ?_
       clear hHeld hbx
       generalize Y0.heap.size=rn at *
       rintro Y25 hHeld ⟨hbx,z0,z1,hFB,hrn2⟩
       refine callC (i:=5) rfl (fun K hK=>?_)
       obtain⟨hx0,hx1,hx2,hx3,hx4,hx5,hx6,hx7,hx8,hx9,hx10,hx11,hx12,hx13,hx14,hx15⟩:=(id hHeld)
       clear hHeld
       go_simp
       refine(HST2.out _ _ _ HSD3.out _ hbx rn hrn hrn2).mono ?_
       rintro e Y6 ⟨v3,F3,rfl,hsn,hb⟩
       obtain⟨a3,c3,rfl⟩:=cs_form hsn.row.1
       have HX:Hid ((fun X=>X.cell? ⟨xb,xo+j2*14,none⟩=some (.int .i64 dk)∧X.cell? ⟨xb,xo+j2*14+1,none⟩=some (.string KE)∧X.cell? ⟨xb,xo+j2*14+2,none⟩=some (.int .i64 ek)∧X.cell? ⟨xb,xo+j2*14+3,none⟩=some (.int .i64 el)∧X.cell? ⟨xb,xo+j2*14+4,none⟩=some (.int .i64 ed)∧X.cell? ⟨xb,xo+j2*14+5,none⟩=some (.int .i64 eb)∧X.cell? ⟨xb,xo+j2*14+6,none⟩=some (.int .i64 ec)∧X.cell? ⟨xb,xo+j2*14+7,none⟩=some (.bool eo)∧X.cell? ⟨xb,xo+j2*14+8,none⟩=some (.int .i64 eat)∧X.cell? ⟨xb,xo+j2*14+9,none⟩=some (.int .i64 elev)∧X.cell? ⟨xb,xo+j2*14+10,none⟩=some (.int .i64 eheld)∧X.cell? ⟨xb,xo+j2*14+11,none⟩=some (.slice ea en ecp)∧X.cell? ⟨xb,xo+j2*14+12,none⟩=some (.int .i64 enow)∧X.cell? ⟨xb,xo+j2*14+13,none⟩=some (.int .i64 ecost)∧X.cell? ⟨w4.heap.size,0,none⟩=some (.int .i64 ((roomOf 20:Nat):Int))∧X.cell? ⟨w4.heap.size,1,none⟩=some (.slice ra Js2.length rc)) Y6):=Go.Lib.hid ⟨bl_cell hb hx0,bl_cell hb hx1,bl_cell hb hx2,bl_cell hb hx3,bl_cell hb hx4,bl_cell hb hx5,bl_cell hb hx6,bl_cell hb hx7,bl_cell hb hx8,bl_cell hb hx9,bl_cell hb hx10,bl_cell hb hx11,bl_cell hb hx12,bl_cell hb hx13,bl_cell hb hx14,bl_cell hb hx15⟩
       replace hbx:=bl_then hbx hb
       replace z0:=bl_cell hb z0
       replace z1:=bl_cell hb z1
       replace hFB:=fb_bl hFB hb
       replace hrn2:=Nat.lt_of_lt_of_le hrn2 hb.size
       clear hb hx0 hx1 hx2 hx3 hx4 hx5 hx6 hx7 hx8 hx9 hx10 hx11 hx12 hx13 hx14 hx15
       have HSN:=Go.Lib.hid hsn
       have HBX:=Go.Lib.hid hbx
       clear hsn hbx
       go_wp2_with fail
       refine hK.out _ _ HX.out (fun hHeld2=>?_)
       clear hK K HX
       have hHeld:=hHeld2
       clear hHeld2
       have hsn:=HSN.out
       have hbx:=HBX.out
       clear HSN HBX
       try simp only[Act.put,List.setIfInBounds_toArray,List.set_cons_zero,List.set_cons_succ]
       refine tkx 6 ?_
       refine tkx 7 ?_
       refine tkx 8 ?_
       refine callC (i:=10) rfl (fun K hK=>?_)
       obtain⟨hx0,hx1,hx2,hx3,hx4,hx5,hx6,hx7,hx8,hx9,hx10,hx11,hx12,hx13,hx14,hx15⟩:=(id hHeld)
       clear hHeld
       obtain⟨⟨-,f0⟩,⟨-,f1⟩⟩:=And.intro (hFB 0 (by omega)) (hFB 1 (by omega))
       go_simp
       refine hK.out _ _ ⟨far_set (far_set hx0 _ _ (by dsimp only;omega)) _ _ (by dsimp only;omega),far_set (far_set hx1 _ _ (by dsimp only;omega)) _ _ (by dsimp only;omega),far_set (far_set hx2 _ _ (by dsimp only;omega)) _ _ (by dsimp only;omega),far_set (far_set hx3 _ _ (by dsimp only;omega)) _ _ (by dsimp only;omega),far_set (far_set hx4 _ _ (by dsimp only;omega)) _ _ (by dsimp only;omega),far_set (far_set hx5 _ _ (by dsimp only;omega)) _ _ (by dsimp only;omega),far_set (far_set hx6 _ _ (by dsimp only;omega)) _ _ (by dsimp only;omega),far_set (far_set hx7 _ _ (by dsimp only;omega)) _ _ (by dsimp only;omega),far_set (far_set hx8 _ _ (by dsimp only;omega)) _ _ (by dsimp only;omega),far_set (far_set hx9 _ _ (by dsimp only;omega)) _ _ (by dsimp only;omega),far_set (far_set hx10 _ _ (by dsimp only;omega)) _ _ (by dsimp only;omega),far_set (far_set hx11 _ _ (by dsimp only;omega)) _ _ (by dsimp only;omega),far_set (far_set hx12 _ _ (by dsimp only;omega)) _ _ (by dsimp only;omega),far_set (far_set hx13 _ _ (by dsimp only;omega)) _ _ (by dsimp only;omega),far_set (far_set hx14 _ _ (by dsimp only;omega)) _ _ (by dsimp only;omega),far_set (far_set hx15 _ _ (by dsimp only;omega)) _ _ (by dsimp only;omega)⟩ (fun hHeld2=>?_)
       replace hbx:=bl_set (bl_set hbx (a:=⟨rn,0,none⟩) hrn (.int .i64 ((roomOf 20:Nat):Int))) (a:=⟨rn,1,none⟩) hrn (.slice a3 F3.length c3)
       replace hsn:=(hsn.set (rn:=rn) (.inr rfl) 0 (.int .i64 ((roomOf 20:Nat):Int))).set (rn:=rn) (.inr rfl) 1 (.slice a3 F3.length c3)
       obtain⟨z0,z1⟩:=set2b (v0:=.int .i64 ((roomOf 20:Nat):Int)) (v1:=.slice a3 F3.length c3) z0 z1
       clear hK K f0 f1 hx0 hx1 hx2 hx3 hx4 hx5 hx6 hx7 hx8 hx9 hx10 hx11 hx12 hx13 hx14 hx15
       have hHeld:=hHeld2
       clear hHeld2
       try simp only[Act.put,List.setIfInBounds_toArray,List.set_cons_zero,List.set_cons_succ]
       refine tkx 11 ?_
       refine wpAnyH_done (by kernel_rfl) ?_ _
       refine then_abs (F:=fun X=>Below X6.heap.size X6 X∧Sn X (A2 p3 (w4.heap.size) rn) L2 (.slice a3 F3.length c3) F3∧X.cell? ⟨rn,0,none⟩=some (.int .i64 ((roomOf 20:Nat):Int))∧X.cell? ⟨rn,1,none⟩=some (.slice a3 F3.length c3)) ⟨hbx,hsn,z0,z1⟩ ?_
       clear hHeld hbx hsn z0 z1 hFB
       rintro W9 ⟨hbx,hsn,u0,u1⟩
       exact HLEAF rn a3 c3 F3 W9 ⟨hbx,hsn,u0,u1⟩
     rintro rn a3 c3 F3 W9 ⟨hbx,hsn,u0,u1⟩
     all_goals
      have hsd4:=HSD3.out.to hbx
      obtain⟨⟨-,tf0⟩,⟨-,tf1⟩⟩:=And.intro (hsd4.tR 0 (by omega)) (hsd4.tR 1 (by omega))
      have t0:=hsd4.t0
      have t1:=hsd4.t1
      have hsd5:=hsd4.put hsn (fun q hq => .inl hq)
      have HSD5:=Go.Lib.hid hsd5
      have HMAP:=Go.Lib.hid hsn.map
      clear hsd4 hsd5 hsn hbx HSD3
      go_wp2_with fail
      clear tf0 tf1 t0 t1 u0 u1
      go_roundw
      case rel=>exact⟨j2+1,by go_num,hj1,⟨p3,nx3,.slice a3 F3.length c3,F3,HSD5.out⟩⟩
      case measure=>(simp[intOf];first|exact hms|omega)
    ·have hk1 : ¬ (j2:Int)<(m2:Int):=by omega
     obtain⟨W2,hW2⟩:∃ W,W=wr:=⟨_,rfl⟩
     subst hW2
     obtain⟨ua,uc,rfl⟩:=cs_form hsd.row.1
     have HSD2:=Go.Lib.hid hsd
     have hs1:=HSD1.out.to hsd.bl
     have hj31:j2≤30:=by omega
     clear hjn hj
     go_wp2_with fail
     refine(sd_all hs1 (by omega)).mono ?_
     rintro e w6 ⟨a6,N,c6,Ks,rfl,hN,hrk,hmk,how,-,hb6⟩
     have hNK:N=Ks.length:=by rw[hN,← hmk,List.length_map]
     have hN4:N≤10000:=by have:=hs1.len;rw[List.length_map] at hN;omega
     have hlw:=logsw_own how
     have hge:∀ i ∈ Ks,∀ ad,i.a=some ad→i.n≠0→W2.heap.size≤ad.block:=fun i hi ad e hn=>own_ge (how i hi) ad e hn
     have hnr:∀ i ∈ Ks,∀ ad,i.a=some ad→i.n≠0→(Value.slice a6 N c6).ownBlock≠some ad.block:=fun i hi ad e hn=>by
      have h1:=rows_apart (how i hi) hrk.1 (by decide) ad.block (by rw[e];rfl)
      exact h1
     have HROW:=Go.Lib.hid hrk
     have HMKM:=Go.Lib.hid hmk
     have HLW:=Go.Lib.hid hlw
     have HGE:=Go.Lib.hid hge
     have HNR:=Go.Lib.hid hnr
     have HN:=Go.Lib.hid hNK
     have HB6:=Go.Lib.hid hb6
     have HS1:=Go.Lib.hid hs1
     clear hs1 hrk hmk how hlw hge hnr hNK hb6 hN hsd hk1
     go_wp2_with fail
     go_loopw [16] (fun s16 wr=>∃ k:Nat,s16=.int .i64 k∧k≤N∧Hid ((∀ b,(Value.slice a6 N c6).ownBlock=some b→wr.heap[b]?=w6.heap[b]?)∧LogsW wr Ks∧Below W2.heap.size W2 wr)) (fun s16 _=>N - (intOf s16).toNat)
     case atStart=>exact⟨0,rfl,Nat.zero_le _,⟨fun _ _=>rfl,HLW.out,HB6.out⟩⟩
     case round =>
      obtain⟨k,rfl,hk,H⟩:=hrel
      by_cases hkN:k<N
      ·obtain ⟨i,hik⟩:∃ i,Ks[k]?=some i:=⟨Ks[k]'(by rw[← HN.out];exact hkN),List.getElem?_eq_getElem _⟩
       have hmem:=List.mem_of_getElem? hik
       obtain⟨g,cap,e,-,-,-,-,-,-,-,-,-,-,g10⟩:=crow_at HROW.out hik
       injection e with e1 e2 e3
       subst e1 e3
       have k0:(0:Int)≤(k:Int):=by omega
       have k1:(k:Int)<(N:Int):=by omega
       have hms:N - (k+1)<N - k:=by omega
       have hkeep:∀ W:World,(∀ b,(Value.slice (some ⟨g,0,none⟩) N c6).ownBlock=some b→W.heap[b]?=w6.heap[b]?)→W.cell? ⟨g,k*11+10,none⟩=some (.slice i.a i.n i.c):=fun W hW=>by rw[World.cell?_of_block (hW g rfl)];exact g10
       have hlwk:=fun(W:World) (h:LogsW W Ks) q (hq:q<i.n)=>h i hmem q hq
       have hgei:=HGE.out i hmem
       have hnri:=HNR.out i hmem
       have hin:(i.n:Int)≤1000000:=by have:=(HROW.out.2 i hmem).1;have h2:=(cells_right HS1.out.cells i.x (by rw[← HMKM.out];exact List.mem_map.2 ⟨i,hmem,rfl⟩)).1;have:=right_log h2;omega
       obtain⟨x,a,n,c⟩:=i
       dsimp only at *
       have HKEEP:=Go.Lib.hid hkeep
       have HLWK:=Go.Lib.hid hlwk
       have HGEI:=Go.Lib.hid hgei
       have HNRI:=Go.Lib.hid hnri
       clear hkeep hlwk hgei hnri g10 hik hmem e2
       go_wp2_with fail
       go_loopw [17] (fun s17 wr=>∃ q:Nat,s17=.int .i64 q∧q≤n∧Hid ((∀ b,(Value.slice (some ⟨g,0,none⟩) N c6).ownBlock=some b→wr.heap[b]?=w6.heap[b]?)∧LogsW wr Ks∧Below W2.heap.size W2 wr)) (fun s17 _=>n - (intOf s17).toNat)
       case atStart=>exact⟨0,rfl,Nat.zero_le _,H.out⟩
       case round =>
        clear H
        obtain⟨q,rfl,hq,H⟩:=hrel
        obtain⟨hkp,hlw,hB⟩:=H.out
        clear H
        have g10:=HKEEP.out _ hkp
        have q0:(0:Int)≤(q:Int):=by omega
        by_cases hqn:q<n
        ·have q1:(q:Int)<(n:Int):=by omega
         have hms2:n - (q+1)<n - q:=by omega
         obtain⟨b,off,rfl,hz,fz⟩:=HLWK.out _ hlw q hqn
         obtain⟨u,hu⟩:=Option.isSome_iff_exists.1 hz
         have hgb:g≠b:=fun e=>HNRI.out _ rfl (by omega) (by rw[e];rfl)
         have hgb2:b≠g:=fun e=>hgb e.symm
         have hbb:=HGEI.out _ rfl (by omega)
         have HKP:=Go.Lib.hid hkp
         have HLW3:=Go.Lib.hid hlw
         clear hkp hlw hz
         go_wp2_with fail
         go_roundw
         case rel =>
          refine⟨q+1,by go_num,by omega,⟨fun b2 hb2=>?_,logsw_set HLW3.out _ _,bl_set hB (a:=⟨b,off+q*2+1,none⟩) hbb (.int .i64 99)⟩⟩
          rw[← HKP.out b2 hb2]
          have hne:b≠b2:=fun e=>by injection hb2 with h1;dsimp only at h1;omega
          simp[World.setCell,Array.getElem?_modify,hne]
         case measure=>(simp[intOf];first|exact hms2|omega)
        ·have hqe:q=n:=by omega
         subst hqe
         have q1:¬ (q:Int)<(q:Int):=by omega
         go_wp2_with fail
         go_roundw
         case rel=>exact⟨k+1,by go_num,by omega,⟨hkp,hlw,hB⟩⟩
         case measure=>(simp[intOf];first|exact hms|omega)
      ·obtain⟨hkp,hlw,hB⟩:=H.out
       clear H hkp hlw
       have hkk:k=N:=by omega
       subst hkk
       have k1:¬ (k:Int)<(k:Int):=by omega
       have hsc:=HS1.out.to hB
       have hsd:=HSD2.out.to hB
       have hal:=fun W (h:Below wr.heap.size wr W)=>sd_all (hsc.to h) (by omega)
       have hal2:=fun W (h:Below wr.heap.size wr W)=>sd_all (hsd.to h) (by omega)
       simp only[List.length_map] at hal hal2
       have hsm:=fun(v u:Value) (K2:List LC) W base (h:CRow W base v K2) (h2:CRow W 0 u Js) he=>rsame_yes v u W h h2 he (by have:=congrArg List.length he;rw[List.length_map,List.length_map] at this;have:=hsc.len;omega)
       have hsm2:=fun(v u:Value) (K2:List LC) W base (h:CRow W base v K2) (h2:CRow W 0 u Js2) he=>rsame_yes v u W h h2 he (by have:=congrArg List.length he;rw[List.length_map,List.length_map] at this;have:=hsd.len;omega)
       have HAL:=Go.Lib.hid hal
       have HAL2:=Go.Lib.hid hal2
       have HSM:=Go.Lib.hid hsm
       have HSM2:=Go.Lib.hid hsm2
       clear hal hal2 hsm hsm2
       have t1:=hsc.t1
       have s1:=hsd.t1
       have HR1:=Go.Lib.hid hsc.row
       have HR2:=Go.Lib.hid hsd.row
       have hB0:=bl_then (bl_then HB1.out HSD1.out.bl) (bl_then HSD2.out.bl hB)
       have HBB:=Go.Lib.hid hB0
       clear hsc hsd hB hB0
       go_wp2_with fail
       have hbw:=bl_refl wr
       have hB:=HBB.out
       refine wp_region_held_drew (S:=fun w'=>w'.cell? ⟨w3.heap.size,1,none⟩=some (.slice va Js.length vc)∧w'.cell? ⟨w4.heap.size,1,none⟩=some (.slice ua Js2.length uc)∧Below wr.heap.size wr w'∧Below w.heap.size w w') (by kernel_rfl) ?_ (fun hHeld=>?_)
       ·exact⟨t1,s1,(bl_drew hbw),bl_drew hB⟩
       try simp only[Act.put,List.setIfInBounds_toArray,List.set_cons_zero,List.set_cons_succ]
       refine tkx 0 ?_
       refine tkx 2 ?_
       refine tkx 3 ?_
       (refine callC (i:=1) rfl (fun K hK=>?_);obtain⟨h_t1,h_s1,h_hbw,h_B⟩:=(id hHeld);go_simp;refine(HAL.out _ h_hbw).mono ?_;rintro e w9 ⟨a7,n7,c7,K7,rfl,rfl,hrk,hmk,-,-,hb⟩;have HMK7:=Go.Lib.hid hmk;clear hmk;go_wp2_with fail;refine hK.out _ _ ?_ (fun hHeld2=>?_);(focus((try dsimp only);exact⟨bl_cell hb h_t1,bl_cell hb h_s1,bl_then h_hbw hb,bl_then h_B hb⟩));clear hHeld hK K;have hHeld:=hHeld2;clear hHeld2 h_t1 h_s1 h_hbw h_B;try simp only[Act.put,List.setIfInBounds_toArray,List.set_cons_zero,List.set_cons_succ])
       (refine callC (i:=4) rfl (fun K hK=>?_);obtain⟨h_t1,h_s1,h_hbw,h_B⟩:=(id hHeld);go_simp;refine(HSM.out _ _ _ _ _ hrk (crow_bl HR1.out h_hbw) HMK7.out).mono ?_;rintro e w9 ⟨rfl,hb⟩;clear hrk;go_wp2_with fail;refine hK.out _ _ ?_ (fun hHeld2=>?_);(focus((try dsimp only);exact⟨bl_cell hb h_t1,bl_cell hb h_s1,bl_then h_hbw hb,bl_then h_B hb⟩));clear hHeld hK K;have hHeld:=hHeld2;clear hHeld2 h_t1 h_s1 h_hbw h_B;try simp only[Act.put,List.setIfInBounds_toArray,List.set_cons_zero,List.set_cons_succ])
       refine tkx 5 ?_
       first|refine tqx 6 ?_|refine tkx 6 ?_
       first|refine tqx 8 ?_|refine tkx 8 ?_
       first|refine tqx 9 ?_|refine tkx 9 ?_
       first|(refine tqx 7 ?_)|(refine callC (i:=7) rfl (fun K hK=>?_);obtain⟨h_t1,h_s1,h_hbw,h_B⟩:=(id hHeld);go_simp;refine(HAL2.out _ h_hbw).mono ?_;rintro e w9 ⟨a8,n8,c8,K8,rfl,rfl,hrk,hmk,-,-,hb⟩;have HMK8:=Go.Lib.hid hmk;clear hmk;go_wp2_with fail;refine hK.out _ _ ?_ (fun hHeld2=>?_);(focus((try dsimp only);exact⟨bl_cell hb h_t1,bl_cell hb h_s1,bl_then h_hbw hb,bl_then h_B hb⟩));clear hHeld hK K;have hHeld:=hHeld2;clear hHeld2 h_t1 h_s1 h_hbw h_B;try simp only[Act.put,List.setIfInBounds_toArray,List.set_cons_zero,List.set_cons_succ])
       first|(refine tqx 10 ?_)|(refine callC (i:=10) rfl (fun K hK=>?_);obtain⟨h_t1,h_s1,h_hbw,h_B⟩:=(id hHeld);go_simp;refine(HSM2.out _ _ _ _ _ hrk (crow_bl HR2.out h_hbw) HMK8.out).mono ?_;rintro e w9 ⟨rfl,hb⟩;clear hrk;go_wp2_with fail;refine hK.out _ _ ?_ (fun hHeld2=>?_);(focus((try dsimp only);exact⟨bl_cell hb h_t1,bl_cell hb h_s1,bl_then h_hbw hb,bl_then h_B hb⟩));clear hHeld hK K;have hHeld:=hHeld2;clear hHeld2 h_t1 h_s1 h_hbw h_B;try simp only[Act.put,List.setIfInBounds_toArray,List.set_cons_zero,List.set_cons_succ])
       refine tkx 11 ?_
       refine tkx 12 ?_
       first|(refine tqx 13 ?_)|(refine callC (i:=13) rfl (fun K hK=>?_);obtain⟨h_t1,h_s1,h_hbw,h_B⟩:=(id hHeld);go_simp;refine(HKN.out _).mono ?_;rintro e w9 ⟨rfl,hb⟩;go_wp2_with fail;refine hK.out _ _ ?_ (fun hHeld2=>?_);(focus((try dsimp only);exact⟨bl_cell hb h_t1,bl_cell hb h_s1,bl_then h_hbw hb,bl_then h_B hb⟩));clear hHeld hK K;have hHeld:=hHeld2;clear hHeld2 h_t1 h_s1 h_hbw h_B;try simp only[Act.put,List.setIfInBounds_toArray,List.set_cons_zero,List.set_cons_succ])
       refine tkx 14 ?_
       refine tkx 15 ?_
       refine wpAnyH_done (by kernel_rfl) ?_ _
       refine then_abs (F:=fun w'=>w'.cell? ⟨w3.heap.size,1,none⟩=some (.slice va Js.length vc)∧w'.cell? ⟨w4.heap.size,1,none⟩=some (.slice ua Js2.length uc)∧Below wr.heap.size wr w'∧Below w.heap.size w w') hHeld ?_
       clear hHeld hB t1 s1 hbw
       rintro w61 ⟨t1,s1,hbw,hB⟩
       go_wp2_with fail
       go_ret
       first|exact⟨rfl,hB⟩|exact hB
theorem ccopies_walk (la:Option Addr) (m lc:Nat) (ds:Nat→CD) (lb:Option Addr) (m2 lc2:Nat) (es:Nat→CD) (w:World) (hA:CDosIn w la m ds) (hA2:CDosIn w lb m2 es):Calls Tryz.prog 12 #[.slice la m lc,.slice lb m2 lc2] w fun e w'=>e=.returned (.bool true)∧Below w.heap.size w w':=by
 by_cases hm:(30:Int)<m
 ·exact ccopies_long la m lc ds lb m2 lc2 es w hA hA2 hm
 ·by_cases hm2:(30:Int)<m2
  ·exact ccopies_long2 la m lc ds lb m2 lc2 es w hA hA2 hm hm2
  ·exact ccopies_run la m lc ds lb m2 lc2 es w hA hA2 hm hm2
end Go.Proofs.YtmhikkbdhboodaaGreat

namespace Go.Proofs.YtmhikkbdhboodaaGreat.cellsCopies
open Go.ChangeShapes Go.WideShapes Go.ChangeAt Go.RowKit
open Go.ChangeMaps (open_string shut_string)
set_option linter.unusedVariables false
set_option linter.unusedSimpArgs false

theorem own:ownKnob Tryz.prog.godebug=none:=by kernel_rfl
theorem laidOut:laidOutB Tryz.prog=true:=by kernel_rfl

set_option maxHeartbeats 1000000 in
set_option maxRecDepth 100000 in
theorem lifted (os:Os) (started:os.Started) (H:Type) (enc:TypeId × Value→H) :
  ReturnsInHanded {} Tryz.checked os 12 .any (Rows.cellsCopiesSpec.pre6 enc Tryz.prog Tryz.f12 Rows.cellsCopiesRow.domain false) (Rows.cellsCopiesSpec.post enc Tryz.prog Tryz.f12 false true false false):=by
 refine returnsInHanded_of_change (C:=Tryz.checked) own started (by kernel_rfl) Tryz.func12
  (ChangeSpec.witness6 (enc:=enc) (C:=Tryz.checked) false ⟨#[],#[.slice none 0 0,.slice none 0 0],[]⟩ 8 (by kernel_rfl) (by kernel_rfl) (by kernel_rfl) (by kernel_rfl)) ?_
 intro W base args ds gs before hval0 hW hcnd _
 have hval:∀ (j:Nat) t v,Tryz.f12.params[j]?=some t→args[j]?=some v→Value.okWide Tryz.prog W .any base t v:=hval0
 have hW':=hW
 obtain⟨p,q,hA0,hV,rfl,hfz,hnd⟩:=hW
 have hA:DataW.TrodAll enc Tryz.prog W 0 (fun _=>true) true Tryz.f12.params.toList args.toList ds p:=hA0
 rw[Tryz.params12] at hA hval
 obtain⟨v0,vs0,d0,ds0',p0,q0,hargs,rfl,rfl,h0,r0⟩:=trodAll_cons hA
 obtain⟨v1,vs1,d1,ds1',p1,q1,rfl,rfl,rfl,h1,r1⟩:=trodAll_cons r0
 obtain⟨rfl,rfl,rfl⟩:=trodAll_nil r1
 obtain rfl:args = #[v0,v1]:=by cases args;simp_all
 obtain⟨rfl,rfl⟩:=trodVars_none hV
 obtain⟨a0,len0,cap0,rfl⟩:=okWide_slice Tryz.underlying49 (hval 0 49 v0 rfl rfl)
 have k0:=h0
 have lt0:∀ x ∈ p0,x.block<W.heap.size:=by obtain⟨m,hm⟩:=k0;exact DataW.trod_lt m _ _ _ hm
 obtain⟨ds0,w0⟩:∃ ds,CDosIn W a0 len0 ds:=by obtain⟨fuel,hf⟩:=h0;exact open_cds (by simpa [Value.cells] using hf)
 obtain⟨a1,len1,cap1,rfl⟩:=okWide_slice Tryz.underlying49 (hval 1 49 v1 rfl rfl)
 have k1:=h1
 have lt1:∀ x ∈ p1,x.block<W.heap.size:=by obtain⟨m,hm⟩:=k1;exact DataW.trod_lt m _ _ _ hm
 obtain⟨ds1,w1⟩:∃ ds,CDosIn W a1 len1 ds:=by obtain⟨fuel,hf⟩:=h1;exact open_cds (by simpa [Value.cells] using hf)
 clear hA0 hval0
 refine(ccopies_walk a0 len0 cap0 ds0 a1 len1 cap1 ds1 W w0 w1).mono fun e W' ⟨he,bel⟩=>?_
 subst he
 exact⟨_,rfl,_,_,_,[],_,[],hW',trodAll_mk1 (shut_bool Tryz.underlying4 _),(trodAll_cons_mk (Below.trod laidOut (by kernel_rfl) (of_decide_eq_true (by kernel_rfl)) k0 bel lt0) (trodAll_cons_mk (Below.trod laidOut (by kernel_rfl) (of_decide_eq_true (by kernel_rfl)) k1 bel lt1) trodAll_mk0)),rfl,bel.frame _,fun h=>by cases h⟩

theorem over:Rows.cellsCopiesRow.holds Tryz.pinned (OpenSpec.ofChange Rows.cellsCopiesSpec) :=
 OpenClaim.holds_of_wide 12 Tryz.f12 rfl rfl rfl rfl rfl rfl rfl ⟨rfl,rfl,rfl,rfl,rfl⟩ rfl rfl rfl rfl rfl (by kernel_rfl) Tryz.func12 (by kernel_rfl)
  (of_decide_eq_true (by kernel_rfl)) (by unfold Func.isWrapper;first|(rw[if_pos (by decide +kernel)];kernel_rfl)|(rw[if_neg (by decide +kernel)];exact⟨rfl,rfl⟩))
  (fun os started H enc _=>lifted os started H enc)

/-- The statement. -/
theorem proved:Rows.CellsCopiesSaid:=over
end Go.Proofs.YtmhikkbdhboodaaGreat.cellsCopies
