/-
  What the table's put does with a key that is new.
  What the table's drop leaves: the law, and a place that is free behind the others.
  What the table's drop does.
  What the table's Peek answers.
  What the table's Put, Len and Delete (of a key that is not there) answer.
  What the table's Delete does with a key that is there.
  What the table's Oldest answers.
  What the table's Next answers.
  What the table's Keys answers.
  What the table's New answers.
  A table in memory, as a list of keys and numbers, from the oldest on; what its methods do with that list.
  No condition.
-/
import Derived.Test.YtmhikkbdhboodaaGreatZc1
import Derived.Test.YtmhikkbdhboodaaGreatZc3
import Derived.RangeFuncBox
import Derived.RangeFuncLeaves
import Derived.Shelf.Abstract
import Derived.Shelf.RegionOpen
import Derived.RangeFuncCalls
import Derived.WalkKit
import Derived.OwnWalkIn
import Derived.TacticsInMore
import Derived.LoopNIn
import Derived.LoopIn
import Derived.Maps.AppendAt
set_option maxHeartbeats 8000000
set_option maxRecDepth 100000
namespace Go.Proofs.YtmhikkbdhboodaaGreat
open Go.RowKit Go.Maps
set_option linter.unusedVariables false
set_option linter.unusedSimpArgs false

theorem atr_grow {t:Tb} {o:List Nat} (h:TI fnv t o) {x:Key} {i:Nat} (ha:AtR fnv t x i) (hx:∀ k ∈ o,(t.sl k).key≠x) (f1:List Nat) (n1:Nat) (s1:Nat→Slot) (hs:∀ k ∈ o,s1 k=t.sl k):AtR fnv { t with n:=n1,free:=f1,sl:=s1 } x i:=by
 obtain⟨d,h1,h2,h3,h4⟩:=ha
 have hst:∀ j,j<t.W→(Tb.Stop { t with n:=n1,free:=f1,sl:=s1 } x j↔t.Stop x j):=fun j hj=>by
  unfold Tb.Stop
  rcases h.way j hj with e|⟨k,hk,e⟩
  ·exact⟨fun _ => .inl e,fun _ => .inl e⟩
  ·dsimp only
   rw[e]
   show _∨(s1 k).key=x↔_
   rw[hs k hk]
   exact Iff.rfl
 exact⟨d,h1,h2,(hst i (h2 ▸ at_lt t x d)).2 h3,fun e he hh=>h4 e he ((hst _ (at_lt t x e)).1 hh)⟩
def TP (p:TbP) (vs vf:Value):TbP:=⟨p.b,vs,vf,p.g⟩
theorem only_new {F:Nat→Prop} {w w':World} (h:Only (fun k=>F k∨w.heap.size≤k) w w'):Only F w w' :=
 ⟨h.os,h.tape,h.output,h.size,fun b hb hn=>h.block b hb (fun hf=>by rcases hf with hf|hf;exact hn hf;omega)⟩
theorem put_new (p:TbP) (t:Tb) (o:List Nat) (i:Nat) (s:ByteArray) (v:Int) (w:World) (h:TabAt w p t o) (hs:s.size≤maxLen) (ha:AtR fnv t s.data.toList i) (hx:∀ k ∈ o,(t.sl k).key≠s.data.toList) (hf:o.length<t.room) :
  Calls Tryz.prog 148 #[.pointer (some ⟨p.b,0,none⟩),.string s,.int .i64 v] w fun e w'=>e=.returned (.bool true)∧∃ (vs vf:Value) (k n1:Nat) (f1:List Nat),TabAt w' (TP p vs vf) (t.new k i s.data.toList v f1 n1) (o ++ [k])∧k ∉ o∧Only (TF p) w w'∧∀ q,TF (TP p vs vf) q→TF p q∨w.heap.size≤q:=by
 have hw:=at_not h.ti hx ha
 have hiW:i<t.W:=by obtain⟨d,-,e,-⟩:=ha;rw[e];exact at_lt _ _ _
 have hfd:=fun w h=>find_any p t s i hs w h ha
 rw[hw,show(((0:Nat):Int) - 1) = -1 from rfl] at hfd
 have hlen:=h.ti.len
 have hct:=fun w h=>count_any p t w h (by omega)
 rw[show(t.n:Int) - (t.free.length:Int)=(o.length:Int) by omega] at hct
 have hm:=h.m
 have hsm:=hm.small
 have c0:=hm.c0
 have lb_c:=lbc c0
 have hge:¬ (t.room:Int)≤(o.length:Int):=by omega
 have hge2:¬ t.room≤o.length:=by omega
 have HM:=Go.Lib.hid hm
 have HT:=Go.Lib.hid h
 have HA:=Go.Lib.hid ha
 have HX:=Go.Lib.hid hx
 clear h ha hw hm hx
 have HFD:=Go.Lib.hid hfd
 have HCT:=Go.Lib.hid hct
 clear hfd hct
 have hB:=bl_refl w
 generalize hOL:o.length=OL at *
 have HOL:=Go.Lib.hid hOL
 clear hOL
 go_enter Tryz.func148,Tryz.ntmps148
 go_wp2_with fail
 refine(HFD.out _ HM.out).mono ?_
 rintro e w1 ⟨rfl,hb⟩
 replace c0:=bl_cell hb c0
 replace hB:=bl_then hB hb
 clear hb
 go_wp2_with fail
 refine wp_region_held_drew (S:=fun w'=>w'.cell? ⟨p.b,0,none⟩=some (.int .i64 t.room)∧Below w.heap.size w w') (by kernel_rfl) ?_ (fun hHeld=>?_)
 ·exact⟨c0,bl_drew hB⟩
 try simp only[Act.put,List.setIfInBounds_toArray,List.set_cons_zero,List.set_cons_succ]
 refine tkx 0 ?_
 refine tkx 2 ?_
 refine tkx 3 ?_
 refine tkx 4 ?_
 refine tkx 5 ?_
 (refine callH (i:=1) rfl hHeld (fun W hW K hK=>?_);clear hHeld;(try dsimp only at hW);obtain⟨h_c0,h_B⟩:=hW;go_simp;refine(HCT.out W (tabm_bl HM.out h_B)).mono ?_;rintro e w9 ⟨rfl,hb⟩;go_wp2_with fail;refine hK.out _ _ ?_ (fun hHeld=>?_);(focus((try dsimp only);exact⟨bl_cell hb h_c0,bl_then h_B hb⟩));clear hK K;clear h_c0 h_B;try simp only[Act.put,List.setIfInBounds_toArray,List.set_cons_zero,List.set_cons_succ])
 refine tkx 6 ?_
 refine wpAnyH_done (by kernel_rfl) ?_ _
 refine then_abs (F:=fun w'=>w'.cell? ⟨p.b,0,none⟩=some (.int .i64 t.room)∧Below w.heap.size w w') hHeld ?_
 clear hHeld hB c0
 rintro w2 ⟨c0,hB⟩
 have lb_c:=lbc c0
 have hm2:=tabm_bl HM.out hB
 obtain⟨aq,kq,es⟩:=row_form hm2.rs
 have c1:=hm2.c1
 rw[es] at c1
 have hti:=HT.out.ti
 rcases snoc_cases t.free with hfe|⟨fs,k,hfe⟩
 case' inr =>
  obtain⟨g2,cf,hvf,cl,hc1,hc2⟩:=hm2.lastFree hfe
  have c2:=hm2.c2
  rw[hvf] at c2
  have hkf:k ∈ t.free:=by rw[hfe];simp
  have hkn:=hti.flt k hkf
  have hko:k ∉ o:=fun hk=>hti.apart k hk hkf
  have hg2:=hm2.fb g2 (by rw[hvf];rfl)
  have ng2:g2≠p.b:=hg2.1
  have f2:=hm2.fz 2 (by omega)
  have hnr:=hm2.nr
  have hfl:fs.length+1≤t.n:=by rw[hfe] at hlen;simp at hlen;omega
  have wf:IntKind.i64.wrap ((fs.length:Int)+1 - 1)=(fs.length:Int):=by rw[show(fs.length:Int)+1 - 1=(fs.length:Int) by omega];exact IntWalk.i64_in _ (by omega)
  have wf2:IntKind.i64.wrap (((fs.length+1:Nat):Int) - 1)=(fs.length:Int):=by rw[show((fs.length+1:Nat):Int) - 1=(fs.length:Int) by omega];exact IntWalk.i64_in _ (by omega)
  have wf3:IntKind.i64.wrap (fs.length:Int)=(fs.length:Int):=IntWalk.i64_in _ (by omega)
  have p0:(0:Int)<(fs.length:Int)+1:=by omega
  have p1:(0:Int)≤(fs.length:Int):=by omega
  have p2:(fs.length:Int)<(fs.length:Int)+1:=by omega
  have p3:(fs.length:Int)≤(cf:Int):=by omega
  have p4:fs.length≤cf:=by omega
  have hM5:=hm2.popFree hfe hvf
  have HM2:=Go.Lib.hid hm2
  have lb2:=World.block_lt_of_cell? _ _ c2
  have lb4:=World.block_lt_of_cell? _ _ cl
  dsimp only at lb2 lb4
  have hnd:=hti.fnodup
  rw[hfe] at hnd
  have hnd2:=List.nodup_append.1 hnd
  have hTIN:=ti_new (v:=v) hti HA.out HX.out hko hkn hm2.nr (Nat.le_refl _) hnd2.1 (fun y hy=>⟨by rw[hfe];simp[hy],fun e=>hnd2.2.2 y hy k (by simp) e⟩) (by have ho:=HOL.out;rw[hfe] at hlen;simp at hlen;omega)
  have HTIN:=Go.Lib.hid hTIN
  have HOB:=Go.Lib.hid hB
  clear hm2 hnd hnd2 hTIN hM5
  go_wp2_with fail
  refine wp_region_held_drew (S:=fun w'=>w'.cell? ⟨g2,fs.length,none⟩=some (.int .i64 (k:Int))∧Only (TF p) w w') (by kernel_rfl) ?_ (fun hHeld=>?_)
  ·exact⟨cl,(Only.of_below HOB.out).drew⟩
  try simp only[Act.put,List.setIfInBounds_toArray,List.set_cons_zero,List.set_cons_succ]
  refine wpAnyH_abs (F:=fun X=>TabM X p t) hHeld (tabm_bl HM2.out (bl_drew (bl_refl _))) ?_
  clear hHeld
  rintro X0 hHeld hm
  have e2:=hm.c2
  rw[hvf] at e2
  have e3:=hm.fz 2 (by omega)
  have lbx:=World.block_lt_of_cell? _ _ e2
  dsimp only at lbx
  refine tkx 0 ?_
  refine tkx 1 ?_
  refine tkx 2 ?_
  refine tkx 3 ?_
  refine tkx 5 ?_
  refine tkx 6 ?_
  refine tkx 9 ?_
  refine tkx 10 ?_
  refine tkx 11 ?_
  refine tkx 13 ?_
  refine tkx 14 ?_
  refine callC2 (i:=4) (j:=12) rfl rfl ?_ ?_
  case' refine_1 =>
   intro K hK
   go_simp
   refine hK.out _ _ hHeld (fun hHeld=>?_)
   clear hK K
   try simp only[Act.put,List.setIfInBounds_toArray,List.set_cons_zero,List.set_cons_succ]
   refine tkx 7 ?_
   refine tkx 8 ?_
   refine tkx 16 ?_
   refine callC (i:=12) rfl (fun K hK=>?_)
   go_simp
   refine hK.out _ _ hHeld (fun hHeld=>?_)
   clear hK K
   try simp only[Act.put,List.setIfInBounds_toArray,List.set_cons_zero,List.set_cons_succ]
   refine tkx 15 ?_
   refine tkx 17 ?_
   refine tkx 18 ?_
  case' refine_2 =>
   intro K hK
   go_simp
   refine hK.out _ _ hHeld (fun hHeld=>?_)
   clear hK K
   try simp only[Act.put,List.setIfInBounds_toArray,List.set_cons_zero,List.set_cons_succ]
   refine tkx 15 ?_
   refine callC (i:=4) rfl (fun K hK=>?_)
   go_simp
   refine hK.out _ _ hHeld (fun hHeld=>?_)
   clear hK K
   try simp only[Act.put,List.setIfInBounds_toArray,List.set_cons_zero,List.set_cons_succ]
   refine tkx 7 ?_
   refine tkx 8 ?_
   refine tkx 16 ?_
   refine tkx 17 ?_
   refine tkx 18 ?_
  all_goals
   refine callC (i:=19) rfl (fun K hK=>?_)
   obtain⟨h_cl,h_hO⟩:=(id hHeld)
   go_simp
   refine hK.out _ _ ?_ (fun hHeld2=>?_)
   ·(try dsimp only);exact⟨far_set h_cl _ _ (by dsimp only;exact fun e=>ng2 e.symm),Only.set h_hO (.inl rfl) _⟩
   have hM6:=hm.popFree hfe hvf
   clear hHeld hK K h_cl h_hO
   have hHeld:=hHeld2
   clear hHeld2
   try simp only[Act.put,List.setIfInBounds_toArray,List.set_cons_zero,List.set_cons_succ]
   refine wpAnyH_done (by kernel_rfl) ?_ _
   have hTF:∀ q,TF (TP p p.vs (.slice (some ⟨g2,0,none⟩) fs.length cf)) q→TF p q∨w.heap.size≤q:=fun q hq=>by
    rcases hq with hq|hq|hq|hq
    ·exact .inl (.inl hq)
    ·exact .inl (.inr (.inl hq))
    ·exact .inl (.inr (.inr (.inl hq)))
    ·exact .inl (.inr (.inr (.inr (by rw[hvf];exact hq))))
   refine then_abs (F:=fun X=>∃ (vs vf:Value) (n1:Nat) (f1:List Nat) (s1:Nat→Slot),TabM X (TP p vs vf) { t with n:=n1,free:=f1,sl:=s1 }∧(∀ j ∈ o,s1 j=t.sl j)∧(∀ q,upd s1 k q=upd t.sl k q)∧k<n1∧t.n≤n1∧TI fnv (t.new k i s.data.toList v f1 n1) (o ++ [k])∧k ∉ o∧Only (fun q=>TF p q∨w.heap.size≤q) w X∧∀ q,TF (TP p vs vf) q→TF p q∨w.heap.size≤q) ⟨p.vs,.slice (some ⟨g2,0,none⟩) fs.length cf,t.n,fs,t.sl,hM6,(fun _ _=>rfl),(fun _=>rfl),hkn,Nat.le_refl _,HTIN.out,hko,only_mono hHeld.2 (fun _ h => .inl h),hTF⟩ ?_
   clear hHeld hM6 hTF hm e2 e3 lbx
   rintro X5 hpk
   have HPK2:=Go.Lib.hid hpk
   clear hpk c2 cl hc1 hc2 hvf HM2 f2 hnr hfl wf wf2 wf3 p0 p1 p2 p3 p4 lb2 lb4 HTIN HOB hfe hkf hkn hko hg2 ng2 c1
   skip
 case' inl =>
  have c2:=hm2.c2
  obtain⟨af,kf,ef⟩:=row_form hm2.rf
  rw[hfe] at ef
  rw[ef] at c2
  have f1:=hm2.fz 1 (by omega)
  have hnr:=hm2.nr
  have hnn:t.n+1≤t.room:=by rw[hfe] at hlen;simp at hlen;omega
  have lb2:=World.block_lt_of_cell? _ _ c1
  dsimp only at lb2
  have HM2:=Go.Lib.hid (tabm_bl hm2 (bl_alloc (bl_refl w2) (.cells #[.string ByteArray.empty,.int .i64 0,.int .i64 0,.int .i64 0] 122)))
  have hrs:=HM2.out.rs
  have hsb:=HM2.out.sb
  rw[es] at hrs
  have HES:=Go.Lib.hid es
  clear hm2 es
  obtain⟨i0,hi,hz0,hz1,hz2⟩:=info_parts infoSl
  go_wp2_with (at_builtin;refine wpList_put1 _ rfl _ _ 110 rfl 122 i0 _ 4 40 undSl hi hz0 hz1 hz2 rfl (by decide) 0 _ t.n (srow t.sl t.n) (scell ⟨[],0,0,0⟩) rfl hrs w2.heap.size _ rfl rfl ?qn ?qo ?q1 (by omega) (Nat.zero_le _) ?_)
  case qn=>exact World.ownsRow.cells (World.ownsRow_lit w2 #[.string ByteArray.empty,.int .i64 0,.int .i64 0,.int .i64 0] 1 (base:=0) (e:=122) (size:=4) (Nat.zero_le _) (by simp[maxLen]) rfl) rfl
  case qo=>intro u hu;simp[scell] at hu;rcases hu with rfl|rfl|rfl|rfl <;> rfl
  case q1=>omega
  intro v' w5 hown hgr hnw
  rw[← HES.out] at hgr hnw
  obtain⟨a5,c5,rfl⟩:=row_form hown
  have hM5:=HM2.out.grow (z:=⟨[],0,0,0⟩) hown hgr (fun g hg=>(hnw g hg).imp id (fun e=>by simpa using e)) hnn
  have hbb:some p.b≠p.vs.ownBlock:=fun e=>(HM2.out.sb p.b e.symm).1 rfl
  have d1:=World.grownBy.cell hgr HM2.out.c1 hbb
  have lbA:=HM2.out.lt p.b (.inl rfl)
  have g1:w5.frozen? ⟨p.b,1,none⟩=false:=by rw[World.frozen?_of_block (hgr.block p.b lbA (fun e=>hbb e))];exact HM2.out.fz 1 (by omega)
  have hO5:Only (fun q=>TF p q∨w.heap.size≤q) w (w5.setCell ⟨p.b,1,none⟩ (.slice a5 (t.n+1) c5)):=by
   refine Only.set ?_ (.inl (.inl rfl)) _
   have ho:=only_mono (G:=fun q=>TF p q∨w.heap.size≤q) (Only.of_below (F:=TF p) (bl_alloc hB (.cells #[.string ByteArray.empty,.int .i64 0,.int .i64 0,.int .i64 0] 122))) (fun _ h => .inl h)
   refine ho.trans ⟨hgr.os,hgr.tape,hgr.output,hgr.size,fun b hb hn=>hgr.block b hb (fun e=>hn (.inl (.inr (.inr (.inl e.symm)))))⟩
  have hTF:∀ q,TF (TP p (.slice a5 (t.n+1) c5) p.vf) q→TF p q∨w.heap.size≤q:=fun q hq=>by
   rcases hq with hq|hq|hq|hq
   ·exact .inl (.inl hq)
   ·exact .inl (.inr (.inl hq))
   ·rcases hnw q hq with e|e
    ·exact .inl (.inr (.inr (.inl e)))
    ·have:=hB.size;(try simp at e);omega
   ·exact .inl (.inr (.inr (.inr hq)))
  have hko:t.n ∉ o:=fun hk=>by have:=hti.lt _ hk;omega
  have pk:∃ k,k=t.n∧∃ (vs vf:Value) (n1:Nat) (f1:List Nat) (s1:Nat→Slot),TabM (w5.setCell ⟨p.b,1,none⟩ (.slice a5 (t.n+1) c5)) (TP p vs vf) { t with n:=n1,free:=f1,sl:=s1 }∧(∀ j ∈ o,s1 j=t.sl j)∧(∀ q,upd s1 k q=upd t.sl k q)∧k<n1∧t.n≤n1∧TI fnv (t.new k i s.data.toList v f1 n1) (o ++ [k])∧k ∉ o∧Only (fun q=>TF p q∨w.heap.size≤q) w (w5.setCell ⟨p.b,1,none⟩ (.slice a5 (t.n+1) c5))∧∀ q,TF (TP p vs vf) q→TF p q∨w.heap.size≤q:=⟨t.n,rfl,_,p.vf,t.n+1,t.free,upd t.sl t.n ⟨[],0,0,0⟩,hM5,(fun j hj=>upd_ne _ _ (fun e=>hko (e ▸ hj))),(fun q=>upd_upd _ _ _ _),Nat.lt_succ_self _,Nat.le_succ _,ti_new hti HA.out HX.out hko (Nat.lt_succ_self _) hnn (Nat.le_succ _) hti.fnodup (fun y hy=>by rw[hfe] at hy;cases hy) (by have ho:=HOL.out;rw[hfe] at hlen ⊢;simp at hlen ⊢;omega),hko,hO5,hTF⟩
  have HPK:=Go.Lib.hid pk
  clear pk hM5 hO5 hTF hgr hnw hown hrs
  go_wp2_with fail
  refine wp_abs (S0:=fun X=>∃ k,k=t.n∧∃ (vs vf:Value) (n1:Nat) (f1:List Nat) (s1:Nat→Slot),TabM X (TP p vs vf) { t with n:=n1,free:=f1,sl:=s1 }∧(∀ j ∈ o,s1 j=t.sl j)∧(∀ q,upd s1 k q=upd t.sl k q)∧k<n1∧t.n≤n1∧TI fnv (t.new k i s.data.toList v f1 n1) (o ++ [k])∧k ∉ o∧Only (fun q=>TF p q∨w.heap.size≤q) w X∧∀ q,TF (TP p vs vf) q→TF p q∨w.heap.size≤q) HPK.out ?_
  rintro X5 ⟨k,hk,hpk⟩
  rw[← hk]
  have HPK2:=Go.Lib.hid hpk
  clear hpk HPK HM2 d1 g1 hsb hk hbb lbA c2 f1 hnr hnn hfe ef c1 HES
 all_goals
  obtain⟨vs,vf,n1,f1,s1,hM5,hs1,hs2,hk1,hn1,hti1,hko,hO5,hTF⟩:=HPK2.out
  clear HPK2
  have hat:=fun w h=>at_any (TP p vs vf) { t with n:=n1,free:=f1,sl:=s1 } s i hs w h (atr_grow hti HA.out HX.out f1 n1 s1 hs1)
  have HAT:=Go.Lib.hid hat
  clear hat
  have k0:(0:Int)≤(k:Int):=by omega
  have k1:(k:Int)<(n1:Int):=by omega
  have hn1r:=hM5.nr
  dsimp only at hn1r
  have wk:IntKind.i64.wrap ((k:Int)+1)=(k:Int)+1:=IntWalk.i64_in _ (by omega)
  have c3:=hM5.c3
  have HM5:=Go.Lib.hid hM5
  have HO5:=Go.Lib.hid hO5
  clear hM5 hO5
  have ki0:(0:Int)≤(i:Int):=by omega
  have ki1:(i:Int)<(t.W:Int):=by omega
  have lb3:=World.block_lt_of_cell? _ _ c3
  dsimp only at lb3 c3
  go_wp2_with fail
  refine wp_region_held_drew (S:=fun w'=>w'.cell? ⟨p.b,3,none⟩=some (.slice (some ⟨p.g,0,none⟩) t.W t.W)∧Only (fun q=>TF p q∨w.heap.size≤q) w w') (by kernel_rfl) ?_ (fun hHeld=>?_)
  ·exact⟨c3,HO5.out.drew⟩
  try simp only[Act.put,List.setIfInBounds_toArray,List.set_cons_zero,List.set_cons_succ]
  refine wpAnyH_abs (F:=fun X=>TabM X (TP p vs vf) { t with n:=n1,free:=f1,sl:=s1 }) hHeld (tabm_bl HM5.out (bl_drew (bl_refl _))) ?_
  clear hHeld
  rintro X0 hHeld hm
  refine tkx 0 ?_
  refine tkx 1 ?_
  refine tkx 2 ?_
  refine tkx 3 ?_
  refine tkx 4 ?_
  refine tkx 5 ?_
  refine tkx 7 ?_
  refine tkx 8 ?_
  refine callC (i:=6) rfl (fun K hK=>?_)
  obtain⟨h_c3,h_hO⟩:=(id hHeld)
  go_simp
  refine(HAT.out _ hm).mono ?_
  rintro e X6 ⟨rfl,hb⟩
  go_wp2_with fail
  refine hK.out _ _ ?_ (fun hHeld2=>?_)
  ·(try dsimp only);exact⟨bl_cell hb h_c3,h_hO.trans (Only.of_below hb)⟩
  replace hm:=tabm_bl hm hb
  clear hHeld hK K h_c3 h_hO hb
  have hHeld:=hHeld2
  clear hHeld2
  try simp only[Act.put,List.setIfInBounds_toArray,List.set_cons_zero,List.set_cons_succ]
  refine tkx 9 ?_
  refine callC (i:=10) rfl (fun K hK=>?_)
  obtain⟨h_c3,h_hO⟩:=(id hHeld)
  have hcw:=hm.way hiW
  have hfw:=hm.wayFrozen i
  dsimp only[TP] at hcw hfw
  go_simp
  refine hK.out _ _ ?_ (fun hHeld2=>?_)
  ·(try dsimp only);exact⟨far_set h_c3 _ _ (by dsimp only;exact HM.out.gb),Only.set h_hO (.inl (.inr (.inl rfl))) _⟩
  replace hm:=hm.setWay (i:=i) (v:=k+1) hiW (by dsimp only;omega)
  clear hHeld hK K h_c3 h_hO hcw hfw
  have hHeld:=hHeld2
  clear hHeld2
  try simp only[Act.put,List.setIfInBounds_toArray,List.set_cons_zero,List.set_cons_succ]
  refine wpAnyH_done (by kernel_rfl) ?_ _
  refine then_abs (F:=fun X=>TabM X (TP p vs vf) { t with n:=n1,free:=f1,sl:=s1,ways:=upd t.ways i (k+1) }∧Only (fun q=>TF p q∨w.heap.size≤q) w X) ⟨hm,hHeld.2⟩ ?_
  clear hHeld hm
  rintro w7 ⟨hM7,hO7⟩
  obtain⟨q,cq,hv,x0,x1,x2,x3⟩:=hM7.place (k:=k) hk1
  have d1:=hM7.c1
  rw[hv] at d1
  have fq:=fun j=>hM7.slotFrozen hv (k*4+j)
  have fq0:=fq 0
  have fq1:=fq 1
  have fq2:=fq 2
  have fq3:=fq 3
  rw[Nat.add_zero] at fq0
  have hM8:=hM7.fill (k:=k) (s:=s) (v:=v) hv hk1
  have TFq:TF p q∨w.heap.size≤q:=hTF q (.inr (.inr (.inl (by rw[hv];rfl))))
  have hO8:=(((hO7.set (a:=⟨q,k*4,none⟩) TFq (.string s)).set (a:=⟨q,k*4+1,none⟩) TFq (.int .i64 v)).set (a:=⟨q,k*4+2,none⟩) TFq (.int .i64 0)).set (a:=⟨q,k*4+3,none⟩) TFq (.int .i64 0)
  have hla:=fun w h=>lay_any (TP p vs vf) { t with n:=n1,free:=f1,ways:=upd t.ways i (k+1),sl:=upd t.sl k ⟨s.data.toList,v,0,0⟩ } k w h hk1 ((ti_last hti).imp id (fun⟨b,e,hb⟩=>⟨b,e,Nat.lt_of_lt_of_le hb hn1⟩))
  dsimp only at hM8
  rw[hs2] at hM8
  have HLA:=Go.Lib.hid hla
  have HM8:=Go.Lib.hid hM8
  have HO8:=Go.Lib.hid hO8
  dsimp only[TP] at d1 hv
  clear hM7 hO7 hM8 hO8 hla fq
  go_wp2_with fail
  refine(HLA.out _ HM8.out).mono ?_
  rintro e w9 ⟨rfl,hM9,hO9⟩
  have HM9:=Go.Lib.hid hM9
  clear hM9
  go_wp2_with fail
  go_ret
  have hks:∀ x ∈ o ++ [k],((t.new k i s.data.toList v f1 n1).sl x).key.length≤maxLen:=fun x hx=>by
   have e:((t.new k i s.data.toList v f1 n1).sl x).key=(upd t.sl k ⟨s.data.toList,v,0,0⟩ x).key:=(laySl_key _ _ _ _).1
   rw[e]
   by_cases hxk:x=k
   ·rw[hxk,upd_same];simpa using hs
   ·rw[upd_ne _ _ hxk]
    exact HT.out.ks x (by simpa [hxk] using hx)
  exact⟨rfl,vs,vf,k,n1,f1,⟨HM9.out,hti1,hks⟩,hko,only_new (HO8.out.trans (only_mono hO9 hTF)),hTF⟩
end Go.Proofs.YtmhikkbdhboodaaGreat

namespace Go.Proofs.YtmhikkbdhboodaaGreat
open Go.RowKit Go.Maps
set_option linter.unusedVariables false
set_option linter.unusedSimpArgs false

def Tb.gone (t:Tb) (k i:Nat):Tb := { t with sl:=upd (t.cut k).sl k ⟨[],0,0,0⟩,free:=t.free ++ [k],ways:=upd t.ways i 0,first:=(t.cut k).first,last:=(t.cut k).last }
theorem gone_key (t:Tb) {k i x:Nat} (h:x≠k):((t.gone k i).sl x).key=(t.sl x).key∧((t.gone k i).sl x).val=(t.sl x).val:=by
 show(upd (cutSl t.sl k) k _ x).key=_∧(upd (cutSl t.sl k) k _ x).val=_
 rw[upd_ne _ _ h]
 exact cutSl_key _ _ _
theorem atr_lt {t:Tb} {x:Key} {i:Nat} (h:AtR fnv t x i):i<t.W:=by
 obtain⟨d,-,e,-⟩:=h
 rw[e]
 exact at_lt _ _ _
theorem mem_er {o:List Nat} (h:o.Nodup) (k x:Nat):x ∈ o.erase k↔x ∈ o∧x≠k:=by
 rw[h.mem_erase_iff]
 exact And.comm
theorem gone_di {t:Tb} {o:List Nat} (h:TI fnv t o) {k i:Nat} (hk:k ∈ o) (ha:AtR fnv t (t.sl k).key i):∃ f,DI fnv (t.gone k i) (o.erase k) i f 1 :=
 di_start h hk (atr_lt ha) (at_there h hk ha) rfl rfl (fun x=>mem_er h.nodup k x) (fun x hx=>(gone_key t ((mem_er h.nodup k x).1 hx).2).1)
theorem gone_ti {t:Tb} {o:List Nat} (h:TI fnv t o) {k i:Nat} (hk:k ∈ o) {wy:Nat→Nat} {f:Nat} (hd:DI fnv { t.gone k i with ways:=wy } (o.erase k) i f f):TI fnv { t.gone k i with ways:=wy } (o.erase k):=by
 have hc:=ti_cut h hk
 have hm:=mem_er h.nodup k
 have hlen:=List.length_erase_of_mem hk
 have hpos:=List.length_pos_of_mem hk
 have hl:=h.len
 refine di_end hd h.room (h.nodup.erase k) ?_ (fun x hx=>h.lt x ((hm x).1 hx).1) (fun x hx=>?_) (fun x hx hf=>?_) ?_ ?_ hc.2.1 hc.2.2
 ·refine List.nodup_append.2 ⟨h.fnodup,List.nodup_cons.2 ⟨List.not_mem_nil,List.nodup_nil⟩,fun x hx y hy e=>?_⟩
  rw[List.mem_singleton] at hy
  subst hy
  subst e
  exact h.apart x hk hx
 ·rcases List.mem_append.1 hx with hx|hx
  ·exact h.flt x hx
  ·rw[List.mem_singleton] at hx;subst hx;exact h.lt x hk
 ·rcases List.mem_append.1 hf with hf|hf
  ·exact h.apart x ((hm x).1 hx).1 hf
  ·rw[List.mem_singleton] at hf;exact((hm x).1 hx).2 hf
 ·show(o.erase k).length+(t.free ++ [k]).length=t.n
  rw[List.length_append,List.length_singleton]
  omega
 ·refine seg_congr _ _ (fun x hx=>?_) hc.1
  exact upd_ne _ _ ((hm x).1 hx).2
theorem di_at {t:Tb} {o:List Nat} {i f d:Nat} (h:DI fnv t o i f d) (hd:d<f):∃ m,m ∈ o∧t.ways ((i+d) % t.W)=m+1∧∃ q,AtR fnv { t with ways:=upd t.ways ((i+d) % t.W) 0 } (t.sl m).key q:=by
 have hW:(i+d) % t.W<t.W:=Nat.mod_lt _ (by unfold Tb.W;omega)
 rcases h.way _ hW with h0|⟨m,hm,e⟩
 ·exact absurd h0 (h.some d (Nat.le_refl _) hd)
 ·refine⟨m,hm,e,at_is _ _ ⟨(i+d) % t.W,hW,.inl ?_⟩⟩
  exact upd_same _ _ _
theorem way_next {W i d:Nat} (hW:0<W) (hs:W≤20001):IntKind.i64.wrap ((((i+d) % W:Nat):Int)+1)=(((i+d) % W:Nat):Int)+1∧((((i+d) % W:Nat):Int)+1).tmod (W:Int)=(((i+(d+1)) % W:Nat):Int):=by
 have hl:=Nat.mod_lt (i+d) hW
 refine⟨IntWalk.i64_in _ (by omega),?_⟩
 rw[Int.tmod_eq_emod_of_nonneg (by omega),show(((i+d) % W:Nat):Int)+1=(((i+d) % W+1:Nat):Int) from rfl,← Int.natCast_emod,Nat.mod_add_mod,Nat.add_assoc]
section
variable {w:World} {p:TbP} {t:Tb}
theorem TabM.pushFree (h:TabM w p t) {w':World} {v':Value} {k:Nat} (hr:w'.ownsRow 0 3 1 v' (t.free.length+1) (frow t.free ++ [.int .i64 (k:Int)])) (hg:w.grownBy w' p.vf.ownBlock) (hv:∀ k,v'.ownBlock=some k→p.vf.ownBlock=some k∨w.heap.size≤k) :
  TabM (w'.setCell ⟨p.b,2,none⟩ v') { p with vf:=v' } { t with free:=t.free ++ [k] }:=by
 have lb:=h.lt p.b (.inl rfl)
 have lg:=h.lt p.g (.inr (.inl rfl))
 have hb0:w'.heap[p.b]?=w.heap[p.b]?:=hg.block p.b lb (fun e=>(h.fb p.b e.symm).1 rfl)
 have hc0:∀ i v',w.cell? ⟨p.b,i,none⟩=some v'→w'.cell? ⟨p.b,i,none⟩=some v':=fun i v' hi=>by rw[World.cell?_of_block hb0];exact hi
 have hc:∀ i u,i≠2→w.cell? ⟨p.b,i,none⟩=some u→(w'.setCell ⟨p.b,2,none⟩ v').cell? ⟨p.b,i,none⟩=some u:=fun i u hi hv=>by
  rw[World.cell?_setCell_other _ _ _ _ (by simp;try omega)];exact hc0 i u hv
 have hnew:∀ k,v'.ownBlock=some k→k≠p.b∧k≠p.g∧p.vs.ownBlock≠some k:=fun k hk=>by
  rcases hv k hk with e|e
  ·exact h.fb k e
  ·exact⟨by omega,by omega,fun e2=>by have:=h.lt k (.inr (.inr (.inl e2)));omega⟩
 have hrf:w'.ownsRow 0 3 1 v' (t.free ++ [k]).length (frow (t.free ++ [k])):=by
  rw[List.length_append,List.length_singleton]
  unfold frow at hr ⊢
  rw[List.map_append]
  exact hr
 have hrs:w'.ownsRow 0 122 4 p.vs t.n (srow t.sl t.n):=h.rs.kept hg (by
  cases e:p.vs.ownBlock with
  | none=>exact .inl rfl
  | some k=>exact .inr (fun e2=>(h.fb k e2.symm).2.2 e))
 have hrw:w'.ownsRow 0 3 1 (.slice (some ⟨p.g,0,none⟩) t.W t.W) t.W (wrow t.ways t.W):=h.rw.kept hg (.inr (fun e=>(h.fb p.g e.symm).2.1 rfl))
 exact ⟨hc _ _ (by omega) h.c0,hc _ _ (by omega) h.c1,World.cell?_setCell_same' w' _ _ (by rw[hc0 2 _ h.c2];rfl),hc _ _ (by omega) h.c3,hc _ _ (by omega) h.c4,hc _ _ (by omega) h.c5,fun i hi=>by rw[World.frozen?_setCell,World.frozen?_of_block hb0];exact h.fz i hi,
  row_other hrs _ _ (fun k hk=>(h.sb k hk).1),row_other hrf _ _ (fun k hk=>(hnew k hk).1),row_other hrw _ _ (fun k hk=>by cases hk;exact h.gb),h.gb,h.sb,hnew,h.small,h.nr,h.vw⟩
end
end Go.Proofs.YtmhikkbdhboodaaGreat

namespace Go.Proofs.YtmhikkbdhboodaaGreat
open Go.RowKit Go.Maps
set_option linter.unusedVariables false
set_option linter.unusedSimpArgs false

theorem inb_abs {n:Nat} {K:Exit→Act→World→Prop} {e:Exit} {a:Act} {w:World} {F:World→Prop} (h:F w) (k:∀ W,F W→Exit.inBlock n K e a W):Exit.inBlock n K e a w:=k w h
theorem drop_any (p:TbP) (t:Tb) (o:List Nat) (k i:Nat) (w:World) (h:TabAt w p t o) (hk:k ∈ o) (ha:AtR fnv t (t.sl k).key i) :
  Calls Tryz.prog 165 #[.pointer (some ⟨p.b,0,none⟩),.int .i64 k] w fun e w'=>e=.returned (.tuple #[])∧∃ (vf:Value),(∃ (wy:Nat→Nat),TabAt w' (TP p p.vs vf) { t.gone k i with ways:=wy } (o.erase k))∧Only (TF p) w w'∧∀ q,TF (TP p p.vs vf) q→TF p q∨w.heap.size≤q:=by
 have hti:=h.ti
 have hm:=h.m
 have hkn:=hti.lt k hk
 have hiW:=atr_lt ha
 have hW:t.W≤20001:=by have:=hm.small;unfold Tb.W;omega
 have hW0:0<t.W:=by unfold Tb.W;omega
 have hks:(ktx (t.sl k).key).size≤maxLen:=by show(t.sl k).key.toArray.size≤maxLen;simpa using h.ks k hk
 have hat:=fun w h=>at_any p t (ktx (t.sl k).key) i hks w h (by rw[ktx_list];exact ha)
 have hcut:=fun w hw=>cut_any p t k w hw hkn (ti_near hti hk).1 (ti_near hti hk).2
 obtain⟨f,hdi⟩:=gone_di hti hk ha
 have hfl:t.free.length≤20000:=by have h1:=hti.len;have h2:=hti.room;have h3:=hm.small;omega
 obtain⟨q,cq,hv,x0,x1,x2,x3⟩:=hm.place hkn
 obtain⟨A,hA⟩:∃ A:Nat→Nat,∀ d,A d=(i+d) % t.W:=⟨_,fun _=>rfl⟩
 have hA0:A 0=i:=by rw[hA,Nat.add_zero,Nat.mod_eq_of_lt hiW]
 have hAl:∀ d,A d<t.W:=fun d=>by rw[hA];exact Nat.mod_lt _ hW0
 have hnx:∀ d,IntKind.i64.wrap ((A d:Int)+1)=(A d:Int)+1∧((A d:Int)+1).tmod (t.W:Int)=(A (d+1):Int):=fun d=>by rw[hA,hA];exact way_next hW0 hW
 obtain⟨nx1,nx2⟩:=hnx 0
 rw[hA0] at nx1 nx2
 obtain⟨idx,hix⟩:=idx_of A f (fun d e hd he hh=>by rw[hA,hA] at hh;have hf:f<t.W:=hdi.f_lt;exact off_inj hiW (by omega) (by omega) hh)
 have HA:=Go.Lib.hid hA
 have HAL:=Go.Lib.hid hAl
 have HNX:=Go.Lib.hid hnx
 have HIX:=Go.Lib.hid hix
 have ngb:=hm.gb
 have ngb':p.b≠p.g:=fun e=>ngb e.symm
 have hWz:¬ (t.W:Int)=0:=by omega
 have hWq:¬ t.W=0:=by omega
 clear hA hAl hnx hix
 have c1:=hm.c1
 rw[hv] at c1
 have k0:(0:Int)≤(k:Int):=by omega
 have k1:(k:Int)<(t.n:Int):=by omega
 have ki0:(0:Int)≤(i:Int):=by omega
 have ki1:(i:Int)<(t.W:Int):=by omega
 have lb1:=World.block_lt_of_cell? _ _ c1
 have lb2:=World.block_lt_of_cell? _ _ x0
 dsimp only at lb1 lb2
 have HT:=Go.Lib.hid h
 have HM:=Go.Lib.hid hm
 have HDI:=Go.Lib.hid hdi
 have HTI:=Go.Lib.hid hti
 have HV:=Go.Lib.hid hv
 clear h hm hdi hti ha x1 x2 x3 hks hv
 have HAT:=Go.Lib.hid hat
 have HCUT:=Go.Lib.hid hcut
 clear hat hcut
 go_enter Tryz.func165,Tryz.ntmps165
 go_wp2_with fail
 refine(HAT.out _ HM.out).mono ?_
 rintro e w1 ⟨rfl,hb⟩
 have hm1:=tabm_bl HM.out hb
 have hO1:=Only.of_below (F:=TF p) hb
 have HM1:=Go.Lib.hid hm1
 have HO1:=Go.Lib.hid hO1
 clear hm1 hO1 c1 x0 hb
 go_wp2_with fail
 refine(HCUT.out _ HM1.out).mono ?_
 rintro e w2 ⟨rfl,hm2,hO2⟩
 obtain⟨q2,cq2,hv2,x0,x1,x2,x3⟩:=hm2.place (k:=k) hkn
 have hvv:=HV.out.symm.trans hv2
 injection hvv with hq1 hq2 hq3
 clear hq2 hq3
 injection hq1 with hq1
 injection hq1 with hq1
 subst hq1
 clear hv2
 have c1:=hm2.c1
 rw[HV.out] at c1
 replace c1:_=some (Value.slice (some ⟨q,0,none⟩) t.n cq):=c1
 have fq:=fun j=>hm2.slotFrozen (q:=q) (c:=cq) HV.out (k*4+j)
 have fq0:=fq 0
 have fq1:=fq 1
 have fq2:=fq 2
 have fq3:=fq 3
 rw[Nat.add_zero] at fq0
 have hm3:=hm2.fill (k:=k) (s:=⟨#[]⟩) (v:=0) HV.out hkn
 have TFq:TF p q:=.inr (.inr (.inl (by rw[HV.out];rfl)))
 have hO3:=((((HO1.out.trans hO2).set (a:=⟨q,k*4,none⟩) TFq (.string ⟨#[]⟩)).set (a:=⟨q,k*4+1,none⟩) TFq (.int .i64 0)).set (a:=⟨q,k*4+2,none⟩) TFq (.int .i64 0)).set (a:=⟨q,k*4+3,none⟩) TFq (.int .i64 0)
 obtain⟨nq,ng⟩:=hm2.sb q (by rw[HV.out];rfl)
 have nq':p.b≠q:=fun e=>nq e.symm
 obtain⟨af,kf,ef⟩:=row_form hm2.rf
 have c2:=hm2.c2
 rw[ef] at c2
 have f2:=hm2.fz 2 (by omega)
 replace ef:p.vf=.slice af t.free.length kf:=ef
 replace c2:_=some (Value.slice af t.free.length kf):=c2
 have lb3:=World.block_lt_of_cell? _ _ c2
 dsimp only at lb3
 have HEF:=Go.Lib.hid ef
 clear ef
 clear fq hm2 hO2
 have HM3:=Go.Lib.hid hm3
 have HO3:=Go.Lib.hid hO3
 clear hm3 hO3
 have HM4:=Go.Lib.hid (tabm_bl HM3.out (bl_alloc (bl_refl _) (.cells #[.int .i64 (k:Int)] 3)))
 have hrf:=HM4.out.rf
 replace hrf:World.ownsRow _ 0 3 1 p.vf t.free.length (frow t.free):=hrf
 rw[HEF.out] at hrf
 obtain⟨i0,hi,hz0,hz1,hz2⟩:=info_parts infoTI
 have hsz:((((w2.setCell ⟨q,k*4,none⟩ (.string ⟨#[]⟩)).setCell ⟨q,k*4+1,none⟩ (.int .i64 0)).setCell ⟨q,k*4+2,none⟩ (.int .i64 0)).setCell ⟨q,k*4+3,none⟩ (.int .i64 0)).heap.size=w2.heap.size:=by simp
 go_wp2_with (at_builtin;refine wpList_put1 _ rfl _ _ 109 rfl 3 i0 _ 1 8 undTI hi hz0 hz1 hz2 rfl (by decide) 0 _ t.free.length (frow t.free) [.int .i64 (k:Int)] rfl hrf w2.heap.size _ rfl rfl ?qn ?qo ?q1 (by omega) (Nat.zero_le _) ?_)
 case qn =>
  have h0:=World.ownsRow.cells (World.ownsRow_lit ((((w2.setCell ⟨q,k*4,none⟩ (.string ⟨#[]⟩)).setCell ⟨q,k*4+1,none⟩ (.int .i64 0)).setCell ⟨q,k*4+2,none⟩ (.int .i64 0)).setCell ⟨q,k*4+3,none⟩ (.int .i64 0)) #[.int .i64 (k:Int)] 1 (base:=0) (e:=3) (size:=1) (Nat.zero_le _) (by simp[maxLen]) rfl) rfl
  rw[hsz] at h0
  exact h0
 case qo=>intro u hu;simp at hu;rw[hu];rfl
 case q1=>omega
 intro v' w5 hown hgr hnw
 rw[← HEF.out] at hgr hnw
 obtain⟨a5,c5,rfl⟩:=row_form hown
 have hs4:(((((w2.setCell ⟨q,k*4,none⟩ (.string ⟨#[]⟩)).setCell ⟨q,k*4+1,none⟩ (.int .i64 0)).setCell ⟨q,k*4+2,none⟩ (.int .i64 0)).setCell ⟨q,k*4+3,none⟩ (.int .i64 0)).alloc (.cells #[.int .i64 (k:Int)] 3)).heap.size=w2.heap.size+1:=by simp
 have hM5:=HM4.out.pushFree hown hgr (fun g hg=>(hnw g hg).imp id (fun e=>by rw[hs4];exact e))
 have hO4:=HO3.out.trans (Only.of_below (F:=TF p) (bl_alloc (bl_refl _) (.cells #[.int .i64 (k:Int)] 3)))
 have hbb:some p.b≠p.vf.ownBlock:=fun e=>(HM4.out.fb p.b e.symm).1 rfl
 have hbg:some p.g≠p.vf.ownBlock:=fun e=>(HM4.out.fb p.g e.symm).2.1 rfl
 have d2:=World.grownBy.cell hgr HM4.out.c2 hbb
 have d3:=World.grownBy.cell hgr HM4.out.c3 hbb
 have dw:=World.grownBy.cell hgr (HM4.out.way hiW) hbg
 replace d3:_=some (Value.slice (some ⟨p.g,0,none⟩) t.W t.W):=d3
 have g2:w5.frozen? ⟨p.b,2,none⟩=false:=by rw[World.frozen?_of_block (hgr.block p.b (HM4.out.lt p.b (.inl rfl)) (fun e=>hbb e))];exact HM4.out.fz 2 (by omega)
 have gw:w5.frozen? ⟨p.g,i,none⟩=false:=by rw[World.frozen?_of_block (hgr.block p.g (HM4.out.lt p.g (.inr (.inl rfl))) (fun e=>hbg e))];exact HM4.out.wayFrozen i
 have hO5:=hO4.trans (⟨hgr.os,hgr.tape,hgr.output,hgr.size,fun b hb hn=>hgr.block b hb (fun e=>hn (.inr (.inr (.inr e.symm))))⟩:Only (TF p) _ w5)
 have hTF:∀ q,TF (TP p p.vs (.slice a5 (t.free.length+1) c5)) q→TF p q∨w.heap.size≤q:=fun q hq=>by
  rcases hq with hq|hq|hq|hq
  ·exact .inl (.inl hq)
  ·exact .inl (.inr (.inl hq))
  ·exact .inl (.inr (.inr (.inl hq)))
  ·rcases hnw q hq with e|e
   ·exact .inl (.inr (.inr (.inr e)))
   ·have:=hO4.size;rw[hs4] at this;exact .inr (by omega)
 have hM6:=hM5.setWay (i:=i) (v:=0) hiW (Nat.zero_le _)
 have hO6:=(hO5.set (a:=⟨p.b,2,none⟩) (.inl rfl) (.slice a5 (t.free.length+1) c5)).set (a:=⟨p.g,i,none⟩) (.inr (.inl rfl)) (.int .i64 0)
 have lb5:=World.block_lt_of_cell? _ _ d3
 have lb6:=World.block_lt_of_cell? _ _ dw
 dsimp only at lb5 lb6
 have HM6:=Go.Lib.hid (And.intro hM6 hO6)
 have HTF:=Go.Lib.hid hTF
 clear hs4 hM5 hM6 hO4 hO5 hO6 hTF hgr hnw hown hrf HM4 HM3 HO3 hsz fq0 fq1 fq2 fq3 c1 c2 x0 x1 x2 x3 f2
 go_wp2_with go_step3
 refine wp_abs (S0:=fun X=>TabM X (TP p p.vs (.slice a5 (t.free.length+1) c5)) { t.gone k i with ways:=upd t.ways i 0 }∧Only (TF p) w X) HM6.out ?_
 clear HM6 d2 d3 dw g2 gw lb5 lb6
 rintro X6 hX
 have HX:=Go.Lib.hid hX
 clear hX
 go_loopw [5,6] (fun s5 s6 wr=>∃ (d:Nat) (wy:Nat→Nat),s5=.int .i64 (A d)∧Hid (DI fnv { t.gone k i with ways:=wy } (o.erase k) i f d∧TabM wr (TP p p.vs (.slice a5 (t.free.length+1) c5)) { t.gone k i with ways:=wy }∧Only (TF p) w wr)) (fun s5 _ _=>f - idx s5)
 case atStart=>exact⟨1,upd t.ways i 0,rfl,Go.Lib.hid ⟨HDI.out,HX.out.1,HX.out.2⟩⟩
 case round =>
  clear HX
  obtain⟨d,wy,rfl,H⟩:=hrel
  obtain⟨hd,hm,hO⟩:=H.out
  clear H
  have c1:=hm.c1
  dsimp only[TP] at c1
  rw[HV.out] at c1
  replace c1:_=some (Value.slice (some ⟨q,0,none⟩) t.n cq):=c1
  have c3:=hm.c3
  replace c3:_=some (Value.slice (some ⟨p.g,0,none⟩) t.W t.W):=c3
  have hwy:=hm.way (i:=A d) (HAL.out d)
  replace hwy:_=some (Value.int .i64 (wy (A d):Nat)):=hwy
  have hwf:_=false:=hm.wayFrozen (A d)
  have lb3:=World.block_lt_of_cell? _ _ c3
  have lb4:=World.block_lt_of_cell? _ _ hwy
  dsimp only[TP] at lb3 lb4 hwy hwf c3 c1
  have ka0:(0:Int)≤(A d:Int):=by omega
  have ka1:(A d:Int)<(t.W:Int):=by have:=HAL.out d;omega
  obtain⟨nx3,nx4⟩:=HNX.out d
  have hmv:=hm.vw (A d) (HAL.out d)
  have hms:=hm.small
  have hmn:=hm.nr
  replace hms:t.room≤10000:=hms
  replace hmn:t.n≤t.room:=hmn
  replace hmv:wy (A d)≤t.n:=hmv
  have hdn:=hd.none
  have hdf:=hd.df
  have HD:=Go.Lib.hid hd
  have HMM:=Go.Lib.hid hm
  have HO:=Go.Lib.hid hO
  clear hd hm hO
  by_cases hz:d=f
  ·subst hz
   replace hdn:wy ((i+d) % t.W)=0:=hdn
   rw[← HA.out] at hdn
   rw[hdn] at hwy
   replace hwy:_=some (Value.int .i64 0):=hwy
   go_wp2_with go_step3
   refine bodyPost_end (v:=.tuple #[]) (by simp[results,Tryz.results165,go_sem]) rfl ⟨rfl,_,⟨wy,HMM.out,gone_ti HTI.out hk HD.out,fun x hx=>by have h:=(mem_er HTI.out.nodup k x).1 hx;show((t.gone k i).sl x).key.length≤maxLen;rw[(gone_key t h.2).1];exact HT.out.ks x h.1⟩,HO.out,HTF.out⟩
  ·have hlt:d<f:=by omega
   obtain⟨m,hmo,hwm,qq,haq⟩:=di_at HD.out hlt
   have hDI2:DI fnv { t.gone k i with ways:=upd (upd wy (A d) 0) qq (m+1) } (o.erase k) i f (d+1):=by
    rw[HA.out]
    exact di_round HD.out hlt hwm (t1 := { t.gone k i with ways:=upd wy ((i+d) % t.W) 0 }) rfl rfl rfl haq rfl rfl rfl
   replace hwm:wy ((i+d) % t.W)=m+1:=hwm
   rw[← HA.out] at hwm
   rw[hwm] at hwy
   replace hwy:_=some (Value.int .i64 ((m:Int)+1)):=hwy
   replace haq:AtR fnv { t.gone k i with ways:=upd wy (A d) 0 } ((t.gone k i).sl m).key qq:=by rw[HA.out];exact haq
   have hmt:m<t.n:=HTI.out.lt m ((mem_er HTI.out.nodup k m).1 hmo).1
   have hky:∀ x ∈ o.erase k,((t.gone k i).sl x).key.length≤maxLen:=fun x hx=>by have h:=(mem_er HTI.out.nodup k x).1 hx;show((t.gone k i).sl x).key.length≤maxLen;rw[(gone_key t h.2).1];exact HT.out.ks x h.1
   have hks:(ktx ((t.gone k i).sl m).key).size≤maxLen:=by show((t.gone k i).sl m).key.toArray.size≤maxLen;simpa using hky m hmo
   have hat2:=fun w h=>at_any (TP p p.vs (.slice a5 (t.free.length+1) c5)) { t.gone k i with ways:=upd wy (A d) 0 } (ktx ((t.gone k i).sl m).key) qq hks w h (by rw[ktx_list];exact haq)
   have hqW:qq<Tb.W { t.gone k i with ways:=upd wy (A d) 0 }:=atr_lt haq
   replace hqW:qq<t.W:=hqW
   obtain⟨q3,cq3,hv3,y0,-,-,-⟩:=HMM.out.place (k:=m) hmt
   have hvv:=HV.out.symm.trans hv3
   injection hvv with hq1 hq2 hq3
   clear hq2 hq3
   injection hq1 with hq1
   injection hq1 with hq1
   subst hq1
   replace y0:_=some (Value.string (ktx ((t.gone k i).sl m).key)):=y0
   clear hv3 haq hks hky
   generalize ktx ((t.gone k i).sl m).key=T at *
   have HAT2:=Go.Lib.hid hat2
   have HDI2:=Go.Lib.hid hDI2
   clear hat2 hDI2
   have wk:IntKind.i64.wrap ((m:Int)+1 - 1)=(m:Int):=by rw[show(m:Int)+1 - 1=(m:Int) by omega];exact IntWalk.i64_in _ (by omega)
   have wk3:IntKind.i64.wrap (m:Int)=(m:Int):=IntWalk.i64_in _ (by omega)
   have q0:(0:Int)≤(m:Int):=by omega
   have q1:(m:Int)<(t.n:Int):=by omega
   have kz:¬ (m:Int)+1=0:=by omega
   have qq0:(0:Int)≤(qq:Int):=by omega
   have qq1:(qq:Int)<(t.W:Int):=by omega
   have hi1:=HIX.out d hdf
   have hi2:=HIX.out (d+1) hlt
   have hm9:=HMM.out.setWay (i:=A d) (v:=0) (HAL.out d) (Nat.zero_le _)
   have hO9:=HO.out.set (a:=⟨p.g,A d,none⟩) (.inr (.inl rfl)) (.int .i64 0)
   have HM9:=Go.Lib.hid hm9
   have HO9:=Go.Lib.hid hO9
   clear hm9 hO9 hwm
   go_wp2_with go_step3
   replace c3:=far_set c3 ⟨p.g,A d,none⟩ (.int .i64 0) ngb
   replace c1:=far_set c1 ⟨p.g,A d,none⟩ (.int .i64 0) ngb
   replace y0:=far_set y0 ⟨p.g,A d,none⟩ (.int .i64 0) (fun e=>ng e.symm)
   refine wp_region_held_drew (S:=fun w'=>w'.cell? ⟨p.b,3,none⟩=some (.slice (some ⟨p.g,0,none⟩) t.W t.W)∧w'.cell? ⟨p.b,1,none⟩=some (.slice (some ⟨q,0,none⟩) t.n cq)∧w'.cell? ⟨q,m*4,none⟩=some (.string T)∧Only (TF p) w w') (by kernel_rfl) ?_ (fun hHeld=>?_)
   ·exact⟨c3,c1,y0,HO9.out.drew⟩
   try simp only[Act.put,List.setIfInBounds_toArray,List.set_cons_zero,List.set_cons_succ]
   refine wpAnyH_abs (F:=fun X=>TabM X (TP p p.vs (.slice a5 (t.free.length+1) c5)) { t.gone k i with ways:=upd wy (A d) 0 }) hHeld (tabm_bl HM9.out (bl_drew (bl_refl _))) ?_
   clear hHeld
   rintro X0 hHeld hm
   refine tkx 0 ?_
   refine tkx 1 ?_
   refine tkx 2 ?_
   refine tkx 3 ?_
   refine tkx 4 ?_
   refine tkx 5 ?_
   refine tkx 6 ?_
   refine tkx 7 ?_
   refine tkx 8 ?_
   refine tkx 9 ?_
   refine tkx 10 ?_
   refine tkx 11 ?_
   refine tkx 12 ?_
   refine tkx 13 ?_
   refine tkx 15 ?_
   refine callC (i:=14) rfl (fun K hK=>?_)
   obtain⟨h_c3,h_c1,h_y0,h_hO⟩:=(id hHeld)
   go_simp
   refine(HAT2.out _ hm).mono ?_
   rintro e X6 ⟨rfl,hb⟩
   go_wp2_with fail
   refine hK.out _ _ ?_ (fun hHeld2=>?_)
   ·(try dsimp only);exact⟨bl_cell hb h_c3,bl_cell hb h_c1,bl_cell hb h_y0,h_hO.trans (Only.of_below hb)⟩
   replace hm:=tabm_bl hm hb
   clear hHeld hK K h_c3 h_c1 h_y0 h_hO hb
   have hHeld:=hHeld2
   clear hHeld2
   try simp only[Act.put,List.setIfInBounds_toArray,List.set_cons_zero,List.set_cons_succ]
   refine tkx 16 ?_
   refine callC (i:=17) rfl (fun K hK=>?_)
   obtain⟨h_c3,h_c1,h_y0,h_hO⟩:=(id hHeld)
   have hcw:=hm.way hqW
   have hfw:=hm.wayFrozen qq
   dsimp only[TP] at hcw hfw
   go_simp
   refine hK.out _ _ ?_ (fun hHeld2=>?_)
   ·(try dsimp only);exact⟨far_set h_c3 _ _ (by dsimp only;exact ngb),far_set h_c1 _ _ (by dsimp only;exact ngb),far_set h_y0 _ _ (by dsimp only;exact fun e=>ng e.symm),Only.set h_hO (.inr (.inl rfl)) _⟩
   replace hm:=hm.setWay (i:=qq) (v:=m+1) hqW (by show m+1≤t.n;omega)
   clear hHeld hK K h_c3 h_c1 h_y0 h_hO hcw hfw
   have hHeld:=hHeld2
   clear hHeld2
   try simp only[Act.put,List.setIfInBounds_toArray,List.set_cons_zero,List.set_cons_succ]
   refine wpAnyH_done (by kernel_rfl) ?_ _
   refine inb_abs (F:=fun X=>TabM X (TP p p.vs (.slice a5 (t.free.length+1) c5)) { t.gone k i with ways:=upd (upd wy (A d) 0) qq (m+1) }∧Only (TF p) w X) ⟨hm,hHeld.2.2.2⟩ ?_
   clear hHeld hm c3 c1 y0
   rintro w7 ⟨hM7,hO7⟩
   have c3:=hM7.c3
   replace c3:_=some (Value.slice (some ⟨p.g,0,none⟩) t.W t.W):=c3
   have lb3:=World.block_lt_of_cell? _ _ c3
   dsimp only[TP] at c3 lb3
   have HM7:=Go.Lib.hid hM7
   have HO7:=Go.Lib.hid hO7
   clear hM7 hO7
   go_wp2_with go_step3
   refine⟨?_,?_⟩
   ·exact⟨d+1,upd (upd wy (A d) 0) qq (m+1),rfl,Go.Lib.hid ⟨HDI2.out,HM7.out,HO7.out⟩⟩
   ·show f - idx (.int .i64 ((A (d+1):Nat):Int))<f - idx (.int .i64 ((A d:Nat):Int))
    rw[hi1,hi2]
    omega
theorem peek_none (p:TbP) (t:Tb) (o:List Nat) (s:ByteArray) (w:World) (h:TabAt w p t o) (hs:s.size≤maxLen) (hx:∀ k ∈ o,(t.sl k).key≠s.data.toList) :
  Calls Tryz.prog 76 #[.pointer (some ⟨p.b,0,none⟩),.string s] w fun e w'=>e=.returned (.tuple #[.int .i64 0,.bool false])∧Below w.heap.size w w':=by
 obtain⟨i,ha⟩:=ti_stop h.ti s.data.toList
 have hw:=at_not h.ti hx ha
 have hfd:=fun w h=>find_any p t s i hs w h ha
 rw[hw,show(((0:Nat):Int) - 1) = -1 from rfl] at hfd
 have HM:=Go.Lib.hid h.m
 clear h ha hw hx
 have HFD:=Go.Lib.hid hfd
 clear hfd
 go_enter Tryz.func76,Tryz.ntmps76
 go_wp2_with fail
 refine(HFD.out _ HM.out).mono ?_
 rintro e w1 ⟨rfl,hb⟩
 go_wp2_with fail
 refine bodyPost_ret (v:=.tuple #[.int .i64 0,.bool false]) (by simp[results,Tryz.results76,go_sem]) rfl ⟨rfl,hb⟩
theorem peek_some (p:TbP) (t:Tb) (o:List Nat) (k:Nat) (s:ByteArray) (w:World) (h:TabAt w p t o) (hs:s.size≤maxLen) (hk:k ∈ o) (hx:(t.sl k).key=s.data.toList) :
  Calls Tryz.prog 76 #[.pointer (some ⟨p.b,0,none⟩),.string s] w fun e w'=>e=.returned (.tuple #[.int .i64 (t.sl k).val,.bool true])∧Below w.heap.size w w':=by
 obtain⟨i,ha⟩:=ti_stop h.ti s.data.toList
 have hw:=at_there h.ti hk (hx ▸ ha)
 have hfd:=fun w h=>find_any p t s i hs w h ha
 rw[hw,show(((k+1:Nat):Int) - 1)=(k:Int) by omega] at hfd
 have hkn:=h.ti.lt k hk
 have hm:=h.m
 obtain⟨q,cq,hv,-,cx,-,-⟩:=hm.place hkn
 have c1:=hm.c1
 rw[hv] at c1
 have HM:=Go.Lib.hid hm
 have k0:(0:Int)≤(k:Int):=by omega
 have k1:(k:Int)<(t.n:Int):=by omega
 have kz:¬ (k:Int) = -1:=by omega
 have lb_c:=World.block_lt_of_cell? _ _ c1
 have lb_g:=World.block_lt_of_cell? _ _ cx
 dsimp only at lb_c lb_g
 generalize (t.sl k).val=V at *
 generalize t.n=N at *
 clear h ha hw hm hv
 have HFD:=Go.Lib.hid hfd
 clear hfd
 have hB:=bl_refl w
 go_enter Tryz.func76,Tryz.ntmps76
 go_wp2_with fail
 refine(HFD.out _ HM.out).mono ?_
 rintro e w1 ⟨rfl,hb⟩
 replace c1:=bl_cell hb c1
 replace cx:=bl_cell hb cx
 replace hB:=bl_then hB hb
 clear hb
 go_wp2_with fail
 refine wp_region_held_drew (S:=fun w'=>w'.cell? ⟨p.b,1,none⟩=some (.slice (some ⟨q,0,none⟩) N cq)∧w'.cell? ⟨q,k*4+1,none⟩=some (.int .i64 V)∧Below w.heap.size w w') (by kernel_rfl) ?_ (fun hHeld=>?_)
 ·exact⟨c1,cx,bl_drew hB⟩
 try simp only[Act.put,List.setIfInBounds_toArray,List.set_cons_zero,List.set_cons_succ]
 refine tkx 0 ?_
 refine tkx 1 ?_
 refine tkx 2 ?_
 refine tkx 3 ?_
 refine tkx 4 ?_
 refine tkx 5 ?_
 refine tkx 6 ?_
 refine tkx 7 ?_
 refine tkx 8 ?_
 (refine callH (i:=9) rfl hHeld (fun W hW K hK=>?_);clear hHeld;(try dsimp only at hW);obtain⟨h_c1,h_cx,h_B⟩:=hW;go_simp;refine(HFD.out W (tabm_bl HM.out h_B)).mono ?_;rintro e w9 ⟨rfl,hb⟩;go_wp2_with fail;refine hK.out _ _ ?_ (fun hHeld=>?_);(focus((try dsimp only);exact⟨bl_cell hb h_c1,bl_cell hb h_cx,bl_then h_B hb⟩));clear hK K;clear h_c1 h_cx h_B;try simp only[Act.put,List.setIfInBounds_toArray,List.set_cons_zero,List.set_cons_succ])
 refine tkx 10 ?_
 refine tkx 11 ?_
 refine tkx 12 ?_
 refine tkx 13 ?_
 refine tkx 14 ?_
 refine wpAnyH_done (by kernel_rfl) ?_ _
 refine then_abs (F:=fun w'=>w'.cell? ⟨p.b,1,none⟩=some (.slice (some ⟨q,0,none⟩) N cq)∧w'.cell? ⟨q,k*4+1,none⟩=some (.int .i64 V)∧Below w.heap.size w w') hHeld ?_
 clear hHeld hB c1 cx
 rintro w2 ⟨c1,cx,hB⟩
 go_wp2_with fail
 refine bodyPost_ret (v:=.tuple #[.int .i64 V,.bool true]) (by simp[results,Tryz.results76,go_sem]) rfl ⟨rfl,hB⟩
theorem tput_lift (p:TbP) (s:ByteArray) (v:Int) (w:World) (b:Bool) (R:World→Prop) (h:Calls Tryz.prog 148 #[.pointer (some ⟨p.b,0,none⟩),.string s,.int .i64 v] w fun e w'=>e=.returned (.bool b)∧R w') :
  Calls Tryz.prog 82 #[.pointer (some ⟨p.b,0,none⟩),.string s,.int .i64 v] w fun e w'=>e=.returned (.bool b)∧R w':=by
 have H:=Go.Lib.hid h
 clear h
 go_enter Tryz.func82,Tryz.ntmps82
 go_wp2_with fail
 refine H.out.mono ?_
 rintro e w1 ⟨rfl,hb⟩
 go_wp2_with fail
 go_ret
 exact⟨rfl,hb⟩
theorem tlen_any (p:TbP) (t:Tb) (o:List Nat) (w:World) (h:TabAt w p t o) :
  Calls Tryz.prog 80 #[.pointer (some ⟨p.b,0,none⟩)] w fun e w'=>e=.returned (.int .i64 (o.length:Nat))∧Below w.heap.size w w':=by
 have hlen:=h.ti.len
 have hct:=count_any p t w h.m (by omega)
 rw[show(t.n:Int) - (t.free.length:Int)=((o.length:Nat):Int) by omega] at hct
 clear h hlen
 have HCT:=Go.Lib.hid hct
 clear hct
 go_enter Tryz.func80,Tryz.ntmps80
 go_wp2_with fail
 refine HCT.out.mono ?_
 rintro e w1 ⟨rfl,hb⟩
 go_wp2_with fail
 go_ret
 exact⟨rfl,hb⟩
theorem tdel_some (p:TbP) (t:Tb) (o:List Nat) (k:Nat) (s:ByteArray) (w:World) (h:TabAt w p t o) (hs:s.size≤maxLen) (hk:k ∈ o) (hx:(t.sl k).key=s.data.toList) :
  Calls Tryz.prog 143 #[.pointer (some ⟨p.b,0,none⟩),.string s] w fun e w'=>e=.returned (.bool true)∧∃ (vf:Value) (i:Nat),(∃ (wy:Nat→Nat),TabAt w' (TP p p.vs vf) { t.gone k i with ways:=wy } (o.erase k))∧Only (TF p) w w'∧∀ q,TF (TP p p.vs vf) q→TF p q∨w.heap.size≤q:=by
 have hpk:=peek_some p t o k s w h hs hk hx
 obtain⟨i,ha⟩:=ti_stop h.ti s.data.toList
 have hw:=at_there h.ti hk (hx ▸ ha)
 have hfd:=fun w h=>find_any p t s i hs w h ha
 rw[hw,show(((k+1:Nat):Int) - 1)=(k:Int) by omega] at hfd
 have hdr:=fun w h=>drop_any p t o k i w h hk (hx ▸ ha)
 have HT:=Go.Lib.hid h
 clear h ha hw
 have HPK:=Go.Lib.hid hpk
 have HFD:=Go.Lib.hid hfd
 have HDR:=Go.Lib.hid hdr
 clear hpk hfd hdr
 go_enter Tryz.func143,Tryz.ntmps143
 go_wp2_with fail
 refine HPK.out.mono ?_
 rintro e w1 ⟨rfl,hb⟩
 have hT1:=tab_bl HT.out hb
 have HT1:=Go.Lib.hid hT1
 have HB1:=Go.Lib.hid hb
 clear hT1 hb
 go_wp2_with fail
 refine wp_region_held_drew (S:=fun _=>True) (by kernel_rfl) ?_ (fun hHeld=>?_)
 ·trivial
 try simp only[Act.put,List.setIfInBounds_toArray,List.set_cons_zero,List.set_cons_succ]
 refine wpAnyH_abs (F:=fun X=>TabAt X p t o∧Below w.heap.size w X) hHeld ⟨tab_bl HT1.out (bl_drew (bl_refl _)),bl_drew HB1.out⟩ ?_
 clear hHeld
 rintro X0 hHeld ⟨hm,hB⟩
 refine tkx 0 ?_
 refine tkx 1 ?_
 refine tkx 2 ?_
 refine tkx 3 ?_
 refine tkx 4 ?_
 refine tkx 5 ?_
 refine tkx 6 ?_
 refine callC (i:=7) rfl (fun K hK=>?_)
 go_simp
 refine(HFD.out _ hm.m).mono ?_
 rintro e X6 ⟨rfl,hb⟩
 go_wp2_with fail
 refine hK.out _ _ ?_ (fun hHeld2=>?_)
 ·trivial
 replace hm:=tab_bl hm hb
 replace hB:=bl_then hB hb
 clear hHeld hK K hb
 have hHeld:=hHeld2
 clear hHeld2
 try simp only[Act.put,List.setIfInBounds_toArray,List.set_cons_zero,List.set_cons_succ]
 refine callC (i:=8) rfl (fun K hK=>?_)
 go_simp
 refine(HDR.out _ hm).mono ?_
 rintro e X7 ⟨rfl,hpost⟩
 have HPOST:=Go.Lib.hid hpost
 clear hpost
 go_wp2_with fail
 refine hK.out _ _ ?_ (fun hHeld2=>?_)
 ·trivial
 clear hHeld hK K
 have hHeld:=hHeld2
 clear hHeld2
 try simp only[Act.put,List.setIfInBounds_toArray,List.set_cons_zero,List.set_cons_succ]
 refine wpAnyH_done (by kernel_rfl) ?_ _
 have HBB:=Go.Lib.hid hB
 clear hB
 go_wp2_with fail
 go_ret
 obtain⟨vf,htab,hO,hTF⟩:=HPOST.out
 exact⟨rfl,vf,i,htab,(Only.of_below (F:=TF p) HBB.out).trans hO,fun q hq=>(hTF q hq).imp id (fun e=>Nat.le_trans HBB.out.size e)⟩
theorem next_of {t:Tb} {a b:List Nat} {k:Nat} (h:TI fnv t (a ++ k :: b)):(t.sl k).next=hdO b (-1):=((seg_append t.sl a (k :: b) (-1) (-1)).1 h.seg).2.2.1
theorem oldest_none (p:TbP) (t:Tb) (w:World) (h:TabAt w p t []) :
  Calls Tryz.prog 166 #[.pointer (some ⟨p.b,0,none⟩)] w fun e w'=>e=.returned (.tuple #[.string { data := #[] },.int .i64 0,.bool false])∧Below w.heap.size w w':=by
 have htl:=tlen_any p t [] w h
 clear h
 have HTL:=Go.Lib.hid htl
 clear htl
 go_enter Tryz.func166,Tryz.ntmps166
 go_wp2_with fail
 refine HTL.out.mono ?_
 rintro e w1 ⟨rfl,hb⟩
 go_wp2_with fail
 refine bodyPost_ret (v:=.tuple #[.string { data := #[] },.int .i64 0,.bool false]) (by simp[results,Tryz.results166,go_sem]) rfl ⟨rfl,hb⟩
theorem oldest_some (p:TbP) (t:Tb) (o:List Nat) (k:Nat) (w:World) (h:TabAt w p t (k :: o)) :
  Calls Tryz.prog 166 #[.pointer (some ⟨p.b,0,none⟩)] w fun e w'=>e=.returned (.tuple #[.string (ktx (t.sl k).key),.int .i64 (t.sl k).val,.bool true])∧Below w.heap.size w w':=by
 have htl:=tlen_any p t (k :: o) w h
 have hnz:¬ (((k :: o).length:Nat):Int)=0:=by simp only[List.length_cons];omega
 generalize (((k :: o).length:Nat):Int)=LEN at *
 have hkn:=h.ti.lt k (List.mem_cons_self ..)
 have hfi:t.first=(k:Int):=h.ti.first
 have hm:=h.m
 obtain⟨q,cq,hv,x0,x1,x2,x3⟩:=hm.place hkn
 have c1:=hm.c1
 have c4:=hm.c4
 rw[hfi] at c4
 rw[hv] at c1
 have k0:(0:Int)≤(k:Int):=by omega
 have k1:(k:Int)<(t.n:Int):=by omega
 generalize (t.sl k).val=V at *
 generalize (t.sl k).prev=PV at *
 generalize (t.sl k).next=NX at *
 generalize ktx (t.sl k).key=KY at *
 generalize t.n=N at *
 clear h hm hv hfi
 have HTL:=Go.Lib.hid htl
 clear htl
 have hB:=bl_refl w
 go_enter Tryz.func166,Tryz.ntmps166
 go_wp2_with fail
 refine HTL.out.mono ?_
 rintro e w1 ⟨rfl,hb⟩
 replace c1:=bl_cell hb c1
 replace c4:=bl_cell hb c4
 replace x0:=bl_cell hb x0
 replace x1:=bl_cell hb x1
 replace x2:=bl_cell hb x2
 replace x3:=bl_cell hb x3
 replace hB:=bl_then hB hb
 clear hb
 go_wp2_with fail
 refine wp_region_held_drew (S:=fun w'=>w'.cell? ⟨p.b,1,none⟩=some (.slice (some ⟨q,0,none⟩) N cq)∧w'.cell? ⟨p.b,4,none⟩=some (.int .i64 (k:Int))∧w'.cell? ⟨q,k*4,none⟩=some (.string KY)∧w'.cell? ⟨q,k*4+1,none⟩=some (.int .i64 V)∧w'.cell? ⟨q,k*4+2,none⟩=some (.int .i64 PV)∧w'.cell? ⟨q,k*4+3,none⟩=some (.int .i64 NX)∧Below w.heap.size w w') (by kernel_rfl) ?_ (fun hHeld=>?_)
 ·exact⟨c1,c4,x0,x1,x2,x3,bl_drew hB⟩
 try simp only[Act.put,List.setIfInBounds_toArray,List.set_cons_zero,List.set_cons_succ]
 clear hB c1 c4 x0 x1 x2 x3
 refine wpAnyH_abs (F:=fun _=>True) hHeld trivial ?_
 clear hHeld
 rintro X0 hHeld -
 refine tkx 0 ?_
 refine tkx 1 ?_
 refine tkx 2 ?_
 refine tkx 3 ?_
 refine tkx 4 ?_
 refine tkx 5 ?_
 refine tkx 6 ?_
 refine tkx 7 ?_
 refine tkx 8 ?_
 refine tkx 9 ?_
 refine tkx 10 ?_
 refine tkx 11 ?_
 refine callC (i:=12) rfl (fun K hK=>?_)
 obtain⟨h_c1,h_c4,h_x0,h_x1,h_x2,h_x3,h_B⟩:=(id hHeld)
 go_simp
 refine hK.out _ _ ?_ (fun hHeld2=>?_)
 ·(try dsimp only);exact⟨bl_cell (bl_alloc (bl_refl _) _) h_c1,bl_cell (bl_alloc (bl_refl _) _) h_c4,bl_cell (bl_alloc (bl_refl _) _) h_x0,bl_cell (bl_alloc (bl_refl _) _) h_x1,bl_cell (bl_alloc (bl_refl _) _) h_x2,bl_cell (bl_alloc (bl_refl _) _) h_x3,bl_alloc h_B _⟩
 have rn0:=World.block_lt_of_cell? _ _ h_c1
 have rn1:=World.block_lt_of_cell? _ _ h_x0
 dsimp only at rn0 rn1
 have rB:=h_B.size
 clear hHeld hK K h_c1 h_c4 h_x0 h_x1 h_x2 h_x3 h_B
 have hHeld:=hHeld2
 clear hHeld2
 try simp only[Act.put,List.setIfInBounds_toArray,List.set_cons_zero,List.set_cons_succ]
 refine wpAnyH_abs (F:=fun X=>ResB X X0.heap.size) hHeld (res_new _ _ _ _ _ _ rfl) ?_
 clear hHeld
 generalize X0.heap.size=r at *
 rintro X12 hHeld hRes
 refine callC (i:=13) rfl (fun K hK=>?_)
 obtain⟨h_c1,h_c4,h_x0,h_x1,h_x2,h_x3,h_B⟩:=(id hHeld)
 obtain⟨f0,f1,f2,f3,u0,u1,u2,u3,i0,i1,i2,i3⟩:=res_all hRes
 go_simp
 refine hK.out _ _ ?_ (fun hHeld2=>?_)
 ·(try dsimp only);exact⟨far4 h_c1 (by dsimp only;omega),far4 h_c4 (by dsimp only;omega),far4 h_x0 (by dsimp only;omega),far4 h_x1 (by dsimp only;omega),far4 h_x2 (by dsimp only;omega),far4 h_x3 (by dsimp only;omega),bl4 h_B (by omega)⟩
 obtain⟨z0,z1,z2,z3⟩:=set4r (v0:=.string KY) (v1:=.int .i64 V) (v2:=.int .i64 PV) (v3:=.int .i64 NX) hRes
 replace hRes:=res4 (b:=r) (v0:=.string KY) (v1:=.int .i64 V) (v2:=.int .i64 PV) (v3:=.int .i64 NX) hRes
 clear hHeld hK K h_c1 h_c4 h_x0 h_x1 h_x2 h_x3 h_B f0 f1 f2 f3 i0 i1 i2 i3 u0 u1 u2 u3
 have hHeld:=hHeld2
 clear hHeld2
 try simp only[Act.put,List.setIfInBounds_toArray,List.set_cons_zero,List.set_cons_succ]
 refine wpAnyH_done (by kernel_rfl) ?_ _
 refine then_abs (F:=fun X=>(fun w'=>w'.cell? ⟨p.b,1,none⟩=some (.slice (some ⟨q,0,none⟩) N cq)∧w'.cell? ⟨p.b,4,none⟩=some (.int .i64 (k:Int))∧w'.cell? ⟨q,k*4,none⟩=some (.string KY)∧w'.cell? ⟨q,k*4+1,none⟩=some (.int .i64 V)∧w'.cell? ⟨q,k*4+2,none⟩=some (.int .i64 PV)∧w'.cell? ⟨q,k*4+3,none⟩=some (.int .i64 NX)∧Below w.heap.size w w') X∧X.cell? ⟨r,0,none⟩=some (.string KY)∧X.cell? ⟨r,1,none⟩=some (.int .i64 V)∧X.cell? ⟨r,2,none⟩=some (.int .i64 PV)∧X.cell? ⟨r,3,none⟩=some (.int .i64 NX)∧ResB X r) ⟨hHeld,z0,z1,z2,z3,hRes⟩ ?_
 clear hHeld z0 z1 z2 z3 hRes
 all_goals rintro w2 ⟨⟨c1,c4,x0,x1,x2,x3,hB⟩,y0,y1,y2,y3,yR⟩
 go_wp2_with fail
 refine wp_region_held_drew (S:=fun w'=>w'.cell? ⟨p.b,1,none⟩=some (.slice (some ⟨q,0,none⟩) N cq)∧w'.cell? ⟨p.b,4,none⟩=some (.int .i64 (k:Int))∧w'.cell? ⟨q,k*4,none⟩=some (.string KY)∧w'.cell? ⟨q,k*4+1,none⟩=some (.int .i64 V)∧w'.cell? ⟨q,k*4+2,none⟩=some (.int .i64 PV)∧w'.cell? ⟨q,k*4+3,none⟩=some (.int .i64 NX)∧w'.cell? ⟨r,0,none⟩=some (.string KY)∧w'.cell? ⟨r,1,none⟩=some (.int .i64 V)∧w'.cell? ⟨r,2,none⟩=some (.int .i64 PV)∧w'.cell? ⟨r,3,none⟩=some (.int .i64 NX)∧ResB w' r∧Below w.heap.size w w') (by kernel_rfl) ?_ (fun hHeld=>?_)
 ·exact⟨c1,c4,x0,x1,x2,x3,y0,y1,y2,y3,yR,bl_drew hB⟩
 try simp only[Act.put,List.setIfInBounds_toArray,List.set_cons_zero,List.set_cons_succ]
 refine tkx 0 ?_
 refine tkx 1 ?_
 refine tkx 2 ?_
 refine tkx 3 ?_
 refine tkx 4 ?_
 refine tkx 5 ?_
 refine tkx 6 ?_
 refine wpAnyH_done (by kernel_rfl) ?_ _
 refine then_abs (F:=fun w'=>w'.cell? ⟨p.b,1,none⟩=some (.slice (some ⟨q,0,none⟩) N cq)∧w'.cell? ⟨p.b,4,none⟩=some (.int .i64 (k:Int))∧w'.cell? ⟨q,k*4,none⟩=some (.string KY)∧w'.cell? ⟨q,k*4+1,none⟩=some (.int .i64 V)∧w'.cell? ⟨q,k*4+2,none⟩=some (.int .i64 PV)∧w'.cell? ⟨q,k*4+3,none⟩=some (.int .i64 NX)∧w'.cell? ⟨r,0,none⟩=some (.string KY)∧w'.cell? ⟨r,1,none⟩=some (.int .i64 V)∧w'.cell? ⟨r,2,none⟩=some (.int .i64 PV)∧w'.cell? ⟨r,3,none⟩=some (.int .i64 NX)∧ResB w' r∧Below w.heap.size w w') hHeld ?_
 clear hHeld hB c1 c4 x0 x1 x2 x3 y0 y1 y2 y3 yR
 rintro w3 ⟨c1,c4,x0,x1,x2,x3,y0,y1,y2,y3,yR,hB⟩
 have lb_x:=lbc x0
 have lb_y:=lbc y0
 go_wp2_with fail
 refine bodyPost_ret (v:=.tuple #[.string KY,.int .i64 V,.bool true]) (by simp[results,Tryz.results166,go_sem]) rfl ⟨rfl,hB⟩
theorem next_none (p:TbP) (t:Tb) (a:List Nat) (k:Nat) (s:ByteArray) (w:World) (h:TabAt w p t (a ++ [k])) (hs:s.size≤maxLen) (hx:(t.sl k).key=s.data.toList) :
  Calls Tryz.prog 167 #[.pointer (some ⟨p.b,0,none⟩),.string s] w fun e w'=>e=.returned (.tuple #[.string { data := #[] },.bool false])∧Below w.heap.size w w':=by
 have hk:k ∈ (a ++ [k]):=by simp
 have hpk:=peek_some p t _ k s w h hs hk hx
 obtain⟨i,ha⟩:=ti_stop h.ti s.data.toList
 have hw:=at_there h.ti hk (hx ▸ ha)
 have hfd:=fun w h=>find_any p t s i hs w h ha
 rw[hw,show(((k+1:Nat):Int) - 1)=(k:Int) by omega] at hfd
 have hkn:=h.ti.lt k hk
 have hnx:=next_of h.ti
 have hm:=h.m
 obtain⟨q,cq,hv,-,-,-,cx⟩:=hm.place hkn
 rw[hnx] at cx
 replace cx:w.cell? ⟨q,k*4+3,none⟩=some (.int .i64 (-1)):=cx
 have c1:=hm.c1
 rw[hv] at c1
 have HM:=Go.Lib.hid hm
 have k0:(0:Int)≤(k:Int):=by omega
 have k1:(k:Int)<(t.n:Int):=by omega
 have kz:¬ (k:Int) = -1:=by omega
 have lb_c:=World.block_lt_of_cell? _ _ c1
 have lb_g:=World.block_lt_of_cell? _ _ cx
 dsimp only at lb_c lb_g
 generalize (t.sl k).val=V at *
 generalize t.n=N at *
 clear h ha hw hm hv hnx hk
 have HFD:=Go.Lib.hid hfd
 have HPK:=Go.Lib.hid hpk
 clear hfd hpk
 have hB:=bl_refl w
 go_enter Tryz.func167,Tryz.ntmps167
 go_wp2_with fail
 refine HPK.out.mono ?_
 rintro e w1 ⟨rfl,hb⟩
 replace c1:=bl_cell hb c1
 replace cx:=bl_cell hb cx
 replace hB:=bl_then hB hb
 clear hb
 go_wp2_with fail
 refine wp_region_held_drew (S:=fun w'=>w'.cell? ⟨p.b,1,none⟩=some (.slice (some ⟨q,0,none⟩) N cq)∧w'.cell? ⟨q,k*4+3,none⟩=some (.int .i64 (-1))∧Below w.heap.size w w') (by kernel_rfl) ?_ (fun hHeld=>?_)
 ·exact⟨c1,cx,bl_drew hB⟩
 try simp only[Act.put,List.setIfInBounds_toArray,List.set_cons_zero,List.set_cons_succ]
 refine tkx 0 ?_
 refine tkx 1 ?_
 refine tkx 2 ?_
 first|refine tqx 3 ?_|refine tkx 3 ?_
 first|refine tqx 4 ?_|refine tkx 4 ?_
 first|refine tqx 5 ?_|refine tkx 5 ?_
 first|refine tqx 6 ?_|refine tkx 6 ?_
 first|refine tqx 7 ?_|refine tkx 7 ?_
 first|refine tqx 8 ?_|refine tkx 8 ?_
 first|refine tqx 9 ?_|refine tkx 9 ?_
 first|refine tqx 10 ?_|refine tkx 10 ?_
 first|refine tqx 11 ?_|refine tkx 11 ?_
 first|(refine tqx 12 ?_)|(refine callH (i:=12) rfl hHeld (fun W hW K hK=>?_);clear hHeld;(try dsimp only at hW);obtain⟨h_c1,h_cx,h_B⟩:=hW;go_simp;refine(HFD.out W (tabm_bl HM.out h_B)).mono ?_;rintro e w9 ⟨rfl,hb⟩;go_wp2_with fail;refine hK.out _ _ ?_ (fun hHeld=>?_);(focus((try dsimp only);exact⟨bl_cell hb h_c1,bl_cell hb h_cx,bl_then h_B hb⟩));clear hK K;clear h_c1 h_cx h_B;try simp only[Act.put,List.setIfInBounds_toArray,List.set_cons_zero,List.set_cons_succ])
 first|refine tqx 13 ?_|refine tkx 13 ?_
 first|refine tqx 14 ?_|refine tkx 14 ?_
 first|refine tqx 15 ?_|refine tkx 15 ?_
 first|refine tqx 16 ?_|refine tkx 16 ?_
 refine tkx 17 ?_
 refine wpAnyH_done (by kernel_rfl) ?_ _
 refine then_abs (F:=fun w'=>w'.cell? ⟨p.b,1,none⟩=some (.slice (some ⟨q,0,none⟩) N cq)∧w'.cell? ⟨q,k*4+3,none⟩=some (.int .i64 (-1))∧Below w.heap.size w w') hHeld ?_
 clear hHeld hB c1 cx
 rintro w2 ⟨c1,cx,hB⟩
 go_wp2_with fail
 refine bodyPost_ret (v:=.tuple #[.string { data := #[] },.bool false]) (by simp[results,Tryz.results167,go_sem]) rfl ⟨rfl,hB⟩
theorem next_some (p:TbP) (t:Tb) (a b:List Nat) (k l:Nat) (s:ByteArray) (w:World) (h:TabAt w p t (a ++ k :: l :: b)) (hs:s.size≤maxLen) (hx:(t.sl k).key=s.data.toList) :
  Calls Tryz.prog 167 #[.pointer (some ⟨p.b,0,none⟩),.string s] w fun e w'=>e=.returned (.tuple #[.string (ktx (t.sl l).key),.bool true])∧Below w.heap.size w w':=by
 have hk:k ∈ (a ++ k :: l :: b):=by simp
 have hpk:=peek_some p t _ k s w h hs hk hx
 obtain⟨i,ha⟩:=ti_stop h.ti s.data.toList
 have hw:=at_there h.ti hk (hx ▸ ha)
 have hfd:=fun w h=>find_any p t s i hs w h ha
 rw[hw,show(((k+1:Nat):Int) - 1)=(k:Int) by omega] at hfd
 have hkn:=h.ti.lt k hk
 have hnx:=next_of h.ti
 have hm:=h.m
 obtain⟨q,cq,hv,-,-,-,cx⟩:=hm.place hkn
 rw[hnx] at cx
 have hln:=h.ti.lt l (by simp)
 obtain⟨q',cq',hv',cy,-,-,-⟩:=hm.place hln
 rw[hv] at hv'
 injection hv' with hv'
 injection hv' with hv'
 injection hv' with hv'
 subst hv'
 have l0:(0:Int)≤(l:Int):=by omega
 have l1:(l:Int)<(t.n:Int):=by omega
 have lz:¬ (l:Int) = -1:=by omega
 generalize ktx (t.sl l).key=KY at *
 replace cx:w.cell? ⟨q,k*4+3,none⟩=some (.int .i64 (l:Int)):=cx
 have c1:=hm.c1
 rw[hv] at c1
 have HM:=Go.Lib.hid hm
 have k0:(0:Int)≤(k:Int):=by omega
 have k1:(k:Int)<(t.n:Int):=by omega
 have kz:¬ (k:Int) = -1:=by omega
 have lb_c:=World.block_lt_of_cell? _ _ c1
 have lb_g:=World.block_lt_of_cell? _ _ cx
 dsimp only at lb_c lb_g
 generalize (t.sl k).val=V at *
 generalize t.n=N at *
 clear h ha hw hm hv hnx hk
 have HFD:=Go.Lib.hid hfd
 have HPK:=Go.Lib.hid hpk
 clear hfd hpk
 have hB:=bl_refl w
 go_enter Tryz.func167,Tryz.ntmps167
 go_wp2_with fail
 refine HPK.out.mono ?_
 rintro e w1 ⟨rfl,hb⟩
 replace c1:=bl_cell hb c1
 replace cx:=bl_cell hb cx
 replace cy:=bl_cell hb cy
 replace hB:=bl_then hB hb
 clear hb
 go_wp2_with fail
 refine wp_region_held_drew (S:=fun w'=>w'.cell? ⟨p.b,1,none⟩=some (.slice (some ⟨q,0,none⟩) N cq)∧w'.cell? ⟨q,k*4+3,none⟩=some (.int .i64 (l:Int))∧w'.cell? ⟨q,l*4,none⟩=some (.string KY)∧Below w.heap.size w w') (by kernel_rfl) ?_ (fun hHeld=>?_)
 ·exact⟨c1,cx,cy,bl_drew hB⟩
 try simp only[Act.put,List.setIfInBounds_toArray,List.set_cons_zero,List.set_cons_succ]
 refine tkx 0 ?_
 refine tkx 1 ?_
 refine tkx 2 ?_
 first|refine tqx 3 ?_|refine tkx 3 ?_
 first|refine tqx 4 ?_|refine tkx 4 ?_
 first|refine tqx 5 ?_|refine tkx 5 ?_
 first|refine tqx 6 ?_|refine tkx 6 ?_
 first|refine tqx 7 ?_|refine tkx 7 ?_
 first|refine tqx 8 ?_|refine tkx 8 ?_
 first|refine tqx 9 ?_|refine tkx 9 ?_
 first|refine tqx 10 ?_|refine tkx 10 ?_
 first|refine tqx 11 ?_|refine tkx 11 ?_
 first|(refine tqx 12 ?_)|(refine callH (i:=12) rfl hHeld (fun W hW K hK=>?_);clear hHeld;(try dsimp only at hW);obtain⟨h_c1,h_cx,h_cy,h_B⟩:=hW;go_simp;refine(HFD.out W (tabm_bl HM.out h_B)).mono ?_;rintro e w9 ⟨rfl,hb⟩;go_wp2_with fail;refine hK.out _ _ ?_ (fun hHeld=>?_);(focus((try dsimp only);exact⟨bl_cell hb h_c1,bl_cell hb h_cx,bl_cell hb h_cy,bl_then h_B hb⟩));clear hK K;clear h_c1 h_cx h_cy h_B;try simp only[Act.put,List.setIfInBounds_toArray,List.set_cons_zero,List.set_cons_succ])
 first|refine tqx 13 ?_|refine tkx 13 ?_
 first|refine tqx 14 ?_|refine tkx 14 ?_
 first|refine tqx 15 ?_|refine tkx 15 ?_
 first|refine tqx 16 ?_|refine tkx 16 ?_
 refine tkx 17 ?_
 refine wpAnyH_done (by kernel_rfl) ?_ _
 refine then_abs (F:=fun w'=>w'.cell? ⟨p.b,1,none⟩=some (.slice (some ⟨q,0,none⟩) N cq)∧w'.cell? ⟨q,k*4+3,none⟩=some (.int .i64 (l:Int))∧w'.cell? ⟨q,l*4,none⟩=some (.string KY)∧Below w.heap.size w w') hHeld ?_
 clear hHeld hB c1 cx cy
 rintro w2 ⟨c1,cx,cy,hB⟩
 go_wp2_with fail
 refine wp_region_held_drew (S:=fun w'=>w'.cell? ⟨p.b,1,none⟩=some (.slice (some ⟨q,0,none⟩) N cq)∧w'.cell? ⟨q,k*4+3,none⟩=some (.int .i64 (l:Int))∧w'.cell? ⟨q,l*4,none⟩=some (.string KY)∧Below w.heap.size w w') (by kernel_rfl) ?_ (fun hHeld=>?_)
 ·exact⟨c1,cx,cy,bl_drew hB⟩
 try simp only[Act.put,List.setIfInBounds_toArray,List.set_cons_zero,List.set_cons_succ]
 refine tkx 0 ?_
 refine tkx 1 ?_
 refine tkx 2 ?_
 refine tkx 3 ?_
 refine tkx 4 ?_
 refine tkx 5 ?_
 refine tkx 6 ?_
 refine tkx 7 ?_
 refine tkx 8 ?_
 refine tkx 9 ?_
 refine tkx 10 ?_
 refine tkx 11 ?_
 refine tkx 12 ?_
 refine tkx 13 ?_
 (refine callH (i:=14) rfl hHeld (fun W hW K hK=>?_);clear hHeld;(try dsimp only at hW);obtain⟨h_c1,h_cx,h_cy,h_B⟩:=hW;go_simp;refine(HFD.out W (tabm_bl HM.out h_B)).mono ?_;rintro e w9 ⟨rfl,hb⟩;go_wp2_with fail;refine hK.out _ _ ?_ (fun hHeld=>?_);(focus((try dsimp only);exact⟨bl_cell hb h_c1,bl_cell hb h_cx,bl_cell hb h_cy,bl_then h_B hb⟩));clear hK K;clear h_c1 h_cx h_cy h_B;try simp only[Act.put,List.setIfInBounds_toArray,List.set_cons_zero,List.set_cons_succ])
 refine tkx 15 ?_
 refine tkx 16 ?_
 refine tkx 17 ?_
 refine tkx 18 ?_
 refine tkx 19 ?_
 refine tkx 20 ?_
 refine tkx 21 ?_
 refine tkx 22 ?_
 refine wpAnyH_done (by kernel_rfl) ?_ _
 refine then_abs (F:=fun w'=>w'.cell? ⟨p.b,1,none⟩=some (.slice (some ⟨q,0,none⟩) N cq)∧w'.cell? ⟨q,k*4+3,none⟩=some (.int .i64 (l:Int))∧w'.cell? ⟨q,l*4,none⟩=some (.string KY)∧Below w.heap.size w w') hHeld ?_
 clear hHeld hB c1 cx cy
 rintro w3 ⟨c1,cx,cy,hB⟩
 go_wp2_with fail
 refine bodyPost_ret (v:=.tuple #[.string KY,.bool true]) (by simp[results,Tryz.results167,go_sem]) rfl ⟨rfl,hB⟩
end Go.Proofs.YtmhikkbdhboodaaGreat

namespace Go.Proofs.YtmhikkbdhboodaaGreat
open Go.RowKit Go.Maps Go.Shelf
set_option linter.unusedVariables false
set_option linter.unusedSimpArgs false
attribute [local go_sem] Oper.semAt_some

/-- What a round keeps: what lay below, and one box more. -/
def KpT (n₀ Bn:Nat) (A B:World):Prop:=Below n₀ A B∧B.heap[Bn]?=A.heap[Bn]?
theorem kpT_t {n₀ Bn:Nat} {A B C:World} (h:KpT n₀ Bn A B) (k:KpT n₀ Bn B C):KpT n₀ Bn A C:=⟨h.1.trans k.1,k.2.trans h.2⟩
theorem kpT_b {n₀ Bn:Nat} {w:World} (hn:n₀≤w.heap.size) (hB:Bn<w.heap.size) (W:World) (l:Nat) (o o':Obj) (hl:w.heap.size≤l) (h:W.heap[l]?=some o) (h1:o.isCells=false) (h2:o.isWalk=false):KpT n₀ Bn W (W.putObj l o') :=
 ⟨belowK_b hn W l o o' hl h h1 h2,World.putObj_heap_other (by omega)⟩
theorem tabm_low {n₀:Nat} {A B:World} {p:TbP} {t:Tb} (h:TabM A p t) (hb:Below n₀ A B) (hl:∀ q,TF p q→q<n₀):TabM B p t:=h.frame fun q hq=>hb.block q (hl q hq)
def leftO (o:List Nat):Value→Nat
 | .int _ z=>if z<0 then 0 else o.length - o.idxOf z.toNat
 | _=>0
theorem leftO_eq {o pre rest:List Nat} {k:Nat} (hn:o.Nodup) (h:o=pre ++ k :: rest):leftO o (.int .i64 (k:Int))=rest.length+1:=by
 subst h
 have hp:k ∉ pre:=fun hk=>by rw[List.nodup_append] at hn;exact hn.2.2 k hk k (List.mem_cons_self ..) rfl
 have hk:¬ (k:Int)<0:=by omega
 simp only[leftO,hk,if_false,Int.toNat_natCast]
 rw[List.idxOf_append,if_neg hp,List.idxOf_cons_self]
 simp only[List.length_append,List.length_cons]
 omega
theorem ring1_in (F:Fence) (n:Nat) (h6:F.fn 163) (hro:F.round=none) (hn:1≤n) (l Bn n₀:Nat) (p:TbP) (t:Tb) (o:List Nat) (os:List { k:Nat // k<t.n }) (hos:os.map (·.1)=o) (hTI:TI fnv t o) (hlow:∀ q,TF p q→q<n₀) (J Jx:List { k:Nat // k<t.n }→World→Prop)
  (hY:∀ pre x W,J pre W→pre.length<os.length→YieldAt F (n - 1) Tryz.prog l #[.int .i64 (x.1:Nat)] W fun e W' =>
   (e=.returned (.bool true)∧J (pre ++ [x]) W'∧KpT n₀ Bn W W')∨(e=.returned (.bool false)∧Jx (pre ++ [x]) W'))
  (W:World) (hBn:W.cell? ⟨Bn,0,none⟩=some (.pointer (some ⟨p.b,0,none⟩))) (hM:TabM W p t) (h0:J [] W) :
  CallsIn F n Tryz.prog 163 #[.func (.yield l) #[] #[],.pointer (some ⟨Bn,0,none⟩)] W fun e W'=>(∃ v,e=.returned v) ∧
   ((∃ ys,ys=os∧J ys W')∨(∃ pre,pre <+: os∧Jx pre W')):=by
 have c4:=hM.c4
 rw[hTI.first] at c4
 obtain⟨Z0,hZ0⟩:∃ z,z=hdO o (-1):=⟨_,rfl⟩
 rw[← hZ0] at c4
 have HZ0:=Go.Lib.hid hZ0
 clear hZ0
 have HT:=Go.Lib.hid hTI
 clear hTI
 refine callsIn_of_wp Tryz.func163 rfl h6 ?_ hro
 simp only[Tryz.ntmps163,List.size_toArray,List.length_cons,List.length_nil,Nat.reduceAdd,Nat.reduceSub,Array.replicate_succ,Array.replicate_zero,List.push_toArray,List.append_toArray,List.nil_append,List.cons_append]
 gi_wp2
 gi_loopw [3] (fun u3 wr=>∃ (pre rest:List { k:Nat // k<t.n }),u3=.int .i64 (hdO (rest.map (·.1)) (-1))∧os=pre ++ rest∧wr.cell? ⟨Bn,0,none⟩=some (.pointer (some ⟨p.b,0,none⟩))∧TabM wr p t∧J pre wr)
  (fun u3 wr=>leftO o u3)
 case atStart =>
  exact⟨[],os,by rw[HZ0.out,hos],rfl,hBn,hM,h0⟩
 case round =>
  clear hBn hM h0 c4 HZ0
  obtain⟨pre,rest,rfl,hx,hBn,hM,hJs⟩:=hrel
  cases rest with
  | nil =>
   rw[show hdO (([]:List { k:Nat // k<t.n }).map (·.1)) (-1)=(-1:Int) from rfl]
   gi_wp2
   go_end0
   exact⟨⟨_,rfl⟩,.inl ⟨pre,by simp[hx],hJs⟩⟩
  | cons x rest =>
   rw[show hdO ((x :: rest).map (·.1)) (-1)=(x.1:Int) from rfl]
   have hox:o=pre.map (·.1) ++ x.1 :: rest.map (·.1):=by rw[← hos,hx];simp
   have hnx:=next_of (hox ▸ HT.out)
   have hkn:=x.2
   have hnd:=HT.out.nodup
   have hxz:¬ (x.1:Int) = -1:=by omega
   have k0:(0:Int)≤(x.1:Int):=by omega
   have k1:(x.1:Int)<(t.n:Int):=by omega
   obtain⟨fn,tmps,assign,body,hy,hR⟩:=hY pre x wr hJs (by rw[hx];simp)
   gi_wp2
   refine hR.mono ?_
   rintro e W3 (⟨rfl,hJ3,hk3⟩|⟨rfl,hJx3⟩)
   ·have hM3:=tabm_low hM hk3.1 hlow
    have hBn3:W3.cell? ⟨Bn,0,none⟩=some (.pointer (some ⟨p.b,0,none⟩)):=by rw[World.cell?_of_block hk3.2];exact hBn
    obtain⟨q,cq,hv,-,-,-,cx⟩:=hM3.place hkn
    rw[hnx] at cx
    have c1:=hM3.c1
    rw[hv] at c1
    gi_wp2
    go_roundw
    case rel=>exact⟨pre ++ [x],rest,rfl,by simp[hx],hBn3,hM3,hJ3⟩
    case measure =>
     rw[leftO_eq hnd hox]
     cases rest with
     | nil=>exact Nat.succ_pos _
     | cons y rest =>
      show leftO o (.int .i64 (y.1:Int))<_
      rw[leftO_eq hnd (pre:=pre.map (·.1) ++ [x.1]) (rest:=rest.map (·.1)) (by simp[hox])];simp
   ·gi_wp2
    refine bodyPost_ret (results_none rfl _ _ _) rfl ?_
    exact⟨⟨_,rfl⟩,.inr ⟨pre ++ [x],⟨rest,by simp[hx]⟩,hJx3⟩⟩
theorem ring_all_in (F:Fence) (n:Nat) (h5:F.fn 140) (hro:F.round=none) (p0:Option Addr) (w:World) :
  CallsIn F n Tryz.prog 140 #[.pointer p0] w fun e w'=>e=.returned (.func (.func 163) #[] #[.pointer (some ⟨w.heap.size,0,none⟩)])∧w'=w.alloc (.cells #[.pointer p0] 143):=by
 refine callsIn_of_wp Tryz.func140 rfl h5 ?_ hro
 simp only[Tryz.ntmps140,List.size_toArray,List.length_cons,List.length_nil,Nat.reduceAdd,Nat.reduceSub,Array.replicate_succ,Array.replicate_zero,List.push_toArray,List.append_toArray,List.nil_append,List.cons_append]
 gi_wp2
 go_ret
 exact⟨rfl,rfl⟩
theorem ring_stops (F:Fence) (n:Nat) (h6:F.fn 163) (hro:F.round=none) (hn:1≤n) (Bn n₀:Nat) (p:TbP) (t:Tb) (o:List Nat) (os:List { k:Nat // k<t.n }) (hos:os.map (·.1)=o) (hTI:TI fnv t o) (hlow:∀ q,TF p q→q<n₀) (w:World) (hBl:Bn<w.heap.size) (hn₀:n₀≤w.heap.size)
  (hc:w.cell? ⟨Bn,0,none⟩=some (.pointer (some ⟨p.b,0,none⟩))) (hM:TabM w p t) :
  SeqStopsK F n Tryz.prog 163 #[.pointer (some ⟨Bn,0,none⟩)] (fun x : { k:Nat // k<t.n } => #[Value.int .i64 x.1]) (KpT n₀ Bn) (fun ys=>ys=os) (fun pre=>pre <+: os) os.length w:=fun l J Jx W hW _ _ hY h0 =>
 ring1_in F n h6 hro hn l Bn n₀ p t o os hos hTI hlow J Jx hY W ((hW.cell (p:=⟨Bn,0,none⟩) hBl).trans hc) (tabm_low hM (hW.mono hn₀) hlow) h0
section
variable {F:Fence} {n:Nat} {P:Program} {ops:Array Oper} {Q:Exit→Act→World→Prop} {md:Region.Mode} {fuel:Nat} {listed:Array Bool} {a:Act} {w:World}
theorem rr1 {i0:Nat} {o0:Oper} (h0:ops[i0]?=some o0)
  (k0:∀ K':Act→World→Prop,(∀ a w,wpAnyIn F n P md ops Q fuel (listed.setIfInBounds i0 true) a w→K' a w)→if Region.wanted o0 (yielded ops a.tmps)=true then Oper.wpIn F n P o0 a w K' Q else(∀ f,o0.about P w a.eval=some f→F.fn f)∧K' (a.put o0.dst undef) w)
  (hr:Region.ready md ops listed=[i0]:=by decide +kernel):wpAnyIn F n P md ops Q (fuel+1) listed a w :=
 wpAnyIn_ready hr (by simp) (AllReadyIn.cons h0 k0 (AllReadyIn.nil))
theorem rr2 {i0:Nat} {o0:Oper} {i1:Nat} {o1:Oper} (h0:ops[i0]?=some o0) (h1:ops[i1]?=some o1)
  (k0:∀ K':Act→World→Prop,(∀ a w,wpAnyIn F n P md ops Q fuel (listed.setIfInBounds i0 true) a w→K' a w)→if Region.wanted o0 (yielded ops a.tmps)=true then Oper.wpIn F n P o0 a w K' Q else(∀ f,o0.about P w a.eval=some f→F.fn f)∧K' (a.put o0.dst undef) w)
  (k1:∀ K':Act→World→Prop,(∀ a w,wpAnyIn F n P md ops Q fuel (listed.setIfInBounds i1 true) a w→K' a w)→if Region.wanted o1 (yielded ops a.tmps)=true then Oper.wpIn F n P o1 a w K' Q else(∀ f,o1.about P w a.eval=some f→F.fn f)∧K' (a.put o1.dst undef) w)
  (hr:Region.ready md ops listed=[i0,i1]:=by decide +kernel):wpAnyIn F n P md ops Q (fuel+1) listed a w :=
 wpAnyIn_ready hr (by simp) (AllReadyIn.cons h0 k0 (AllReadyIn.cons h1 k1 (AllReadyIn.nil)))
theorem rr3 {i0:Nat} {o0:Oper} {i1:Nat} {o1:Oper} {i2:Nat} {o2:Oper} (h0:ops[i0]?=some o0) (h1:ops[i1]?=some o1) (h2:ops[i2]?=some o2)
  (k0:∀ K':Act→World→Prop,(∀ a w,wpAnyIn F n P md ops Q fuel (listed.setIfInBounds i0 true) a w→K' a w)→if Region.wanted o0 (yielded ops a.tmps)=true then Oper.wpIn F n P o0 a w K' Q else(∀ f,o0.about P w a.eval=some f→F.fn f)∧K' (a.put o0.dst undef) w)
  (k1:∀ K':Act→World→Prop,(∀ a w,wpAnyIn F n P md ops Q fuel (listed.setIfInBounds i1 true) a w→K' a w)→if Region.wanted o1 (yielded ops a.tmps)=true then Oper.wpIn F n P o1 a w K' Q else(∀ f,o1.about P w a.eval=some f→F.fn f)∧K' (a.put o1.dst undef) w)
  (k2:∀ K':Act→World→Prop,(∀ a w,wpAnyIn F n P md ops Q fuel (listed.setIfInBounds i2 true) a w→K' a w)→if Region.wanted o2 (yielded ops a.tmps)=true then Oper.wpIn F n P o2 a w K' Q else(∀ f,o2.about P w a.eval=some f→F.fn f)∧K' (a.put o2.dst undef) w)
  (hr:Region.ready md ops listed=[i0,i1,i2]:=by decide +kernel):wpAnyIn F n P md ops Q (fuel+1) listed a w :=
 wpAnyIn_ready hr (by simp) (AllReadyIn.cons h0 k0 (AllReadyIn.cons h1 k1 (AllReadyIn.cons h2 k2 (AllReadyIn.nil))))
theorem rmerge {fuel':Nat} {L':Array Bool} {a':Act} {w':World} (h:wpAnyIn F n P md ops Q fuel' L' a' w') (k:Hid (wpAnyIn F n P md ops Q fuel' L' a' w')→wpAnyIn F n P md ops Q fuel listed a w):wpAnyIn F n P md ops Q fuel listed a w:=k (Go.Lib.hid h)
theorem rjump {L':Array Bool} (h:wpAnyIn F n P md ops Q fuel L' a w) (e:listed=L'):wpAnyIn F n P md ops Q fuel listed a w:=e ▸ h
theorem app_in {o:Oper} {t:TypeId} {K:Act→World→Prop} {E:Prop} {v':Value} {w':World} (s x:Operand) (hw:Region.wanted o (yielded ops a.tmps)=true)
  (ho:o.op=.call { callee:=.builtin .append,args := #[s,x],argTypes := #[t,t] }) (hrun:(Builtin.append_ #[t,t] o.type #[a.eval s,a.eval x]).run P w=.ok v' w') (h:K (a.put o.dst v') w') :
  if Region.wanted o (yielded ops a.tmps)=true then Oper.wpIn F n P o a w K Q else E:=by
 rw[if_pos hw]
 unfold Oper.wpIn
 refine⟨fun f hf=>?_,?_⟩
 ·simp[Oper.about,ho,resolve,builtin,Target.leads,go_sem] at hf
 ·rw[Oper.semAt_plain F _ _ (by intro c;rw[ho];simp)]
  unfold execOp
  simp only[ho,resolve,invoke,builtin,Sem.run_bind,Sem.run_pure,Result.andThen_ok,List.map_toArray,List.map_cons,List.map_nil,hrun]
  exact h
end
theorem infoS:(Tryz.prog.info? 9).map (fun i=>(i.zero,i.size,i.bytes))=some (some (.string { data := #[] }),1,16):=by kernel_rfl
theorem undSs:Tryz.prog.underlying 98=some (.slice 9):=by kernel_rfl
theorem boxed_kept {A B:World} {row:Option Nat} {b:Nat} {t:TypeId} {v:Value} (h:Boxed A b t v) (hg:A.grownBy B row) (hr:∀ r,row=some r→∃ o:Obj,A.heap[r]?=some o∧o.isCells=false):Boxed B b t v :=
 h.kept hg (fun e=>by
  obtain⟨o,ho,hc⟩:=hr b e.symm
  rw[show A.heap[b]?=_ from h] at ho
  cases ho
  cases hc)
def keyV (t:Tb) (k:Nat):Value:=.string (ktx (t.sl k).key)
theorem keys_in (F:Fence) (n:Nat) (h3:F.fn 75) (h4:F.fn 140) (h5:F.fn 163) (hro:F.round=none) (hn:3≤n) (p:TbP) (t:Tb) (o:List Nat) (w:World) (h:TabAt w p t o) :
  CallsIn F n Tryz.prog 75 #[.pointer (some ⟨p.b,0,none⟩)] w fun e W'=>∃ v,e=.returned v∧W'.ownsRow w.heap.size 9 1 v o.length (o.map (keyV t))∧Below w.heap.size w W':=by
 have h1:1≤n:=by omega
 obtain⟨i0,hi,hz0,hz1,hz2⟩:=info_parts infoS
 have hlow:∀ q,TF p q→q<w.heap.size:=h.m.lt
 have hroom:=h.m.small
 have hnr:=h.m.nr
 have hlen:=h.ti.len
 have HT:=Go.Lib.hid h
 clear h
 refine callsIn_of_wp_marks Tryz.func75 rfl h3 ?_ hro
 simp only[Tryz.ntmps75,List.size_toArray,List.length_cons,List.length_nil,Nat.reduceAdd,Nat.reduceSub,Array.replicate_succ,Array.replicate_zero,List.push_toArray,List.append_toArray,List.nil_append,List.cons_append]
 gi_wp2_with (gi_at_call 140;refine(ring_all_in F (n - 1) h4 hro _ _).mono ?_;rintro e w' ⟨rfl,rfl⟩)
 obtain⟨os,hos⟩:∃ os:List { k:Nat // k<t.n },os.map (·.1)=o:=⟨o.attachWith _ HT.out.ti.lt,List.attachWith_map_subtype_val _⟩
 have hol:os.length=o.length:=by rw[← hos,List.length_map]
 have bT:=Boxed.new w 91 (.pointer (some ⟨p.b,0,none⟩))
 have bO:=Boxed.new (w.alloc (.cells #[.pointer (some ⟨p.b,0,none⟩)] 91)) 98 (.slice none 0 0)
 have bN:=Boxed.new ((w.alloc (.cells #[.pointer (some ⟨p.b,0,none⟩)] 91)).alloc (.cells #[.slice none 0 0] 98)) 143 (.pointer (some ⟨p.b,0,none⟩))
 simp only[World.size_alloc] at bO bN
 have hB0:Below w.heap.size w (((w.alloc (.cells #[.pointer (some ⟨p.b,0,none⟩)] 91)).alloc (.cells #[.slice none 0 0] 98)).alloc (.cells #[.pointer (some ⟨p.b,0,none⟩)] 143)):=(((Below.refl _ w).alloc (Nat.le_refl _) _).alloc (by simp) _).alloc (by simp;omega) _
 have hM0:=tabm_low HT.out.m hB0 hlow
 refine wpIn_rangeFunc_ownG hro h1 (gf:=163) (lb := #[.pointer (some ⟨w.heap.size+1+1,0,none⟩)]) rfl h5 (enters_of Tryz.func163 (by kernel_rfl) rfl)
  (ring_stops F (n - 1) h5 hro (by omega) (w.heap.size+1+1) w.heap.size p t o os hos HT.out.ti hlow _ (by simp) (by simp;omega) bN.cell hM0) kpT_t (kpT_b (by simp;omega) (by simp)) (Below.refl _ _) (fun _=>rfl)
  (fun pre W=>((∃ v,Boxed W (w.heap.size+1) 98 v∧W.ownsRow w.heap.size 9 1 v pre.length (pre.map fun x=>keyV t x.1)∧True)∧Boxed W w.heap.size 91 (.pointer (some ⟨p.b,0,none⟩))∧Boxed W (w.heap.size+1+1) 143 (.pointer (some ⟨p.b,0,none⟩)))∧Below w.heap.size w W)
  (fun _ _ _=>False)
  (OwnFrom.and (Own.from (fun s A B row hs hg hr=>⟨holdsRow_own w.heap.size (w.heap.size+1) 98 9 1 (fun pre=>pre.length) (fun pre=>pre.map fun x=>keyV t x.1) (fun pre v=>True) s A B row hs.1 hg hr,boxed_kept hs.2.1 hg hr,boxed_kept hs.2.2 hg hr⟩) _) (ownFrom_below (Nat.le_refl _) (by simp;omega)))
  (fun _ _ _ _ _ hs _ _=>hs)
  ⟨⟨⟨_,bO.alloc _,World.ownsRow_nil _ _ _ _,trivial⟩,(bT.alloc _).alloc _,bN⟩,hB0⟩
  (fun x => { tmps := #[.pointer (some ⟨p.b,0,none⟩),.pointer (some ⟨w.heap.size,0,none⟩),.slice none 0 0,.pointer (some ⟨w.heap.size+1,0,none⟩),.int .i64 x.1,.pointer (some ⟨p.b,0,none⟩),.bool false,.pointer (some ⟨p.b,0,none⟩),.pointer (some ⟨p.b,0,none⟩),.pointer (some ⟨p.b,0,none⟩),.func (.func 163) #[] #[.pointer (some ⟨w.heap.size+1+1,0,none⟩)],.int .i64 x.1,undef,undef,undef,undef,undef,undef,undef,undef,undef,undef,undef,undef,undef],defers:=[] }) ?assign ?body ?done ?stop
 case assign =>
  intro l x W K hK
  gi_wp2
  exact hK
 case body =>
  clear bT bO bN hB0 hM0
  rintro l pre x W ⟨⟨⟨v,hv,hrow,-⟩,bT,bN⟩,hB⟩ hlt
  have hc:=hv.cell
  have hct:=bT.cell
  have hM:=tabm_low HT.out.m hB hlow
  obtain⟨q,cq,hvs,cx,-,-,-⟩:=hM.place x.2
  have c1:=hM.c1
  rw[hvs] at c1
  have k0:(0:Int)≤(x.1:Int):=by omega
  have k1:(x.1:Int)<(t.n:Int):=by have:=x.2;omega
  have hmx:Tryz.prog.follows .mixedOrders=true:=by kernel_rfl
  have hpl:pre.length<10000:=by omega
  have HM:=Go.Lib.hid hM
  have HB:=Go.Lib.hid hB
  have HBN:=Go.Lib.hid bN
  obtain⟨KY,hKY⟩:∃ z,z=ktx (t.sl x.1).key:=⟨_,rfl⟩
  rw[← hKY] at cx
  have HKY:=Go.Lib.hid hKY
  clear hKY
  have lb_o:=hv.lt
  have hrd:W.drew.ownsRow w.heap.size 9 1 v pre.length (pre.map fun x=>keyV t x.1):=hrow
  have hvd:Boxed W.drew (w.heap.size+1) 98 v:=hv
  have bTd:Boxed W.drew w.heap.size 91 (.pointer (some ⟨p.b,0,none⟩)):=bT
  have bNd:Boxed W.drew (w.heap.size+1+1) 143 (.pointer (some ⟨p.b,0,none⟩)):=bN
  have hsz0:=hB.size
  obtain⟨v',w1,hrun,hown',hgrow,-⟩:=run_append_own (P:=Tryz.prog) (W.drew.alloc (.cells #[.string KY] 9)) w.heap.size 98 98 9 i0 (.string { data := #[] }) 1 16 undSs hi hz0 hz1 hz2 rfl (by decide) v pre.length _ (hrd.alloc _) ⟨W.heap.size,0,none⟩ 1 1 [.string KY] rfl (cell_one_new _ _ _) (by simp[Value.oneCell']) (by simp only[maxLen];omega) (by omega) (by simp;omega)
  obtain⟨g',cap',rfl⟩:=ownsRow_succ hown'
  obtain⟨hv1,hv2,hr2,hk2,hb2⟩:=hvd.appended (by decide) hrd hsz0 (by omega) hown' hgrow
  have bT1:=(bTd.alloc (.cells #[.string KY] 9)).kept hgrow (bTd.not_row (by decide) hrd)
  have bN1:=(bNd.alloc (.cells #[.string KY] 9)).kept hgrow (bNd.not_row (by decide) hrd)
  have bT2:=bT1.kept (grownBy_setCell' w1 (w.heap.size+1) (.slice (some ⟨g',0,none⟩) (pre.length+1) cap')) (by simp)
  have bN2:=bN1.kept (grownBy_setCell' w1 (w.heap.size+1) (.slice (some ⟨g',0,none⟩) (pre.length+1) cap')) (by simp)
  have hc1:=hv1.cell
  have hf1:=hv1.frozen
  have HR:=Go.Lib.hid (And.intro hv2 (And.intro hr2 (And.intro hk2 (And.intro hb2 (And.intro bT2 bN2)))))
  clear hv hrow bT bN hrd hvd bTd bNd hown' hgrow hv1 hv2 hr2 hk2 hb2 bT1 bN1 bT2 bN2 hM hB hsz0
  gi_wp2
  refine wpIn_region_any hmx ?_
  change wpAnyIn _ _ _ _ _ _ _ _ _ (World.drew _)
  refine rmerge (fuel':=0) (L' := #[true,true,true,true,true,true,true,true,true,true,true,true,true]) (a' := { tmps := #[.pointer (some ⟨p.b,0,none⟩),.pointer (some ⟨w.heap.size,0,none⟩),.slice none 0 0,.pointer (some ⟨w.heap.size+1,0,none⟩),.int .i64 x.1,.pointer (some ⟨p.b,0,none⟩),.bool false,.pointer (some ⟨p.b,0,none⟩),.pointer (some ⟨p.b,0,none⟩),.pointer (some ⟨p.b,0,none⟩),.func (.func 163) #[] #[.pointer (some ⟨w.heap.size+1+1,0,none⟩)],.int .i64 x.1,v,.pointer (some ⟨p.b,0,none⟩),.pointer (some ⟨p.b,0,none⟩),.pointer (some ⟨p.b,0,none⟩),.pointer (some ⟨p.b,1,none⟩),.slice (some ⟨q,0,none⟩) t.n cq,.int .i64 x.1,.pointer (some ⟨q,x.1*4,none⟩),.pointer (some ⟨q,x.1*4,none⟩),.string KY,.slice (some ⟨W.heap.size,0,none⟩) 1 1,.slice (some ⟨g',0,none⟩) (pre.length+1) cap',undef],defers:=[] }) (w':=w1.setCell ⟨w.heap.size+1,0,none⟩ (.slice (some ⟨g',0,none⟩) (pre.length+1) cap')) ?_ (fun s0=>?_)
  ·refine wpAnyIn_done (by kernel_rfl) ?_ _
   gi_wp2
   obtain⟨hv2,hr2,hk2,hb2,bT2,bN2⟩:=HR.out
   have hb3:Below w.heap.size W (w1.setCell ⟨w.heap.size+1,0,none⟩ (.slice (some ⟨g',0,none⟩) (pre.length+1) cap')):=((Below.refl w.heap.size W).drew).trans hb2
   refine⟨((KeepsOthers.drew W).trans hk2).from _,⟨hb3,bN2.trans (show W.heap[w.heap.size+1+1]?=_ from HBN.out).symm⟩,⟨⟨_,hv2,?_,trivial⟩,bT2,bN2⟩,HB.out.trans hb3⟩
   rw[HKY.out] at hr2
   rw[List.length_append,List.map_append]
   exact hr2
  refine rmerge (fuel':=1) (L' := #[true,true,true,true,true,true,true,true,true,true,true,true,false]) (a' := { tmps := #[.pointer (some ⟨p.b,0,none⟩),.pointer (some ⟨w.heap.size,0,none⟩),.slice none 0 0,.pointer (some ⟨w.heap.size+1,0,none⟩),.int .i64 x.1,.pointer (some ⟨p.b,0,none⟩),.bool false,.pointer (some ⟨p.b,0,none⟩),.pointer (some ⟨p.b,0,none⟩),.pointer (some ⟨p.b,0,none⟩),.func (.func 163) #[] #[.pointer (some ⟨w.heap.size+1+1,0,none⟩)],.int .i64 x.1,v,.pointer (some ⟨p.b,0,none⟩),.pointer (some ⟨p.b,0,none⟩),.pointer (some ⟨p.b,0,none⟩),.pointer (some ⟨p.b,1,none⟩),.slice (some ⟨q,0,none⟩) t.n cq,.int .i64 x.1,.pointer (some ⟨q,x.1*4,none⟩),.pointer (some ⟨q,x.1*4,none⟩),.string KY,.slice (some ⟨W.heap.size,0,none⟩) 1 1,.slice (some ⟨g',0,none⟩) (pre.length+1) cap',undef],defers:=[] }) (w':=w1) ?_ (fun s1=>?_)
  ·refine rr1 (i0:=12) rfl (fun K hK=>?_)
   ·(go_simp;refine hK _ _ ?_;exact rjump s0.out (by decide +kernel))
  refine rmerge (fuel':=2) (L' := #[true,true,true,true,true,true,true,true,true,true,true,false,false]) (a' := { tmps := #[.pointer (some ⟨p.b,0,none⟩),.pointer (some ⟨w.heap.size,0,none⟩),.slice none 0 0,.pointer (some ⟨w.heap.size+1,0,none⟩),.int .i64 x.1,.pointer (some ⟨p.b,0,none⟩),.bool false,.pointer (some ⟨p.b,0,none⟩),.pointer (some ⟨p.b,0,none⟩),.pointer (some ⟨p.b,0,none⟩),.func (.func 163) #[] #[.pointer (some ⟨w.heap.size+1+1,0,none⟩)],.int .i64 x.1,v,.pointer (some ⟨p.b,0,none⟩),.pointer (some ⟨p.b,0,none⟩),.pointer (some ⟨p.b,0,none⟩),.pointer (some ⟨p.b,1,none⟩),.slice (some ⟨q,0,none⟩) t.n cq,.int .i64 x.1,.pointer (some ⟨q,x.1*4,none⟩),.pointer (some ⟨q,x.1*4,none⟩),.string KY,.slice (some ⟨W.heap.size,0,none⟩) 1 1,undef,undef],defers:=[] }) (w':=(W.alloc (.cells #[.string KY] 9)).drew) ?_ (fun s2=>?_)
  ·refine rr1 (i0:=11) rfl (fun K hK=>?_)
   ·(refine app_in (Operand.tmp 12) (Operand.tmp 22) (by kernel_rfl) rfl hrun ?_;refine hK _ _ ?_;exact rjump s1.out (by decide +kernel))
  refine rmerge (fuel':=3) (L' := #[true,true,true,true,true,true,true,true,true,true,false,false,false]) (a' := { tmps := #[.pointer (some ⟨p.b,0,none⟩),.pointer (some ⟨w.heap.size,0,none⟩),.slice none 0 0,.pointer (some ⟨w.heap.size+1,0,none⟩),.int .i64 x.1,.pointer (some ⟨p.b,0,none⟩),.bool false,.pointer (some ⟨p.b,0,none⟩),.pointer (some ⟨p.b,0,none⟩),.pointer (some ⟨p.b,0,none⟩),.func (.func 163) #[] #[.pointer (some ⟨w.heap.size+1+1,0,none⟩)],.int .i64 x.1,v,.pointer (some ⟨p.b,0,none⟩),.pointer (some ⟨p.b,0,none⟩),.pointer (some ⟨p.b,0,none⟩),.pointer (some ⟨p.b,1,none⟩),.slice (some ⟨q,0,none⟩) t.n cq,.int .i64 x.1,.pointer (some ⟨q,x.1*4,none⟩),.pointer (some ⟨q,x.1*4,none⟩),.string KY,undef,undef,undef],defers:=[] }) (w':=W.drew) ?_ (fun s3=>?_)
  ·refine rr1 (i0:=10) rfl (fun K hK=>?_)
   ·(go_simp;refine hK _ _ ?_;exact rjump s2.out (by decide +kernel))
  refine rmerge (fuel':=3) (L' := #[false,true,true,true,true,true,true,true,true,true,true,false,false]) (a' := { tmps := #[.pointer (some ⟨p.b,0,none⟩),.pointer (some ⟨w.heap.size,0,none⟩),.slice none 0 0,.pointer (some ⟨w.heap.size+1,0,none⟩),.int .i64 x.1,.pointer (some ⟨p.b,0,none⟩),.bool false,.pointer (some ⟨p.b,0,none⟩),.pointer (some ⟨p.b,0,none⟩),.pointer (some ⟨p.b,0,none⟩),.func (.func 163) #[] #[.pointer (some ⟨w.heap.size+1+1,0,none⟩)],.int .i64 x.1,undef,.pointer (some ⟨p.b,0,none⟩),.pointer (some ⟨p.b,0,none⟩),.pointer (some ⟨p.b,0,none⟩),.pointer (some ⟨p.b,1,none⟩),.slice (some ⟨q,0,none⟩) t.n cq,.int .i64 x.1,.pointer (some ⟨q,x.1*4,none⟩),.pointer (some ⟨q,x.1*4,none⟩),.string KY,.slice (some ⟨W.heap.size,0,none⟩) 1 1,undef,undef],defers:=[] }) (w':=(W.alloc (.cells #[.string KY] 9)).drew) ?_ (fun s4=>?_)
  ·refine rr1 (i0:=0) rfl (fun K hK=>?_)
   ·(go_simp;refine hK _ _ ?_;exact rjump s2.out (by decide +kernel))
  refine rmerge (fuel':=4) (L' := #[true,true,true,true,true,true,true,true,true,false,false,false,false]) (a' := { tmps := #[.pointer (some ⟨p.b,0,none⟩),.pointer (some ⟨w.heap.size,0,none⟩),.slice none 0 0,.pointer (some ⟨w.heap.size+1,0,none⟩),.int .i64 x.1,.pointer (some ⟨p.b,0,none⟩),.bool false,.pointer (some ⟨p.b,0,none⟩),.pointer (some ⟨p.b,0,none⟩),.pointer (some ⟨p.b,0,none⟩),.func (.func 163) #[] #[.pointer (some ⟨w.heap.size+1+1,0,none⟩)],.int .i64 x.1,v,.pointer (some ⟨p.b,0,none⟩),.pointer (some ⟨p.b,0,none⟩),.pointer (some ⟨p.b,0,none⟩),.pointer (some ⟨p.b,1,none⟩),.slice (some ⟨q,0,none⟩) t.n cq,.int .i64 x.1,.pointer (some ⟨q,x.1*4,none⟩),.pointer (some ⟨q,x.1*4,none⟩),undef,undef,undef,undef],defers:=[] }) (w':=W.drew) ?_ (fun s5=>?_)
  ·refine rr1 (i0:=9) rfl (fun K hK=>?_)
   ·(go_simp;refine hK _ _ ?_;exact rjump s3.out (by decide +kernel))
  refine rmerge (fuel':=4) (L' := #[false,true,true,true,true,true,true,true,true,true,false,false,false]) (a' := { tmps := #[.pointer (some ⟨p.b,0,none⟩),.pointer (some ⟨w.heap.size,0,none⟩),.slice none 0 0,.pointer (some ⟨w.heap.size+1,0,none⟩),.int .i64 x.1,.pointer (some ⟨p.b,0,none⟩),.bool false,.pointer (some ⟨p.b,0,none⟩),.pointer (some ⟨p.b,0,none⟩),.pointer (some ⟨p.b,0,none⟩),.func (.func 163) #[] #[.pointer (some ⟨w.heap.size+1+1,0,none⟩)],.int .i64 x.1,undef,.pointer (some ⟨p.b,0,none⟩),.pointer (some ⟨p.b,0,none⟩),.pointer (some ⟨p.b,0,none⟩),.pointer (some ⟨p.b,1,none⟩),.slice (some ⟨q,0,none⟩) t.n cq,.int .i64 x.1,.pointer (some ⟨q,x.1*4,none⟩),.pointer (some ⟨q,x.1*4,none⟩),.string KY,undef,undef,undef],defers:=[] }) (w':=W.drew) ?_ (fun s6=>?_)
  ·refine rr2 (i0:=0) (i1:=10) rfl rfl (fun K hK=>?_) (fun K hK=>?_)
   ·(go_simp;refine hK _ _ ?_;exact rjump s3.out (by decide +kernel))
   ·(go_simp;refine hK _ _ ?_;exact rjump s4.out (by decide +kernel))
  refine rmerge (fuel':=5) (L' := #[true,true,true,true,true,true,true,true,false,false,false,false,false]) (a' := { tmps := #[.pointer (some ⟨p.b,0,none⟩),.pointer (some ⟨w.heap.size,0,none⟩),.slice none 0 0,.pointer (some ⟨w.heap.size+1,0,none⟩),.int .i64 x.1,.pointer (some ⟨p.b,0,none⟩),.bool false,.pointer (some ⟨p.b,0,none⟩),.pointer (some ⟨p.b,0,none⟩),.pointer (some ⟨p.b,0,none⟩),.func (.func 163) #[] #[.pointer (some ⟨w.heap.size+1+1,0,none⟩)],.int .i64 x.1,v,.pointer (some ⟨p.b,0,none⟩),.pointer (some ⟨p.b,0,none⟩),.pointer (some ⟨p.b,0,none⟩),.pointer (some ⟨p.b,1,none⟩),.slice (some ⟨q,0,none⟩) t.n cq,.int .i64 x.1,.pointer (some ⟨q,x.1*4,none⟩),undef,undef,undef,undef,undef],defers:=[] }) (w':=W.drew) ?_ (fun s7=>?_)
  ·refine rr1 (i0:=8) rfl (fun K hK=>?_)
   ·(go_simp;refine hK _ _ ?_;exact rjump s5.out (by decide +kernel))
  refine rmerge (fuel':=5) (L' := #[false,true,true,true,true,true,true,true,true,false,false,false,false]) (a' := { tmps := #[.pointer (some ⟨p.b,0,none⟩),.pointer (some ⟨w.heap.size,0,none⟩),.slice none 0 0,.pointer (some ⟨w.heap.size+1,0,none⟩),.int .i64 x.1,.pointer (some ⟨p.b,0,none⟩),.bool false,.pointer (some ⟨p.b,0,none⟩),.pointer (some ⟨p.b,0,none⟩),.pointer (some ⟨p.b,0,none⟩),.func (.func 163) #[] #[.pointer (some ⟨w.heap.size+1+1,0,none⟩)],.int .i64 x.1,undef,.pointer (some ⟨p.b,0,none⟩),.pointer (some ⟨p.b,0,none⟩),.pointer (some ⟨p.b,0,none⟩),.pointer (some ⟨p.b,1,none⟩),.slice (some ⟨q,0,none⟩) t.n cq,.int .i64 x.1,.pointer (some ⟨q,x.1*4,none⟩),.pointer (some ⟨q,x.1*4,none⟩),undef,undef,undef,undef],defers:=[] }) (w':=W.drew) ?_ (fun s8=>?_)
  ·refine rr2 (i0:=0) (i1:=9) rfl rfl (fun K hK=>?_) (fun K hK=>?_)
   ·(go_simp;refine hK _ _ ?_;exact rjump s5.out (by decide +kernel))
   ·(go_simp;refine hK _ _ ?_;exact rjump s6.out (by decide +kernel))
  refine rmerge (fuel':=6) (L' := #[true,true,true,true,true,true,true,false,false,false,false,false,false]) (a' := { tmps := #[.pointer (some ⟨p.b,0,none⟩),.pointer (some ⟨w.heap.size,0,none⟩),.slice none 0 0,.pointer (some ⟨w.heap.size+1,0,none⟩),.int .i64 x.1,.pointer (some ⟨p.b,0,none⟩),.bool false,.pointer (some ⟨p.b,0,none⟩),.pointer (some ⟨p.b,0,none⟩),.pointer (some ⟨p.b,0,none⟩),.func (.func 163) #[] #[.pointer (some ⟨w.heap.size+1+1,0,none⟩)],.int .i64 x.1,v,.pointer (some ⟨p.b,0,none⟩),.pointer (some ⟨p.b,0,none⟩),.pointer (some ⟨p.b,0,none⟩),.pointer (some ⟨p.b,1,none⟩),.slice (some ⟨q,0,none⟩) t.n cq,.int .i64 x.1,undef,undef,undef,undef,undef,undef],defers:=[] }) (w':=W.drew) ?_ (fun s9=>?_)
  ·refine rr1 (i0:=7) rfl (fun K hK=>?_)
   ·(go_simp;refine hK _ _ ?_;exact rjump s7.out (by decide +kernel))
  refine rmerge (fuel':=6) (L' := #[false,true,true,true,true,true,true,true,false,false,false,false,false]) (a' := { tmps := #[.pointer (some ⟨p.b,0,none⟩),.pointer (some ⟨w.heap.size,0,none⟩),.slice none 0 0,.pointer (some ⟨w.heap.size+1,0,none⟩),.int .i64 x.1,.pointer (some ⟨p.b,0,none⟩),.bool false,.pointer (some ⟨p.b,0,none⟩),.pointer (some ⟨p.b,0,none⟩),.pointer (some ⟨p.b,0,none⟩),.func (.func 163) #[] #[.pointer (some ⟨w.heap.size+1+1,0,none⟩)],.int .i64 x.1,undef,.pointer (some ⟨p.b,0,none⟩),.pointer (some ⟨p.b,0,none⟩),.pointer (some ⟨p.b,0,none⟩),.pointer (some ⟨p.b,1,none⟩),.slice (some ⟨q,0,none⟩) t.n cq,.int .i64 x.1,.pointer (some ⟨q,x.1*4,none⟩),undef,undef,undef,undef,undef],defers:=[] }) (w':=W.drew) ?_ (fun s10=>?_)
  ·refine rr2 (i0:=0) (i1:=8) rfl rfl (fun K hK=>?_) (fun K hK=>?_)
   ·(go_simp;refine hK _ _ ?_;exact rjump s7.out (by decide +kernel))
   ·(go_simp;refine hK _ _ ?_;exact rjump s8.out (by decide +kernel))
  refine rmerge (fuel':=7) (L' := #[true,true,true,true,true,true,false,false,false,false,false,false,false]) (a' := { tmps := #[.pointer (some ⟨p.b,0,none⟩),.pointer (some ⟨w.heap.size,0,none⟩),.slice none 0 0,.pointer (some ⟨w.heap.size+1,0,none⟩),.int .i64 x.1,.pointer (some ⟨p.b,0,none⟩),.bool false,.pointer (some ⟨p.b,0,none⟩),.pointer (some ⟨p.b,0,none⟩),.pointer (some ⟨p.b,0,none⟩),.func (.func 163) #[] #[.pointer (some ⟨w.heap.size+1+1,0,none⟩)],.int .i64 x.1,v,.pointer (some ⟨p.b,0,none⟩),.pointer (some ⟨p.b,0,none⟩),.pointer (some ⟨p.b,0,none⟩),.pointer (some ⟨p.b,1,none⟩),.slice (some ⟨q,0,none⟩) t.n cq,undef,undef,undef,undef,undef,undef,undef],defers:=[] }) (w':=W.drew) ?_ (fun s11=>?_)
  ·refine rr1 (i0:=6) rfl (fun K hK=>?_)
   ·(go_simp;refine hK _ _ ?_;exact rjump s9.out (by decide +kernel))
  refine rmerge (fuel':=7) (L' := #[true,true,true,true,true,false,true,false,false,false,false,false,false]) (a' := { tmps := #[.pointer (some ⟨p.b,0,none⟩),.pointer (some ⟨w.heap.size,0,none⟩),.slice none 0 0,.pointer (some ⟨w.heap.size+1,0,none⟩),.int .i64 x.1,.pointer (some ⟨p.b,0,none⟩),.bool false,.pointer (some ⟨p.b,0,none⟩),.pointer (some ⟨p.b,0,none⟩),.pointer (some ⟨p.b,0,none⟩),.func (.func 163) #[] #[.pointer (some ⟨w.heap.size+1+1,0,none⟩)],.int .i64 x.1,v,.pointer (some ⟨p.b,0,none⟩),.pointer (some ⟨p.b,0,none⟩),.pointer (some ⟨p.b,0,none⟩),.pointer (some ⟨p.b,1,none⟩),undef,.int .i64 x.1,undef,undef,undef,undef,undef,undef],defers:=[] }) (w':=W.drew) ?_ (fun s12=>?_)
  ·refine rr1 (i0:=5) rfl (fun K hK=>?_)
   ·(go_simp;refine hK _ _ ?_;exact rjump s9.out (by decide +kernel))
  refine rmerge (fuel':=7) (L' := #[false,true,true,true,true,true,true,false,false,false,false,false,false]) (a' := { tmps := #[.pointer (some ⟨p.b,0,none⟩),.pointer (some ⟨w.heap.size,0,none⟩),.slice none 0 0,.pointer (some ⟨w.heap.size+1,0,none⟩),.int .i64 x.1,.pointer (some ⟨p.b,0,none⟩),.bool false,.pointer (some ⟨p.b,0,none⟩),.pointer (some ⟨p.b,0,none⟩),.pointer (some ⟨p.b,0,none⟩),.func (.func 163) #[] #[.pointer (some ⟨w.heap.size+1+1,0,none⟩)],.int .i64 x.1,undef,.pointer (some ⟨p.b,0,none⟩),.pointer (some ⟨p.b,0,none⟩),.pointer (some ⟨p.b,0,none⟩),.pointer (some ⟨p.b,1,none⟩),.slice (some ⟨q,0,none⟩) t.n cq,.int .i64 x.1,undef,undef,undef,undef,undef,undef],defers:=[] }) (w':=W.drew) ?_ (fun s13=>?_)
  ·refine rr2 (i0:=0) (i1:=7) rfl rfl (fun K hK=>?_) (fun K hK=>?_)
   ·(go_simp;refine hK _ _ ?_;exact rjump s9.out (by decide +kernel))
   ·(go_simp;refine hK _ _ ?_;exact rjump s10.out (by decide +kernel))
  refine rmerge (fuel':=8) (L' := #[true,true,true,true,true,false,false,false,false,false,false,false,false]) (a' := { tmps := #[.pointer (some ⟨p.b,0,none⟩),.pointer (some ⟨w.heap.size,0,none⟩),.slice none 0 0,.pointer (some ⟨w.heap.size+1,0,none⟩),.int .i64 x.1,.pointer (some ⟨p.b,0,none⟩),.bool false,.pointer (some ⟨p.b,0,none⟩),.pointer (some ⟨p.b,0,none⟩),.pointer (some ⟨p.b,0,none⟩),.func (.func 163) #[] #[.pointer (some ⟨w.heap.size+1+1,0,none⟩)],.int .i64 x.1,v,.pointer (some ⟨p.b,0,none⟩),.pointer (some ⟨p.b,0,none⟩),.pointer (some ⟨p.b,0,none⟩),.pointer (some ⟨p.b,1,none⟩),undef,undef,undef,undef,undef,undef,undef,undef],defers:=[] }) (w':=W.drew) ?_ (fun s14=>?_)
  ·refine rr2 (i0:=5) (i1:=6) rfl rfl (fun K hK=>?_) (fun K hK=>?_)
   ·(go_simp;refine hK _ _ ?_;exact rjump s11.out (by decide +kernel))
   ·(go_simp;refine hK _ _ ?_;exact rjump s12.out (by decide +kernel))
  refine rmerge (fuel':=8) (L' := #[true,true,true,true,false,false,true,false,false,false,false,false,false]) (a' := { tmps := #[.pointer (some ⟨p.b,0,none⟩),.pointer (some ⟨w.heap.size,0,none⟩),.slice none 0 0,.pointer (some ⟨w.heap.size+1,0,none⟩),.int .i64 x.1,.pointer (some ⟨p.b,0,none⟩),.bool false,.pointer (some ⟨p.b,0,none⟩),.pointer (some ⟨p.b,0,none⟩),.pointer (some ⟨p.b,0,none⟩),.func (.func 163) #[] #[.pointer (some ⟨w.heap.size+1+1,0,none⟩)],.int .i64 x.1,v,.pointer (some ⟨p.b,0,none⟩),.pointer (some ⟨p.b,0,none⟩),.pointer (some ⟨p.b,0,none⟩),undef,undef,.int .i64 x.1,undef,undef,undef,undef,undef,undef],defers:=[] }) (w':=W.drew) ?_ (fun s15=>?_)
  ·refine rr1 (i0:=4) rfl (fun K hK=>?_)
   ·(go_simp;refine hK _ _ ?_;exact rjump s12.out (by decide +kernel))
  refine rmerge (fuel':=8) (L' := #[false,true,true,true,true,true,false,false,false,false,false,false,false]) (a' := { tmps := #[.pointer (some ⟨p.b,0,none⟩),.pointer (some ⟨w.heap.size,0,none⟩),.slice none 0 0,.pointer (some ⟨w.heap.size+1,0,none⟩),.int .i64 x.1,.pointer (some ⟨p.b,0,none⟩),.bool false,.pointer (some ⟨p.b,0,none⟩),.pointer (some ⟨p.b,0,none⟩),.pointer (some ⟨p.b,0,none⟩),.func (.func 163) #[] #[.pointer (some ⟨w.heap.size+1+1,0,none⟩)],.int .i64 x.1,undef,.pointer (some ⟨p.b,0,none⟩),.pointer (some ⟨p.b,0,none⟩),.pointer (some ⟨p.b,0,none⟩),.pointer (some ⟨p.b,1,none⟩),.slice (some ⟨q,0,none⟩) t.n cq,undef,undef,undef,undef,undef,undef,undef],defers:=[] }) (w':=W.drew) ?_ (fun s16=>?_)
  ·refine rr2 (i0:=0) (i1:=6) rfl rfl (fun K hK=>?_) (fun K hK=>?_)
   ·(go_simp;refine hK _ _ ?_;exact rjump s11.out (by decide +kernel))
   ·(go_simp;refine hK _ _ ?_;exact rjump s13.out (by decide +kernel))
  refine rmerge (fuel':=8) (L' := #[false,true,true,true,true,false,true,false,false,false,false,false,false]) (a' := { tmps := #[.pointer (some ⟨p.b,0,none⟩),.pointer (some ⟨w.heap.size,0,none⟩),.slice none 0 0,.pointer (some ⟨w.heap.size+1,0,none⟩),.int .i64 x.1,.pointer (some ⟨p.b,0,none⟩),.bool false,.pointer (some ⟨p.b,0,none⟩),.pointer (some ⟨p.b,0,none⟩),.pointer (some ⟨p.b,0,none⟩),.func (.func 163) #[] #[.pointer (some ⟨w.heap.size+1+1,0,none⟩)],.int .i64 x.1,undef,.pointer (some ⟨p.b,0,none⟩),.pointer (some ⟨p.b,0,none⟩),.pointer (some ⟨p.b,0,none⟩),.pointer (some ⟨p.b,1,none⟩),undef,.int .i64 x.1,undef,undef,undef,undef,undef,undef],defers:=[] }) (w':=W.drew) ?_ (fun s17=>?_)
  ·refine rr2 (i0:=0) (i1:=5) rfl rfl (fun K hK=>?_) (fun K hK=>?_)
   ·(go_simp;refine hK _ _ ?_;exact rjump s12.out (by decide +kernel))
   ·(go_simp;refine hK _ _ ?_;exact rjump s13.out (by decide +kernel))
  refine rmerge (fuel':=9) (L' := #[true,true,true,true,false,false,false,false,false,false,false,false,false]) (a' := { tmps := #[.pointer (some ⟨p.b,0,none⟩),.pointer (some ⟨w.heap.size,0,none⟩),.slice none 0 0,.pointer (some ⟨w.heap.size+1,0,none⟩),.int .i64 x.1,.pointer (some ⟨p.b,0,none⟩),.bool false,.pointer (some ⟨p.b,0,none⟩),.pointer (some ⟨p.b,0,none⟩),.pointer (some ⟨p.b,0,none⟩),.func (.func 163) #[] #[.pointer (some ⟨w.heap.size+1+1,0,none⟩)],.int .i64 x.1,v,.pointer (some ⟨p.b,0,none⟩),.pointer (some ⟨p.b,0,none⟩),.pointer (some ⟨p.b,0,none⟩),undef,undef,undef,undef,undef,undef,undef,undef,undef],defers:=[] }) (w':=W.drew) ?_ (fun s18=>?_)
  ·refine rr2 (i0:=4) (i1:=6) rfl rfl (fun K hK=>?_) (fun K hK=>?_)
   ·(go_simp;refine hK _ _ ?_;exact rjump s14.out (by decide +kernel))
   ·(go_simp;refine hK _ _ ?_;exact rjump s15.out (by decide +kernel))
  refine rmerge (fuel':=9) (L' := #[true,true,true,false,false,false,true,false,false,false,false,false,false]) (a' := { tmps := #[.pointer (some ⟨p.b,0,none⟩),.pointer (some ⟨w.heap.size,0,none⟩),.slice none 0 0,.pointer (some ⟨w.heap.size+1,0,none⟩),.int .i64 x.1,.pointer (some ⟨p.b,0,none⟩),.bool false,.pointer (some ⟨p.b,0,none⟩),.pointer (some ⟨p.b,0,none⟩),.pointer (some ⟨p.b,0,none⟩),.func (.func 163) #[] #[.pointer (some ⟨w.heap.size+1+1,0,none⟩)],.int .i64 x.1,v,.pointer (some ⟨p.b,0,none⟩),.pointer (some ⟨p.b,0,none⟩),undef,undef,undef,.int .i64 x.1,undef,undef,undef,undef,undef,undef],defers:=[] }) (w':=W.drew) ?_ (fun s19=>?_)
  ·refine rr1 (i0:=3) rfl (fun K hK=>?_)
   ·(go_simp;refine hK _ _ ?_;exact rjump s15.out (by decide +kernel))
  refine rmerge (fuel':=9) (L' := #[false,true,true,true,true,false,false,false,false,false,false,false,false]) (a' := { tmps := #[.pointer (some ⟨p.b,0,none⟩),.pointer (some ⟨w.heap.size,0,none⟩),.slice none 0 0,.pointer (some ⟨w.heap.size+1,0,none⟩),.int .i64 x.1,.pointer (some ⟨p.b,0,none⟩),.bool false,.pointer (some ⟨p.b,0,none⟩),.pointer (some ⟨p.b,0,none⟩),.pointer (some ⟨p.b,0,none⟩),.func (.func 163) #[] #[.pointer (some ⟨w.heap.size+1+1,0,none⟩)],.int .i64 x.1,undef,.pointer (some ⟨p.b,0,none⟩),.pointer (some ⟨p.b,0,none⟩),.pointer (some ⟨p.b,0,none⟩),.pointer (some ⟨p.b,1,none⟩),undef,undef,undef,undef,undef,undef,undef,undef],defers:=[] }) (w':=W.drew) ?_ (fun s20=>?_)
  ·refine rr3 (i0:=0) (i1:=5) (i2:=6) rfl rfl rfl (fun K hK=>?_) (fun K hK=>?_) (fun K hK=>?_)
   ·(go_simp;refine hK _ _ ?_;exact rjump s14.out (by decide +kernel))
   ·(go_simp;refine hK _ _ ?_;exact rjump s16.out (by decide +kernel))
   ·(go_simp;refine hK _ _ ?_;exact rjump s17.out (by decide +kernel))
  refine rmerge (fuel':=9) (L' := #[false,true,true,true,false,false,true,false,false,false,false,false,false]) (a' := { tmps := #[.pointer (some ⟨p.b,0,none⟩),.pointer (some ⟨w.heap.size,0,none⟩),.slice none 0 0,.pointer (some ⟨w.heap.size+1,0,none⟩),.int .i64 x.1,.pointer (some ⟨p.b,0,none⟩),.bool false,.pointer (some ⟨p.b,0,none⟩),.pointer (some ⟨p.b,0,none⟩),.pointer (some ⟨p.b,0,none⟩),.func (.func 163) #[] #[.pointer (some ⟨w.heap.size+1+1,0,none⟩)],.int .i64 x.1,undef,.pointer (some ⟨p.b,0,none⟩),.pointer (some ⟨p.b,0,none⟩),.pointer (some ⟨p.b,0,none⟩),undef,undef,.int .i64 x.1,undef,undef,undef,undef,undef,undef],defers:=[] }) (w':=W.drew) ?_ (fun s21=>?_)
  ·refine rr2 (i0:=0) (i1:=4) rfl rfl (fun K hK=>?_) (fun K hK=>?_)
   ·(go_simp;refine hK _ _ ?_;exact rjump s15.out (by decide +kernel))
   ·(go_simp;refine hK _ _ ?_;exact rjump s17.out (by decide +kernel))
  refine rmerge (fuel':=10) (L' := #[true,true,true,false,false,false,false,false,false,false,false,false,false]) (a' := { tmps := #[.pointer (some ⟨p.b,0,none⟩),.pointer (some ⟨w.heap.size,0,none⟩),.slice none 0 0,.pointer (some ⟨w.heap.size+1,0,none⟩),.int .i64 x.1,.pointer (some ⟨p.b,0,none⟩),.bool false,.pointer (some ⟨p.b,0,none⟩),.pointer (some ⟨p.b,0,none⟩),.pointer (some ⟨p.b,0,none⟩),.func (.func 163) #[] #[.pointer (some ⟨w.heap.size+1+1,0,none⟩)],.int .i64 x.1,v,.pointer (some ⟨p.b,0,none⟩),.pointer (some ⟨p.b,0,none⟩),undef,undef,undef,undef,undef,undef,undef,undef,undef,undef],defers:=[] }) (w':=W.drew) ?_ (fun s22=>?_)
  ·refine rr2 (i0:=3) (i1:=6) rfl rfl (fun K hK=>?_) (fun K hK=>?_)
   ·(go_simp;refine hK _ _ ?_;exact rjump s18.out (by decide +kernel))
   ·(go_simp;refine hK _ _ ?_;exact rjump s19.out (by decide +kernel))
  refine rmerge (fuel':=10) (L' := #[true,true,false,false,false,false,true,false,false,false,false,false,false]) (a' := { tmps := #[.pointer (some ⟨p.b,0,none⟩),.pointer (some ⟨w.heap.size,0,none⟩),.slice none 0 0,.pointer (some ⟨w.heap.size+1,0,none⟩),.int .i64 x.1,.pointer (some ⟨p.b,0,none⟩),.bool false,.pointer (some ⟨p.b,0,none⟩),.pointer (some ⟨p.b,0,none⟩),.pointer (some ⟨p.b,0,none⟩),.func (.func 163) #[] #[.pointer (some ⟨w.heap.size+1+1,0,none⟩)],.int .i64 x.1,v,.pointer (some ⟨p.b,0,none⟩),undef,undef,undef,undef,.int .i64 x.1,undef,undef,undef,undef,undef,undef],defers:=[] }) (w':=W.drew) ?_ (fun s23=>?_)
  ·refine rr1 (i0:=2) rfl (fun K hK=>?_)
   ·(go_simp;refine hK _ _ ?_;exact rjump s19.out (by decide +kernel))
  refine rmerge (fuel':=10) (L' := #[false,true,true,true,false,false,false,false,false,false,false,false,false]) (a' := { tmps := #[.pointer (some ⟨p.b,0,none⟩),.pointer (some ⟨w.heap.size,0,none⟩),.slice none 0 0,.pointer (some ⟨w.heap.size+1,0,none⟩),.int .i64 x.1,.pointer (some ⟨p.b,0,none⟩),.bool false,.pointer (some ⟨p.b,0,none⟩),.pointer (some ⟨p.b,0,none⟩),.pointer (some ⟨p.b,0,none⟩),.func (.func 163) #[] #[.pointer (some ⟨w.heap.size+1+1,0,none⟩)],.int .i64 x.1,undef,.pointer (some ⟨p.b,0,none⟩),.pointer (some ⟨p.b,0,none⟩),.pointer (some ⟨p.b,0,none⟩),undef,undef,undef,undef,undef,undef,undef,undef,undef],defers:=[] }) (w':=W.drew) ?_ (fun s24=>?_)
  ·refine rr3 (i0:=0) (i1:=4) (i2:=6) rfl rfl rfl (fun K hK=>?_) (fun K hK=>?_) (fun K hK=>?_)
   ·(go_simp;refine hK _ _ ?_;exact rjump s18.out (by decide +kernel))
   ·(go_simp;refine hK _ _ ?_;exact rjump s20.out (by decide +kernel))
   ·(go_simp;refine hK _ _ ?_;exact rjump s21.out (by decide +kernel))
  refine rmerge (fuel':=10) (L' := #[false,true,true,false,false,false,true,false,false,false,false,false,false]) (a' := { tmps := #[.pointer (some ⟨p.b,0,none⟩),.pointer (some ⟨w.heap.size,0,none⟩),.slice none 0 0,.pointer (some ⟨w.heap.size+1,0,none⟩),.int .i64 x.1,.pointer (some ⟨p.b,0,none⟩),.bool false,.pointer (some ⟨p.b,0,none⟩),.pointer (some ⟨p.b,0,none⟩),.pointer (some ⟨p.b,0,none⟩),.func (.func 163) #[] #[.pointer (some ⟨w.heap.size+1+1,0,none⟩)],.int .i64 x.1,undef,.pointer (some ⟨p.b,0,none⟩),.pointer (some ⟨p.b,0,none⟩),undef,undef,undef,.int .i64 x.1,undef,undef,undef,undef,undef,undef],defers:=[] }) (w':=W.drew) ?_ (fun s25=>?_)
  ·refine rr2 (i0:=0) (i1:=3) rfl rfl (fun K hK=>?_) (fun K hK=>?_)
   ·(go_simp;refine hK _ _ ?_;exact rjump s19.out (by decide +kernel))
   ·(go_simp;refine hK _ _ ?_;exact rjump s21.out (by decide +kernel))
  refine rmerge (fuel':=11) (L' := #[true,true,false,false,false,false,false,false,false,false,false,false,false]) (a' := { tmps := #[.pointer (some ⟨p.b,0,none⟩),.pointer (some ⟨w.heap.size,0,none⟩),.slice none 0 0,.pointer (some ⟨w.heap.size+1,0,none⟩),.int .i64 x.1,.pointer (some ⟨p.b,0,none⟩),.bool false,.pointer (some ⟨p.b,0,none⟩),.pointer (some ⟨p.b,0,none⟩),.pointer (some ⟨p.b,0,none⟩),.func (.func 163) #[] #[.pointer (some ⟨w.heap.size+1+1,0,none⟩)],.int .i64 x.1,v,.pointer (some ⟨p.b,0,none⟩),undef,undef,undef,undef,undef,undef,undef,undef,undef,undef,undef],defers:=[] }) (w':=W.drew) ?_ (fun s26=>?_)
  ·refine rr2 (i0:=2) (i1:=6) rfl rfl (fun K hK=>?_) (fun K hK=>?_)
   ·(go_simp;refine hK _ _ ?_;exact rjump s22.out (by decide +kernel))
   ·(go_simp;refine hK _ _ ?_;exact rjump s23.out (by decide +kernel))
  refine rmerge (fuel':=11) (L' := #[true,false,false,false,false,false,true,false,false,false,false,false,false]) (a' := { tmps := #[.pointer (some ⟨p.b,0,none⟩),.pointer (some ⟨w.heap.size,0,none⟩),.slice none 0 0,.pointer (some ⟨w.heap.size+1,0,none⟩),.int .i64 x.1,.pointer (some ⟨p.b,0,none⟩),.bool false,.pointer (some ⟨p.b,0,none⟩),.pointer (some ⟨p.b,0,none⟩),.pointer (some ⟨p.b,0,none⟩),.func (.func 163) #[] #[.pointer (some ⟨w.heap.size+1+1,0,none⟩)],.int .i64 x.1,v,undef,undef,undef,undef,undef,.int .i64 x.1,undef,undef,undef,undef,undef,undef],defers:=[] }) (w':=W.drew) ?_ (fun s27=>?_)
  ·refine rr1 (i0:=1) rfl (fun K hK=>?_)
   ·(go_simp;refine hK _ _ ?_;exact rjump s23.out (by decide +kernel))
  refine rmerge (fuel':=11) (L' := #[false,true,true,false,false,false,false,false,false,false,false,false,false]) (a' := { tmps := #[.pointer (some ⟨p.b,0,none⟩),.pointer (some ⟨w.heap.size,0,none⟩),.slice none 0 0,.pointer (some ⟨w.heap.size+1,0,none⟩),.int .i64 x.1,.pointer (some ⟨p.b,0,none⟩),.bool false,.pointer (some ⟨p.b,0,none⟩),.pointer (some ⟨p.b,0,none⟩),.pointer (some ⟨p.b,0,none⟩),.func (.func 163) #[] #[.pointer (some ⟨w.heap.size+1+1,0,none⟩)],.int .i64 x.1,undef,.pointer (some ⟨p.b,0,none⟩),.pointer (some ⟨p.b,0,none⟩),undef,undef,undef,undef,undef,undef,undef,undef,undef,undef],defers:=[] }) (w':=W.drew) ?_ (fun s28=>?_)
  ·refine rr3 (i0:=0) (i1:=3) (i2:=6) rfl rfl rfl (fun K hK=>?_) (fun K hK=>?_) (fun K hK=>?_)
   ·(go_simp;refine hK _ _ ?_;exact rjump s22.out (by decide +kernel))
   ·(go_simp;refine hK _ _ ?_;exact rjump s24.out (by decide +kernel))
   ·(go_simp;refine hK _ _ ?_;exact rjump s25.out (by decide +kernel))
  refine rmerge (fuel':=11) (L' := #[false,true,false,false,false,false,true,false,false,false,false,false,false]) (a' := { tmps := #[.pointer (some ⟨p.b,0,none⟩),.pointer (some ⟨w.heap.size,0,none⟩),.slice none 0 0,.pointer (some ⟨w.heap.size+1,0,none⟩),.int .i64 x.1,.pointer (some ⟨p.b,0,none⟩),.bool false,.pointer (some ⟨p.b,0,none⟩),.pointer (some ⟨p.b,0,none⟩),.pointer (some ⟨p.b,0,none⟩),.func (.func 163) #[] #[.pointer (some ⟨w.heap.size+1+1,0,none⟩)],.int .i64 x.1,undef,.pointer (some ⟨p.b,0,none⟩),undef,undef,undef,undef,.int .i64 x.1,undef,undef,undef,undef,undef,undef],defers:=[] }) (w':=W.drew) ?_ (fun s29=>?_)
  ·refine rr2 (i0:=0) (i1:=2) rfl rfl (fun K hK=>?_) (fun K hK=>?_)
   ·(go_simp;refine hK _ _ ?_;exact rjump s23.out (by decide +kernel))
   ·(go_simp;refine hK _ _ ?_;exact rjump s25.out (by decide +kernel))
  refine rmerge (fuel':=12) (L' := #[true,false,false,false,false,false,false,false,false,false,false,false,false]) (a' := { tmps := #[.pointer (some ⟨p.b,0,none⟩),.pointer (some ⟨w.heap.size,0,none⟩),.slice none 0 0,.pointer (some ⟨w.heap.size+1,0,none⟩),.int .i64 x.1,.pointer (some ⟨p.b,0,none⟩),.bool false,.pointer (some ⟨p.b,0,none⟩),.pointer (some ⟨p.b,0,none⟩),.pointer (some ⟨p.b,0,none⟩),.func (.func 163) #[] #[.pointer (some ⟨w.heap.size+1+1,0,none⟩)],.int .i64 x.1,v,undef,undef,undef,undef,undef,undef,undef,undef,undef,undef,undef,undef],defers:=[] }) (w':=W.drew) ?_ (fun s30=>?_)
  ·refine rr2 (i0:=1) (i1:=6) rfl rfl (fun K hK=>?_) (fun K hK=>?_)
   ·(go_simp;refine hK _ _ ?_;exact rjump s26.out (by decide +kernel))
   ·(go_simp;refine hK _ _ ?_;exact rjump s27.out (by decide +kernel))
  refine rmerge (fuel':=12) (L' := #[false,true,false,false,false,false,false,false,false,false,false,false,false]) (a' := { tmps := #[.pointer (some ⟨p.b,0,none⟩),.pointer (some ⟨w.heap.size,0,none⟩),.slice none 0 0,.pointer (some ⟨w.heap.size+1,0,none⟩),.int .i64 x.1,.pointer (some ⟨p.b,0,none⟩),.bool false,.pointer (some ⟨p.b,0,none⟩),.pointer (some ⟨p.b,0,none⟩),.pointer (some ⟨p.b,0,none⟩),.func (.func 163) #[] #[.pointer (some ⟨w.heap.size+1+1,0,none⟩)],.int .i64 x.1,undef,.pointer (some ⟨p.b,0,none⟩),undef,undef,undef,undef,undef,undef,undef,undef,undef,undef,undef],defers:=[] }) (w':=W.drew) ?_ (fun s31=>?_)
  ·refine rr3 (i0:=0) (i1:=2) (i2:=6) rfl rfl rfl (fun K hK=>?_) (fun K hK=>?_) (fun K hK=>?_)
   ·(go_simp;refine hK _ _ ?_;exact rjump s26.out (by decide +kernel))
   ·(go_simp;refine hK _ _ ?_;exact rjump s28.out (by decide +kernel))
   ·(go_simp;refine hK _ _ ?_;exact rjump s29.out (by decide +kernel))
  refine rmerge (fuel':=12) (L' := #[false,false,false,false,false,false,true,false,false,false,false,false,false]) (a' := { tmps := #[.pointer (some ⟨p.b,0,none⟩),.pointer (some ⟨w.heap.size,0,none⟩),.slice none 0 0,.pointer (some ⟨w.heap.size+1,0,none⟩),.int .i64 x.1,.pointer (some ⟨p.b,0,none⟩),.bool false,.pointer (some ⟨p.b,0,none⟩),.pointer (some ⟨p.b,0,none⟩),.pointer (some ⟨p.b,0,none⟩),.func (.func 163) #[] #[.pointer (some ⟨w.heap.size+1+1,0,none⟩)],.int .i64 x.1,undef,undef,undef,undef,undef,undef,.int .i64 x.1,undef,undef,undef,undef,undef,undef],defers:=[] }) (w':=W.drew) ?_ (fun s32=>?_)
  ·refine rr2 (i0:=0) (i1:=1) rfl rfl (fun K hK=>?_) (fun K hK=>?_)
   ·(go_simp;refine hK _ _ ?_;exact rjump s27.out (by decide +kernel))
   ·(go_simp;refine hK _ _ ?_;exact rjump s29.out (by decide +kernel))
  refine rr3 (i0:=0) (i1:=1) (i2:=6) rfl rfl rfl (fun K hK=>?_) (fun K hK=>?_) (fun K hK=>?_)
  ·(go_simp;refine hK _ _ ?_;exact rjump s30.out (by decide +kernel))
  ·(go_simp;refine hK _ _ ?_;exact rjump s31.out (by decide +kernel))
  ·(go_simp;refine hK _ _ ?_;exact rjump s32.out (by decide +kernel))
 case done =>
  rintro D ys W hD rfl ⟨⟨⟨v,hv,hrow,-⟩,bT,bN⟩,hB⟩ hK
  have hc:=hv.cell
  gi_wp2
  refine⟨by simp,.inl ⟨_,_,rfl,run_takeDeferred hK,?_⟩⟩
  have hrow2:=ownsRow_putObj hrow (.deferred none) hK rfl
  rw[hol,show(ys.map fun x=>keyV t x.1)=o.map (keyV t) by rw[← hos,List.map_map];rfl] at hrow2
  exact⟨_,results_tmp rfl _ _ _,v,rfl,hrow2,hB.trans (belowK_b (w:=w) (Nat.le_refl _) W D _ _ (by simp at hD;omega) hK rfl rfl)⟩
 case stop =>
  rintro D c pre W _ _ h _
  exact h.elim
theorem keys_any (p:TbP) (t:Tb) (o:List Nat) (w:World) (h:TabAt w p t o) :
  Calls Tryz.prog 75 #[.pointer (some ⟨p.b,0,none⟩)] w fun e W'=>∃ v,e=.returned v∧W'.ownsRow w.heap.size 9 1 v o.length (o.map (keyV t))∧Below w.heap.size w W' :=
 (callsIn_wide (n:=3)).1 (keys_in _ 3 trivial trivial trivial rfl (Nat.le_refl _) p t o w h)
end Go.Proofs.YtmhikkbdhboodaaGreat

namespace Go.Proofs.YtmhikkbdhboodaaGreat
open Go.RowKit Go.Maps
set_option linter.unusedVariables false
set_option linter.unusedSimpArgs false

def newTb (r:Nat):Tb:=⟨r,0,fun _=>⟨[],0,0,0⟩,[],fun _=>0,-1,-1⟩
def roomOf (r:Int):Nat:=(max 0 (min r 10000)).toNat
theorem wrow_zero:∀ n,wrow (fun _=>0) n=List.replicate n (.int .i64 0)
 | 0=>rfl
 | n+1=>by
  show wrow (fun _=>0) n ++ [Value.int .i64 ((0:Nat):Int)]=_
  rw[wrow_zero n,List.replicate_succ']
  rfl
theorem newTb_ti (r:Nat):TI fnv (newTb r) [] :=
 ⟨Nat.zero_le _,List.nodup_nil,List.nodup_nil,(fun _ h=>by cases h),(fun _ h=>by cases h),(fun _ h=>by cases h),rfl,(fun _ h=>by cases h),trivial,rfl,rfl,(fun _ _ => .inl rfl),(fun _ _ _ _ h _=>absurd rfl h),(fun _ h=>by cases h)⟩
theorem newTb_at {w1:World} {g r:Nat} {z:Int} {ty:TypeId} (hz:z=(r:Int)) (hr:r≤10000) (h:w1.ownsRow 0 3 1 (.slice (some ⟨g,0,none⟩) (2*r+1) (2*r+1)) (2*r+1) (madeCells #[Value.int .i64 0] (2*r+1)).toList) :
  TabAt (w1.alloc (.cells #[.int .i64 z,.slice none 0 0,.slice none 0 0,.slice (some ⟨g,0,none⟩) (2*r+1) (2*r+1),.int .i64 (-1),.int .i64 (-1)] ty)) ⟨w1.heap.size,.slice none 0 0,.slice none 0 0,g⟩ (newTb r) []:=by
 subst hz
 have hg:=(World.ownsRow.lt h g rfl).2
 rw[toList_madeCells_one] at h
 refine⟨⟨by simp[newTb],by simp,by simp,by simp[newTb,Tb.W],by simp[newTb],by simp[newTb],fun i hi=>?_,World.ownsRow_nil _ _ _ _,World.ownsRow_nil _ _ _ _,?_,by dsimp only;omega,(fun k hk=>by cases hk),(fun k hk=>by cases hk),hr,Nat.zero_le _,fun i _=>Nat.zero_le _⟩,newTb_ti r,fun k hk=>by cases hk⟩
 ·have:i=0∨i=1∨i=2∨i=3∨i=4∨i=5:=by omega
  rcases this with rfl|rfl|rfl|rfl|rfl|rfl <;> simp
 ·have e:wrow (newTb r).ways (newTb r).W=List.replicate (2*r+1) (.int .i64 0):=wrow_zero _
  rw[e]
  exact row_frame h fun k hk=>by cases hk;exact(bl_alloc (bl_refl w1) _).block g hg
theorem tnew_any (room:Int) (w:World) :
  Calls Tryz.prog 72 #[.int .i64 room] w fun e w'=>∃ p:TbP,e=.returned (.pointer (some ⟨p.b,0,none⟩))∧TabAt w' p (newTb (roomOf room)) []∧Below w.heap.size w w'∧∀ q,TF p q→w.heap.size≤q:=by
 go_enter Tryz.func72,Tryz.ntmps72
 obtain⟨i0,hi,hz0,hz1,hz2⟩:=info_parts infoTI
 go_wp2_with (at_make;refine wpList_make_full _ rfl _ _ 109 rfl 0 3 i0 _ 1 undTI hi hz0 hz1 _ _ _ _ (2*roomOf room+1) rfl rfl ?_ ?_ ?_ ?_ (Nat.zero_le _) ?_)
 all_goals first|((try rw[hz2]);unfold roomOf;(try simp only[maxLen]);omega)|skip
 all_goals intro w1 hown hgr
 all_goals go_wp2_with fail
 all_goals go_ret
 all_goals rename_i hif
 all_goals have hsz:=hgr.size
 all_goals refine⟨⟨w1.heap.size,.slice none 0 0,.slice none 0 0,w.heap.size⟩,rfl,newTb_at (by unfold roomOf;first|omega|(split at hif <;> omega)) (by unfold roomOf;omega) hown,bl_alloc ((bl_refl w).grown hgr (Nat.le_refl _) (fun k hk=>by cases hk)) _,?_⟩
 all_goals(rintro q (rfl|rfl|hq|hq);exact hsz;exact Nat.le_refl _;cases hq;cases hq)
def kvOf (t:Tb) (k:Nat):Key × Int:=((t.sl k).key,(t.sl k).val)
/-- A table: room, keys and numbers. -/
def TabL (w:World) (p:TbP) (r:Nat) (E:List (Key × Int)):Prop:=∃ t o,TabAt w p t o∧t.room=r∧o.map (kvOf t)=E
theorem kv_split {t:Tb} {o:List Nat} {A B:List (Key × Int)} {e:Key × Int} (h:o.map (kvOf t)=A ++ e :: B):∃ a k b,o=a ++ k :: b∧a.map (kvOf t)=A∧kvOf t k=e∧b.map (kvOf t)=B:=by
 obtain⟨a,c,rfl,ha,hc⟩:=List.map_eq_append_iff.1 h
 obtain⟨k,b,rfl,hk,hb⟩:=List.map_eq_cons_iff.1 hc
 exact⟨a,k,b,rfl,ha,hk,hb⟩
theorem kv_none {t:Tb} {o:List Nat} {E:List (Key × Int)} {x:Key} (h:o.map (kvOf t)=E) (hx:∀ e ∈ E,e.1≠x):∀ k ∈ o,(t.sl k).key≠x:=fun k hk=>hx (kvOf t k) (h ▸ List.mem_map.2 ⟨k,hk,rfl⟩)
theorem kv_congr {t t':Tb} {l:List Nat} (h:∀ k ∈ l,(t'.sl k).key=(t.sl k).key∧(t'.sl k).val=(t.sl k).val):l.map (kvOf t')=l.map (kvOf t) :=
 List.map_congr_left fun k hk=>by unfold kvOf;rw[(h k hk).1,(h k hk).2]
theorem touch_kv (t:Tb) (k x:Nat):((t.touch k).sl x).key=(t.sl x).key∧((t.touch k).sl x).val=(t.sl x).val:=by
 have h1:=laySl_key (cutSl t.sl k) (t.cut k).last k x
 have h2:=cutSl_key t.sl k x
 exact⟨h1.1.trans h2.1,h1.2.trans h2.2⟩
theorem setVal_kv (t:Tb) (k:Nat) (v:Int) {x:Nat} (h:x≠k):((t.setVal k v).sl x).key=(t.sl x).key∧((t.setVal k v).sl x).val=(t.sl x).val:=by
 unfold Tb.setVal
 dsimp only
 rw[upd_ne _ _ h]
 exact⟨rfl,rfl⟩
theorem tabl_bl {w w':World} {p:TbP} {r:Nat} {E:List (Key × Int)} (h:TabL w p r E) (hb:Below w.heap.size w w'):TabL w' p r E:=by
 obtain⟨t,o,h1,h2,h3⟩:=h
 exact⟨t,o,tab_bl h1 hb,h2,h3⟩
theorem TabL.frame {w w':World} {p:TbP} {r:Nat} {E:List (Key × Int)} (h:TabL w p r E) (hb:∀ k,TF p k→w'.heap[k]?=w.heap[k]?):TabL w' p r E:=by
 obtain⟨t,o,h1,h2,h3⟩:=h
 exact⟨t,o,h1.frame hb,h2,h3⟩
theorem TabL.lt {w:World} {p:TbP} {r:Nat} {E:List (Key × Int)} (h:TabL w p r E):∀ q,TF p q→q<w.heap.size:=by
 obtain⟨t,o,h1,h2,h3⟩:=h
 exact h1.m.lt
theorem TabL.apart {w:World} {p:TbP} {r:Nat} {E:List (Key × Int)} (h:TabL w p r E):(E.map (·.1)).Nodup:=by
 obtain⟨t,o,h1,h2,rfl⟩:=h
 rw[List.map_map]
 have hn:o.Pairwise (· ≠ ·):=h1.ti.nodup
 exact List.pairwise_map.2 (hn.imp_of_mem fun {a b} ha hb hne e=>hne (h1.ti.keys a ha b hb e))
theorem TabL.short {w:World} {p:TbP} {r:Nat} {E:List (Key × Int)} (h:TabL w p r E):∀ e ∈ E,e.1.length≤maxLen:=by
 obtain⟨t,o,h1,h2,rfl⟩:=h
 intro e he
 obtain⟨k,hk,rfl⟩:=List.mem_map.1 he
 exact h1.ks k hk
theorem TabL.room {w:World} {p:TbP} {r:Nat} {E:List (Key × Int)} (h:TabL w p r E):E.length≤r∧r≤10000:=by
 obtain⟨t,o,h1,rfl,rfl⟩:=h
 have:=h1.ti.len
 have:=h1.m.nr
 rw[List.length_map]
 exact⟨by omega,h1.m.small⟩
theorem lpeek_none {p:TbP} {r:Nat} {E:List (Key × Int)} (s:ByteArray) (w:World) (h:TabL w p r E) (hs:s.size≤maxLen) (hx:∀ e ∈ E,e.1≠s.data.toList) :
  Calls Tryz.prog 76 #[.pointer (some ⟨p.b,0,none⟩),.string s] w fun e w'=>e=.returned (.tuple #[.int .i64 0,.bool false])∧Below w.heap.size w w':=by
 obtain⟨t,o,h1,rfl,h3⟩:=h
 exact peek_none p t o s w h1 hs (kv_none h3 hx)
theorem lpeek_some {p:TbP} {r:Nat} {A B:List (Key × Int)} {v:Int} (s:ByteArray) (w:World) (h:TabL w p r (A ++ (s.data.toList,v) :: B)) (hs:s.size≤maxLen) :
  Calls Tryz.prog 76 #[.pointer (some ⟨p.b,0,none⟩),.string s] w fun e w'=>e=.returned (.tuple #[.int .i64 v,.bool true])∧Below w.heap.size w w':=by
 obtain⟨t,o,h1,rfl,h3⟩:=h
 obtain⟨a,k,b,rfl,-,hk,-⟩:=kv_split h3
 injection hk with hk1 hk2
 have:=peek_some p t _ k s w h1 hs (by simp) hk1
 rw[hk2] at this
 exact this
theorem llen {p:TbP} {r:Nat} {E:List (Key × Int)} (w:World) (h:TabL w p r E) :
  Calls Tryz.prog 80 #[.pointer (some ⟨p.b,0,none⟩)] w fun e w'=>e=.returned (.int .i64 (E.length:Nat))∧Below w.heap.size w w':=by
 obtain⟨t,o,h1,rfl,rfl⟩:=h
 rw[List.length_map]
 exact tlen_any p t o w h1
theorem lput_there {p:TbP} {r:Nat} {A B:List (Key × Int)} {v0:Int} (s:ByteArray) (v:Int) (w:World) (h:TabL w p r (A ++ (s.data.toList,v0) :: B)) (hs:s.size≤maxLen) :
  Calls Tryz.prog 82 #[.pointer (some ⟨p.b,0,none⟩),.string s,.int .i64 v] w fun e w'=>e=.returned (.bool true)∧TabL w' p r (A ++ B ++ [(s.data.toList,v)])∧Only (TF p) w w':=by
 obtain⟨t,o,h1,rfl,h3⟩:=h
 obtain⟨a,k,b,rfl,rfl,hk,rfl⟩:=kv_split h3
 injection hk with hk1 hk2
 refine(tput_lift p s v w true _ (put_there p t _ k s v w h1 (by simp) hs hk1)).mono ?_
 rintro e w' ⟨rfl,ht,hO⟩
 refine⟨rfl,⟨_,_,ht,rfl,?_⟩,hO⟩
 have hn:=h1.ti.nodup
 rw[erase_split hn]
 have hne:∀ x ∈ a ++ b,x≠k:=fun x hx e=>by
  subst e
  rw[List.nodup_append] at hn
  rcases List.mem_append.1 hx with hx|hx
  ·exact hn.2.2 x hx x (List.mem_cons_self ..) rfl
  ·exact(List.nodup_cons.1 hn.2.1).1 hx
 rw[List.map_append (l₁:=a ++ b),kv_congr (t:=t) (t':=(t.setVal k v).touch k) (l:=a ++ b) (fun x hx=>⟨(touch_kv _ k x).1.trans (setVal_kv t k v (hne x hx)).1,(touch_kv _ k x).2.trans (setVal_kv t k v (hne x hx)).2⟩),List.map_append (l₁:=a)]
 congr 1
 show[kvOf _ k]=_
 unfold kvOf
 rw[(touch_kv _ k k).1,(touch_kv _ k k).2]
 unfold Tb.setVal
 dsimp only
 rw[upd_same]
 dsimp only
 rw[hk1]
theorem lput_new {p:TbP} {r:Nat} {E:List (Key × Int)} (s:ByteArray) (v:Int) (w:World) (h:TabL w p r E) (hs:s.size≤maxLen) (hx:∀ e ∈ E,e.1≠s.data.toList) (hf:E.length<r) :
  Calls Tryz.prog 82 #[.pointer (some ⟨p.b,0,none⟩),.string s,.int .i64 v] w fun e w'=>e=.returned (.bool true)∧∃ p':TbP,p'.b=p.b∧TabL w' p' r (E ++ [(s.data.toList,v)])∧Only (TF p) w w'∧∀ q,TF p' q→TF p q∨w.heap.size≤q:=by
 obtain⟨t,o,h1,rfl,rfl⟩:=h
 rw[List.length_map] at hf
 obtain⟨i,ha⟩:=ti_stop h1.ti s.data.toList
 refine(tput_lift p s v w true _ (put_new p t o i s v w h1 hs ha (kv_none rfl hx) hf)).mono ?_
 rintro e w' ⟨rfl,vs,vf,k,n1,f1,ht,hk,hO,hTF⟩
 refine⟨rfl,TP p vs vf,rfl,⟨_,_,ht,rfl,?_⟩,hO,hTF⟩
 have e1:∀ x,((t.new k i s.data.toList v f1 n1).sl x).key=(upd t.sl k ⟨s.data.toList,v,0,0⟩ x).key∧((t.new k i s.data.toList v f1 n1).sl x).val=(upd t.sl k ⟨s.data.toList,v,0,0⟩ x).val:=fun x=>laySl_key _ _ k x
 rw[List.map_append]
 have hne:∀ x ∈ o,x≠k:=fun x hx e=>hk (e ▸ hx)
 rw[kv_congr (t:=t) (l:=o) (fun x hx=>by rw[(e1 x).1,(e1 x).2,upd_ne _ _ (hne x hx)];exact⟨rfl,rfl⟩)]
 congr 1
 show[kvOf _ k]=_
 unfold kvOf
 rw[(e1 k).1,(e1 k).2,upd_same]
theorem ldel_some {p:TbP} {r:Nat} {A B:List (Key × Int)} {v0:Int} (s:ByteArray) (w:World) (h:TabL w p r (A ++ (s.data.toList,v0) :: B)) (hs:s.size≤maxLen) :
  Calls Tryz.prog 143 #[.pointer (some ⟨p.b,0,none⟩),.string s] w fun e w'=>e=.returned (.bool true)∧∃ p':TbP,p'.b=p.b∧TabL w' p' r (A ++ B)∧Only (TF p) w w'∧∀ q,TF p' q→TF p q∨w.heap.size≤q:=by
 obtain⟨t,o,h1,rfl,h3⟩:=h
 obtain⟨a,k,b,rfl,rfl,hk,rfl⟩:=kv_split h3
 injection hk with hk1 hk2
 refine(tdel_some p t _ k s w h1 hs (by simp) hk1).mono ?_
 rintro e w' ⟨rfl,vf,i,⟨wy,ht⟩,hO,hTF⟩
 refine⟨rfl,TP p p.vs vf,rfl,⟨_,_,ht,rfl,?_⟩,hO,hTF⟩
 have hn:=h1.ti.nodup
 rw[erase_split hn,← List.map_append]
 have hne:∀ x ∈ a ++ b,x≠k:=fun x hx e=>by
  subst e
  rw[List.nodup_append] at hn
  rcases List.mem_append.1 hx with hx|hx
  ·exact hn.2.2 x hx x (List.mem_cons_self ..) rfl
  ·exact(List.nodup_cons.1 hn.2.1).1 hx
 exact kv_congr fun x hx=>gone_key t (i:=i) (hne x hx)
theorem loldest_none {p:TbP} {r:Nat} (w:World) (h:TabL w p r []) :
  Calls Tryz.prog 166 #[.pointer (some ⟨p.b,0,none⟩)] w fun e w'=>e=.returned (.tuple #[.string { data := #[] },.int .i64 0,.bool false])∧Below w.heap.size w w':=by
 obtain⟨t,o,h1,rfl,h3⟩:=h
 have:=List.map_eq_nil_iff.1 h3
 subst this
 exact oldest_none p t w h1
theorem loldest_some {p:TbP} {r:Nat} {B:List (Key × Int)} {k:Key} {v:Int} (w:World) (h:TabL w p r ((k,v) :: B)) :
  Calls Tryz.prog 166 #[.pointer (some ⟨p.b,0,none⟩)] w fun e w'=>e=.returned (.tuple #[.string (ktx k),.int .i64 v,.bool true])∧Below w.heap.size w w':=by
 obtain⟨t,o,h1,rfl,h3⟩:=h
 obtain⟨i,b,rfl,hk,rfl⟩:=List.map_eq_cons_iff.1 h3
 injection hk with hk1 hk2
 have:=oldest_some p t b i w h1
 rw[hk1,hk2] at this
 exact this
theorem lnext_none {p:TbP} {r:Nat} {A:List (Key × Int)} {v:Int} (s:ByteArray) (w:World) (h:TabL w p r (A ++ [(s.data.toList,v)])) (hs:s.size≤maxLen) :
  Calls Tryz.prog 167 #[.pointer (some ⟨p.b,0,none⟩),.string s] w fun e w'=>e=.returned (.tuple #[.string { data := #[] },.bool false])∧Below w.heap.size w w':=by
 obtain⟨t,o,h1,rfl,h3⟩:=h
 obtain⟨a,k,b,rfl,-,hk,hb⟩:=kv_split h3
 have:=List.map_eq_nil_iff.1 hb
 subst this
 injection hk with hk1 hk2
 exact next_none p t a k s w h1 hs hk1
theorem lnext_some {p:TbP} {r:Nat} {A B:List (Key × Int)} {v v2:Int} {k2:Key} (s:ByteArray) (w:World) (h:TabL w p r (A ++ (s.data.toList,v) :: (k2,v2) :: B)) (hs:s.size≤maxLen) :
  Calls Tryz.prog 167 #[.pointer (some ⟨p.b,0,none⟩),.string s] w fun e w'=>e=.returned (.tuple #[.string (ktx k2),.bool true])∧Below w.heap.size w w':=by
 obtain⟨t,o,h1,rfl,h3⟩:=h
 obtain⟨a,k,b,rfl,-,hk,hb⟩:=kv_split h3
 obtain⟨l,c,rfl,hl,-⟩:=List.map_eq_cons_iff.1 hb
 injection hk with hk1 hk2
 injection hl with hl1 hl2
 have:=next_some p t a c k l s w h1 hs hk1
 rw[hl1] at this
 exact this
def kstr (e:Key × Int):Value:=.string (ktx e.1)
theorem lkeys {p:TbP} {r:Nat} {E:List (Key × Int)} (w:World) (h:TabL w p r E) :
  Calls Tryz.prog 75 #[.pointer (some ⟨p.b,0,none⟩)] w fun e w'=>∃ v,e=.returned v∧w'.ownsRow w.heap.size 9 1 v E.length (E.map kstr)∧Below w.heap.size w w':=by
 obtain⟨t,o,h1,rfl,rfl⟩:=h
 refine(keys_any p t o w h1).mono ?_
 rintro e w' ⟨v,rfl,hr,hb⟩
 refine⟨v,rfl,?_,hb⟩
 rw[List.length_map,List.map_map]
 exact hr
theorem lnew (room:Int) (w:World) :
  Calls Tryz.prog 72 #[.int .i64 room] w fun e w'=>∃ p:TbP,e=.returned (.pointer (some ⟨p.b,0,none⟩))∧TabL w' p (roomOf room) []∧Below w.heap.size w w'∧∀ q,TF p q→w.heap.size≤q:=by
 refine(tnew_any room w).mono ?_
 rintro e w' ⟨p,rfl,ht,hb,hq⟩
 exact⟨p,rfl,⟨_,_,ht,rfl,rfl⟩,hb,hq⟩
end Go.Proofs.YtmhikkbdhboodaaGreat
